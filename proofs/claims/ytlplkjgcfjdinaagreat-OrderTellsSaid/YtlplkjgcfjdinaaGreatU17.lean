/- The proof of a given statement, a part of it (Rf22b Wat Exp Repl Repl2 Leg Works22 ShR12 ShR11 Rf11 ShR02 Rf02 Rf11b Rf12 ShR09 ShR10 ShR01 Rf01 Without Rf09 Makes Rf17a ShR07 ShR05 ShR06 ShR03 ShR04 Rf03 Rf04 Rf07 Rf08 ShR13). No condition but what each lemma says. -/
import Derived.Test.YtlplkjgcfjdinaaGreatU16
set_option linter.unusedVariables false
set_option linter.unusedSimpArgs false
namespace Go.Proofs.YtlplkjgcfjdinaaGreat
open Go
theorem C2m (w : World) (v : Value) (l : List RecV) (hn : l.length ≤ 1000000) (hv : D4 w v l.length (l.flatMap H6)) :
  Fn PR B7 13 #[v] w (fun r w' => r = .bool (A0Y l) ∧ C6 [] w w') := by
 refine Fn.pure (A60 (TW.go (κ := false) (S := []) ?_))
 unfold A1k
 obtain ⟨a, c, rfl, hr⟩ := hv.form
 (have zz:=trivial;repeat((first|clear zz|with_reducible first|refine A3 ?_|refine A4 fun _=>?_|refine A5 fun _=>?_);try simp(disch:=first|omega|assumption|((repeat(first|exact A1|exact uH|apply A2|apply uT));first|done|fail)|(simp;first|done|omega|fail))[]))
 refine H4 (α := Unit) l.length (fun _ _ => .bool false) (fun _ _ => []) (fun i _ => ∀ j x, j < i → l[j]? = some x → T7 l j x = true) () (by simp) ?_
 rintro i _ hi hok L hL
 by_cases hlt : i < l.length
 case neg =>
  obtain rfl : i = l.length := by omega
  (have zz:=trivial;repeat((first|clear zz|with_reducible first|refine A3 ?_|refine A4 fun _=>?_|refine A5 fun _=>?_);try simp(disch:=first|omega|assumption|((repeat(first|exact A1|exact uH|apply A2|apply uT));first|done|fail)|(simp;first|done|omega|fail))[hlt]))
  exact A9 (by rw [B5f fun i x hx => hok i x (List.getElem?_eq_some_iff.1 hx).1 hx])
 obtain ⟨b, o, rfl, hrow⟩ := hr (by omega)
 obtain ⟨x, hx⟩ : ∃ x, l[i]? = some x := ⟨_, List.getElem?_eq_getElem (by omega)⟩
 have h1 := hrow.at (f := H6) (k := 10) (fun _ => rfl) hx
 rw [H6] at h1
 have hbad : T7 l i x = false → A0Y l = false := B62 hx
 have hnext : T7 l i x = true → TW false [] w [] (L (.bool false) (.int .i64 ((i : Int) + 1))) := fun h2 => hL hlt () fun j y hj hy => by
   by_cases e : j < i
   ·exact hok j y e hy
   ·obtain rfl : j = i := by omega
    rw [hx] at hy; injection hy with hy; subst hy; exact h2
 clear hL
 by_cases c1 : x.tk < 0
 ·by_cases c2 : x.en < 0
  ·have c2' : ¬ 0 ≤ x.en := by omega
   (have zz:=trivial;repeat((first|clear zz|with_reducible first|refine A3 ?_|refine A4 fun _=>?_|refine A5 fun _=>?_);try simp(disch:=first|omega|assumption|((repeat(first|exact A1|exact uH|apply A2|apply uT));first|done|fail)|(simp;first|done|omega|fail))[hlt, h1, c1, c2, c2']))
   exact Sels.tw (by (repeat' constructor)) (hnext (by simp [T7, c1, c2]))
  ·have c2' : 0 ≤ x.en := by omega
   (have zz:=trivial;repeat((first|clear zz|with_reducible first|refine A3 ?_|refine A4 fun _=>?_|refine A5 fun _=>?_);try simp(disch:=first|omega|assumption|((repeat(first|exact A1|exact uH|apply A2|apply uT));first|done|fail)|(simp;first|done|omega|fail))[hlt, h1, c1, c2, c2']))
   exact A9 (by rw [hbad (by simp [T7, c1, c2])])
 have c1' : 0 ≤ x.tk := by omega
 by_cases c3 : x.tk < x.st
 ·(have zz:=trivial;repeat((first|clear zz|with_reducible first|refine A3 ?_|refine A4 fun _=>?_|refine A5 fun _=>?_);try simp(disch:=first|omega|assumption|((repeat(first|exact A1|exact uH|apply A2|apply uT));first|done|fail)|(simp;first|done|omega|fail))[hlt, h1, c1, c1', c3]))
  exact A9 (by rw [hbad (by simp [T7, c1]; intro h; omega)])
 have c3' : x.st ≤ x.tk := by omega
 by_cases c4 : 0 ≤ x.en ∧ x.en < x.tk
 ·obtain ⟨c4, c5⟩ := c4
  have c4' : ¬ x.en < 0 := by omega
  (have zz:=trivial;repeat((first|clear zz|with_reducible first|refine A3 ?_|refine A4 fun _=>?_|refine A5 fun _=>?_);try simp(disch:=first|omega|assumption|((repeat(first|exact A1|exact uH|apply A2|apply uT));first|done|fail)|(simp;first|done|omega|fail))[hlt, h1, c1, c1', c3, c4, c4', c5]))
  exact A9 (by rw [hbad (by simp [T7, c1, c4']; intro _ h; omega)])
 have c6 : x.en < 0 ∨ x.tk ≤ x.en := by omega
 have c8 : 0 ≤ x.en → (x.en < x.tk) = False := fun h => by simp; omega
 by_cases c7 : 0 ≤ x.en
 all_goals (have zz:=trivial;repeat((first|clear zz|with_reducible first|refine A3 ?_|refine A4 fun _=>?_|refine A5 fun _=>?_);try simp(disch:=first|omega|assumption|((repeat(first|exact A1|exact uH|apply A2|apply uT));first|done|fail)|(simp;first|done|omega|fail))[hlt, h1, c1, c1', c3, c7, c8]))
 all_goals rename_i bx
 all_goals refine H4 (α := Unit) i (fun _ _ => .bool false) (fun _ _ => [.pt bx (.cells x.cs 46)]) (fun k _ => ∀ j y, j < k → l[j]? = some y → ¬ y.tk = x.tk) () (by simp) ?_
 all_goals
  rintro k _ hk hpre L2 hL2
  by_cases hkl : k < i
  ·obtain ⟨y, hy⟩ : ∃ y, l[k]? = some y := ⟨_, List.getElem?_eq_getElem (by omega)⟩
   have h2 := hrow.cellAt (f := H6) (k := 10) (j := 3) (fun _ => rfl) hy rfl
   have hkl' : k < l.length := by omega
   by_cases he : y.tk = x.tk
   ·have hs : (l.take i).any (fun y => decide (y.tk = x.tk)) = true := List.any_eq_true.2 ⟨y, List.mem_of_getElem? (by rw [List.getElem?_take_of_lt hkl]; exact hy), by simp [he]⟩
    (have zz:=trivial;repeat((first|clear zz|with_reducible first|refine A3 ?_|refine A4 fun _=>?_|refine A5 fun _=>?_);try simp(disch:=first|omega|assumption|((repeat(first|exact A1|exact uH|apply A2|apply uT));first|done|fail)|(simp;first|done|omega|fail))[hkl, hkl', h2, he, RecV.cs]))
    exact A9 (by rw [hbad (by simp only [T7, if_neg c1, hs, Bool.not_true, Bool.and_false])])
   ·(have zz:=trivial;repeat((first|clear zz|with_reducible first|refine A3 ?_|refine A4 fun _=>?_|refine A5 fun _=>?_);try simp(disch:=first|omega|assumption|((repeat(first|exact A1|exact uH|apply A2|apply uT));first|done|fail)|(simp;first|done|omega|fail))[hkl, hkl', h2, he, RecV.cs]))
    refine Sels.tw (by (repeat' constructor)) (hL2 hkl () fun j z hj hz => ?_)
    by_cases e : j < k
    ·exact hpre j z e hz
    ·obtain rfl : j = k := by omega
     rw [hy] at hz; injection hz with hz; subst hz; exact he
  ·obtain rfl : k = i := by omega
   have hs : (l.take k).any (fun y => decide (y.tk = x.tk)) = false := by
    rw [List.any_eq_false]
    intro y hy
    obtain ⟨j, hj, e⟩ := List.getElem_of_mem hy
    simp only [List.length_take] at hj
    have := hpre j y (by omega) (by rw [← e, List.getElem_take, List.getElem?_eq_getElem])
    simpa using this
   (have zz:=trivial;repeat((first|clear zz|with_reducible first|refine A3 ?_|refine A4 fun _=>?_|refine A5 fun _=>?_);try simp(disch:=first|omega|assumption|((repeat(first|exact A1|exact uH|apply A2|apply uT));first|done|fail)|(simp;first|done|omega|fail))[hkl]))
   refine Sels.tw (by (repeat' constructor)) (hnext ?_)
   simp only [T7, if_neg c1, hs, Bool.not_false, Bool.and_true, decide_eq_true c3', Bool.true_and, Bool.or_eq_true, decide_eq_true_eq]; exact c6
structure FewScr (c : CfgV) (ts : List T5) : Prop where
 small : A4c c = true
 len : ts.length ≤ 7
 ops : ∀ t ∈ ts, u6 (t.2.map (·.1)) 24 = true
theorem FewScr.op {c : CfgV} {ts : List T5} (h : FewScr c ts) {t : T5} (ht : t ∈ ts) : t.2.length ≤ 24 ∧ ∀ o ∈ t.2, o.1.packet.size ≤ 100 ∧ o.1.pool.length ≤ 8 := by
 have := h.ops t ht
 unfold u6 at this
 rw [Bool.and_eq_true, List.all_eq_true] at this
 refine ⟨by have := this.1; simp at this; omega, fun o ho => ?_⟩
 have h2 := this.2 o.1 (List.mem_map_of_mem ho)
 simpa [B2e] using h2
theorem ThRd.form {w : World} {t : T5} (h : ThRd w t) : ∃ a k, t.1 = .slice a t.2.length k := by
 obtain ⟨a, k, e, _⟩ := h.rd.form
 exact ⟨a, k, e⟩
def A5N (c : CfgV) (ts : List T5) (r : Value) : Prop := ∃ b : Bool, r = .bool b ∧ (b = true → FewScr c ts)
theorem A5N.no {c : CfgV} {ts : List T5} : A5N c ts (.bool false) := ⟨false, rfl, by simp⟩
theorem C4G (w : World) (c : CfgV) (tv pv : Value) (ts : List T5) (hr : D4 w tv ts.length (ts.flatMap A1s)) (ht : ∀ t ∈ ts, ThRd w t) (hl : ts.length ≤ 9223372036854775807) (hp : ∃ a n k, pv = .slice a n k ∧ n ≤ 9223372036854775807) :
  Fn PR B7 7 #[.agg #[.int .i64 c.wk, .int .i64 c.sh, .int .i64 c.cp, .int .i64 c.idle, .int .i64 c.sl, tv, pv]] w (fun r w' => A5N c ts r ∧ C6 [] w w') := by
 refine Fn.pure (A74 (TW.go (κ := false) (S := []) ?_))
 unfold A14
 obtain ⟨a, k, rfl, hrow0⟩ := hr.form
 obtain ⟨pa, pn, pk, rfl, hpn⟩ := hp
 by_cases c1 : (7 : Int) < ts.length
 ·(have zz:=trivial;repeat((first|clear zz|with_reducible first|refine A3 ?_|refine A4 fun _=>?_|refine A5 fun _=>?_);try simp(disch:=first|omega|assumption|((repeat(first|exact A1|exact uH|apply A2|apply uT));first|done|fail)|(simp;first|done|omega|fail))[c1]))
  exact A9 A5N.no
 by_cases c2 : (400 : Int) < pn
 ·(have zz:=trivial;repeat((first|clear zz|with_reducible first|refine A3 ?_|refine A4 fun _=>?_|refine A5 fun _=>?_);try simp(disch:=first|omega|assumption|((repeat(first|exact A1|exact uH|apply A2|apply uT));first|done|fail)|(simp;first|done|omega|fail))[c1, c2]))
  exact A9 A5N.no
 (have zz:=trivial;repeat((first|clear zz|with_reducible first|refine A3 ?_|refine A4 fun _=>?_|refine A5 fun _=>?_);try simp(disch:=first|omega|assumption|((repeat(first|exact A1|exact uH|apply A2|apply uT));first|done|fail)|(simp;first|done|omega|fail))[c1, c2]))
 rename_i bs
 refine B34 (α := Nat) ts.length (fun _ x => .int .i64 (x : Nat)) (fun _ _ => .bool false) (fun _ _ => [.pt bs (.cells #[.int .i64 c.wk, .int .i64 c.sh, .int .i64 c.cp, .int .i64 c.idle, .int .i64 c.sl, .slice a ts.length k, .slice pa pn pk] 27)]) (fun i x => x ≤ 24 ∧ ∀ j t, j < i → ts[j]? = some t → u6 (t.2.map (·.1)) 24 = true) 0 ⟨by omega, by simp⟩ ?_
 rintro i x hi ⟨hx, hok⟩ L hL
 by_cases hlt : i < ts.length
 ·obtain ⟨b, o, rfl, hrow⟩ := hrow0 (by omega)
  have hy := List.getElem?_eq_getElem hlt
  have h1 := hrow.cellAt (f := A1s) (k := 1) (j := 0) (fun _ => rfl) hy rfl
  rw [Nat.mul_one, Nat.add_zero] at h1
  have hth := ht ts[i] (List.getElem_mem hlt)
  generalize ts[i] = t at *
  obtain ⟨ta, tk, hte⟩ := hth.form
  rw [hte] at h1
  have hlen := hth.len
  have hfw : ∀ w', LW false [] w [.pt bs (.cells #[.int .i64 c.wk, .int .i64 c.sh, .int .i64 c.cp, .int .i64 c.idle, .int .i64 c.sl, .slice (some ⟨b, o, none⟩) ts.length k, .slice pa pn pk] 27)] w' → _ := fun w' hw' => C4H w' (.slice ta t.2.length tk) t.2 24 hlen ((hte ▸ hth.rd).ks hw'.ks (by simp)) fun o ho => by obtain ⟨a, k, e, _⟩ := (hth.pool o ho).form; exact ⟨a, k, e⟩
  by_cases hbig : 1000 < t.2.length
  ·by_cases c3 : (24 : Int) < IntKind.i64.wrap ((x : Int) + t.2.length)
   ·(have zz:=trivial;repeat((first|clear zz|with_reducible first|refine A3 ?_|refine A4 fun _=>?_|refine A5 fun _=>?_);try simp(disch:=first|omega|assumption|((repeat(first|exact A1|exact uH|apply A2|apply uT));first|done|fail)|(simp;first|done|omega|fail))[hlt, h1, c3]))
    exact A9 A5N.no
   ·(have zz:=trivial;repeat((first|clear zz|with_reducible first|refine A3 ?_|refine A4 fun _=>?_|refine A5 fun _=>?_);try simp(disch:=first|omega|assumption|((repeat(first|exact A1|exact uH|apply A2|apply uT));first|done|fail)|(simp;first|done|omega|fail))[hlt, h1, c3]))
    refine B8 A1l hfw ?_
    rw [show u6 (t.2.map (·.1)) 24 = false by unfold u6; rw [Bool.and_eq_false_iff]; left; simp; omega]
    (have zz:=trivial;repeat((first|clear zz|with_reducible first|refine A3 ?_|refine A4 fun _=>?_|refine A5 fun _=>?_);try simp(disch:=first|omega|assumption|((repeat(first|exact A1|exact uH|apply A2|apply uT));first|done|fail)|(simp;first|done|omega|fail))[c3]))
    exact A9 A5N.no
  by_cases c3 : (24 : Int) < (x : Int) + t.2.length
  ·(have zz:=trivial;repeat((first|clear zz|with_reducible first|refine A3 ?_|refine A4 fun _=>?_|refine A5 fun _=>?_);try simp(disch:=first|omega|assumption|((repeat(first|exact A1|exact uH|apply A2|apply uT));first|done|fail)|(simp;first|done|omega|fail))[hlt, h1, c3]))
   exact A9 A5N.no
  ·(have zz:=trivial;repeat((first|clear zz|with_reducible first|refine A3 ?_|refine A4 fun _=>?_|refine A5 fun _=>?_);try simp(disch:=first|omega|assumption|((repeat(first|exact A1|exact uH|apply A2|apply uT));first|done|fail)|(simp;first|done|omega|fail))[hlt, h1, c3]))
   refine B8 A1l hfw ?_
   have hwr : IntKind.i64.wrap ((x : Int) + t.2.length) = (x : Int) + t.2.length := P8 (by omega) (by omega)
   cases hf : u6 (t.2.map (·.1)) 24 with
   | false =>
    (have zz:=trivial;repeat((first|clear zz|with_reducible first|refine A3 ?_|refine A4 fun _=>?_|refine A5 fun _=>?_);try simp(disch:=first|omega|assumption|((repeat(first|exact A1|exact uH|apply A2|apply uT));first|done|fail)|(simp;first|done|omega|fail))[c3]))
    exact A9 A5N.no
   | true =>
    (have zz:=trivial;repeat((first|clear zz|with_reducible first|refine A3 ?_|refine A4 fun _=>?_|refine A5 fun _=>?_);try simp(disch:=first|omega|assumption|((repeat(first|exact A1|exact uH|apply A2|apply uT));first|done|fail)|(simp;first|done|omega|fail))[c3, hwr]))
    have h := hL hlt (x + t.2.length) ⟨by omega, fun j y hj hy' => by
     by_cases e : j < i
     ·exact hok j y e hy'
     ·obtain rfl : j = i := by omega
      rw [hy] at hy'; injection hy' with hy'; subst hy'; exact hf⟩
    rw [Int.natCast_add] at h
    exact h
 ·obtain rfl : i = ts.length := by omega
  (have zz:=trivial;repeat((first|clear zz|with_reducible first|refine A3 ?_|refine A4 fun _=>?_|refine A5 fun _=>?_);try simp(disch:=first|omega|assumption|((repeat(first|exact A1|exact uH|apply A2|apply uT));first|done|fail)|(simp;first|done|omega|fail))[hlt]))
  refine B8 A5C (fun w' _ => C4N w' c) ?_
  (have zz:=trivial;repeat((first|clear zz|with_reducible first|refine A3 ?_|refine A4 fun _=>?_|refine A5 fun _=>?_);try simp(disch:=first|omega|assumption|((repeat(first|exact A1|exact uH|apply A2|apply uT));first|done|fail)|(simp;first|done|omega|fail))[]))
  refine A9 (show A5N c ts (.bool (A4c c)) from ⟨_, rfl, fun h => ⟨h, by omega, fun t ht' => ?_⟩⟩)
  obtain ⟨j, hj, e⟩ := List.getElem_of_mem ht'
  exact hok j t hj (by rw [List.getElem?_eq_getElem hj, e])
end Go.Proofs.YtlplkjgcfjdinaaGreat
namespace Go.Proofs.YtlplkjgcfjdinaaGreat
open Go
@[simp] theorem A0C {κ : Bool} {S : List Nat} {w0 : World} {H : List Res} {K0 : WP} {t : TypeId} {n : Nat} {z : Value} [h : TG t n z] {b o : Nat} {xs : Array Value} {l : List Rd} (hc : g4 w0 b o n = some xs.toList) (hS : b ∉ S) :
  TW κ S w0 H (watch PR ((none, Instr.loadAt t (.pointer (some ⟨b, o, none⟩)), .agg xs) :: l) K0) = TW κ S w0 H (watch PR l K0) := by
 obtain ⟨_, _, h, hd⟩ := h.ti
 refine A8M fun w hw => ?_
 have h2 := Y7 hc
 have := Z6 h hd h2.1 (hw.ks.row hS h2.2)
 simpa using this
@[simp] theorem B6G {κ : Bool} {S : List Nat} {w0 : World} {H : List Res} {K0 : WP} {t : TypeId} {n : Nat} {z : Value} [h : TG t n z] {b o : Nat} {xs : Array Value} {l : List Rd} {x y : Bool} (hc : g4 w0 b o n = some xs.toList) (hS : b ∉ S) :
  TW κ S w0 H (watch PR ((some (.bool x, y), Instr.loadAt t (.pointer (some ⟨b, o, none⟩)), .agg xs) :: l) K0) = TW κ S w0 H (watch PR l K0) := by
 obtain ⟨_, _, h, hd⟩ := h.ti
 refine A6V fun _ w hw => ?_
 have h2 := Y7 hc
 have := Z6 h hd h2.1 (hw.ks.row hS h2.2)
 simpa using this
theorem C1L {κ : Bool} {S : List Nat} {w0 : World} {H : List Res} {K0 : WP} {t : TypeId} {n : Nat} {z : Value} [h : TG t n z] {b o : Nat} {c xs : Array Value} {T : TypeId} {f : Nat × Nat} {l : List Rd} {x y : Bool} (hm : Res.pt b (.cells c T f) ∈ H) (hl : Q0 c.toList o n = some xs.toList) :
  TW κ S w0 H (watch PR ((some (.bool x, y), Instr.loadAt t (.pointer (some ⟨b, o, none⟩)), .agg xs) :: l) K0) = TW κ S w0 H (watch PR l K0) := by
 obtain ⟨_, _, h, hd⟩ := h.ti
 refine A6V fun _ w hw => ?_
 have hr := v8 hl (L6.bl (hw.pt hm)); have h2 := Y7 hr
 have := Z6 h hd h2.1 h2.2
 simpa using this
theorem C7b {κ : Bool} {S : List Nat} {w0 w : World} {H : List Res} {b : Nat} {c : Array Value} {T : TypeId} {f : Nat × Nat} (hw : LW κ S w0 H w) (hm : Res.pt b (.cells c T f) ∈ H) : L6 w b 0 c.toList := L6.bl (hw.pt hm)
theorem L6.sub {w : World} {b o : Nat} {l : List Value} (h : L6 w b o l) (j n : Nat) (hn : j + n ≤ l.length) : g4 w b (o + j) n = some ((l.drop j).take n) := by
 have hl : ((l.drop j).take n).length = n := by simp; omega
 have h1 : L6 w b (o + j) ((l.drop j).take n) := fun q hq => by
  rw [hl] at hq
  rw [Nat.add_assoc, h (j + q) (by omega), List.getElem?_take_of_lt hq, List.getElem?_drop]
 have := A71 h1
 rwa [hl] at this
end Go.Proofs.YtlplkjgcfjdinaaGreat
namespace Go.Proofs.YtlplkjgcfjdinaaGreat
open Go
theorem B7W {ts : List T5} {x : RecV} (h : x.th < 0) : A2k ts x = false := by
 unfold A2k; rw [decide_eq_false (by omega)]; rfl
theorem B60 {ts : List T5} {x : RecV} (h : (ts.length : Int) ≤ x.th) : A2k ts x = false := by
 unfold A2k; rw [decide_eq_false (show ¬ x.th < ts.length by omega), Bool.and_false, Bool.false_and]
theorem B4E {ts : List T5} {x : RecV} {n : Nat} {t : T5} (hn : x.th = n) (ht : ts[n]? = some t) : A2k ts x = (decide (0 ≤ x.op) && decide (x.op < (t.2.length : Nat))) := by
 have hl := (List.getElem?_eq_some_iff.1 ht).1
 unfold A2k
 rw [decide_eq_true (show 0 ≤ x.th by omega), decide_eq_true (show x.th < ts.length by omega), hn, Int.toNat_natCast, List.getD_eq_getElem?_getD, ht]; rfl
theorem B8G {ts : List T5} {x : RecV} (h : A2k ts x = true) : ∃ (n k : Nat) (t : T5) (o : OpV × Value), x.th = n ∧ x.op = k ∧ ts[n]? = some t ∧ t.2[k]? = some o ∧ B9q ts x = o := by
 have h0 : 0 ≤ x.th ∧ x.th < ts.length := by
  by_cases h1 : x.th < 0
  ·rw [B7W h1] at h; cases h
  by_cases h2 : (ts.length : Int) ≤ x.th
  ·rw [B60 h2] at h; cases h
  omega
 obtain ⟨n, hn⟩ : ∃ n : Nat, x.th = n := ⟨x.th.toNat, by omega⟩
 have hl : n < ts.length := by omega
 have ht := List.getElem?_eq_getElem hl
 rw [B4E hn ht] at h
 simp only [Bool.and_eq_true, decide_eq_true_eq] at h
 obtain ⟨k, hk⟩ : ∃ k : Nat, x.op = k := ⟨x.op.toNat, by omega⟩
 have hkl : k < ts[n].2.length := by omega
 have ho := List.getElem?_eq_getElem hkl
 refine ⟨n, k, ts[n], ts[n].2[k], hn, hk, ht, ho, ?_⟩
 unfold B9q
 rw [hn, hk, Int.toNat_natCast, Int.toNat_natCast, List.getD_eq_getElem?_getD, List.getD_eq_getElem?_getD, ht]
 simp only [Option.getD_some]
 rw [ho]; rfl
theorem C9g (w : World) (bt : Nat) (tv : Value) (ts : List T5) (x : RecV) (hv : D4 w tv ts.length (ts.flatMap A1s)) (ht : ∀ t ∈ ts, ThRd w t) (hl : ts.length ≤ 1000) (hb : w.cell? ⟨bt, 0, none⟩ = some tv) :
  Fn PR B7 34 #[.agg x.cs, .pointer (some ⟨bt, 0, none⟩)] w (fun r w' => r = .bool (A2k ts x) ∧ C6 [] w w') := by
 refine Fn.pure (B0L (TW.go (κ := false) (S := []) ?_))
 unfold A3f
 obtain ⟨a, c, rfl, hr⟩ := hv.form
 simp only [RecV.cs]
 by_cases h1 : x.th < 0
 ·have h1' : ¬ 0 ≤ x.th := by omega
  (have zz:=trivial;repeat((first|clear zz|with_reducible first|refine A3 ?_|refine A4 fun _=>?_|refine A5 fun _=>?_);try simp(disch:=first|omega|assumption|((repeat(first|exact A1|exact uH|apply A2|apply uT));first|done|fail)|(simp;first|done|omega|fail))[h1, h1', hb]))
  exact A9 (by rw [B7W h1])
 have h1' : 0 ≤ x.th := by omega
 by_cases h2 : (ts.length : Int) ≤ x.th
 ·have h2' : ¬ x.th < ts.length := by omega
  (have zz:=trivial;repeat((first|clear zz|with_reducible first|refine A3 ?_|refine A4 fun _=>?_|refine A5 fun _=>?_);try simp(disch:=first|omega|assumption|((repeat(first|exact A1|exact uH|apply A2|apply uT));first|done|fail)|(simp;first|done|omega|fail))[h1, h1', h2, h2', hb]))
  exact A9 (by rw [B60 h2])
 have h2' : x.th < ts.length := by omega
 obtain ⟨n, hn⟩ : ∃ n : Nat, x.th = n := ⟨x.th.toNat, by omega⟩
 have hnl : n < ts.length := by omega
 have hy := List.getElem?_eq_getElem hnl
 obtain ⟨b, o, rfl, hrow⟩ := hr (by omega)
 have hc := hrow.cellAt (f := A1s) (k := 1) (j := 0) (fun _ => rfl) hy rfl
 rw [Nat.mul_one, Nat.add_zero] at hc
 have hth := ht ts[n] (List.getElem_mem hnl)
 generalize ts[n] = t at *
 obtain ⟨ta, tk, hte⟩ := hth.form
 rw [hte] at hc
 have hlen := hth.len
 rw [B4E hn hy]
 rw [hn] at h1' h2' ⊢
 by_cases h3 : 0 ≤ x.op
 ·by_cases h4 : x.op < (t.2.length : Nat)
  ·(have zz:=trivial;repeat((first|clear zz|with_reducible first|refine A3 ?_|refine A4 fun _=>?_|refine A5 fun _=>?_);try simp(disch:=first|omega|assumption|((repeat(first|exact A1|exact uH|apply A2|apply uT));first|done|fail)|(simp;first|done|omega|fail))[h1', h2', hnl, hb, hc, h3, h4]))
   exact A9 rfl
  ·(have zz:=trivial;repeat((first|clear zz|with_reducible first|refine A3 ?_|refine A4 fun _=>?_|refine A5 fun _=>?_);try simp(disch:=first|omega|assumption|((repeat(first|exact A1|exact uH|apply A2|apply uT));first|done|fail)|(simp;first|done|omega|fail))[h1', h2', hnl, hb, hc, h3, h4]))
   exact A9 rfl
 ·(have zz:=trivial;repeat((first|clear zz|with_reducible first|refine A3 ?_|refine A4 fun _=>?_|refine A5 fun _=>?_);try simp(disch:=first|omega|assumption|((repeat(first|exact A1|exact uH|apply A2|apply uT));first|done|fail)|(simp;first|done|omega|fail))[h1', h2', hnl, hb, hc, h3]))
  exact A9 rfl
theorem C52 (w : World) (tv : Value) (ts : List T5) (x : RecV) (hv : D4 w tv ts.length (ts.flatMap A1s)) (ht : ∀ t ∈ ts, ThRd w t) (hl : ts.length ≤ 1000) :
  Fn PR B7 28 #[tv, .agg x.cs] w (fun r w' => r = .bool (A2k ts x) ∧ C6 [] w w') := by
 refine Fn.pure (A8k (TW.go (κ := false) (S := []) ?_))
 unfold A2j
 obtain ⟨a, c, rfl, hr⟩ := hv.form
 simp only [RecV.cs]
 by_cases h1 : x.th < 0
 ·have h1' : ¬ 0 ≤ x.th := by omega
  (have zz:=trivial;repeat((first|clear zz|with_reducible first|refine A3 ?_|refine A4 fun _=>?_|refine A5 fun _=>?_);try simp(disch:=first|omega|assumption|((repeat(first|exact A1|exact uH|apply A2|apply uT));first|done|fail)|(simp;first|done|omega|fail))[h1, h1']))
  exact A9 (by rw [B7W h1])
 have h1' : 0 ≤ x.th := by omega
 by_cases h2 : (ts.length : Int) ≤ x.th
 ·have h2' : ¬ x.th < ts.length := by omega
  (have zz:=trivial;repeat((first|clear zz|with_reducible first|refine A3 ?_|refine A4 fun _=>?_|refine A5 fun _=>?_);try simp(disch:=first|omega|assumption|((repeat(first|exact A1|exact uH|apply A2|apply uT));first|done|fail)|(simp;first|done|omega|fail))[h1, h1', h2, h2']))
  exact A9 (by rw [B60 h2])
 have h2' : x.th < ts.length := by omega
 obtain ⟨n, hn⟩ : ∃ n : Nat, x.th = n := ⟨x.th.toNat, by omega⟩
 have hnl : n < ts.length := by omega
 have hy := List.getElem?_eq_getElem hnl
 obtain ⟨b, o, rfl, hrow⟩ := hr (by omega)
 have hc := hrow.cellAt (f := A1s) (k := 1) (j := 0) (fun _ => rfl) hy rfl
 rw [Nat.mul_one, Nat.add_zero] at hc
 have hth := ht ts[n] (List.getElem_mem hnl)
 generalize ts[n] = t at *
 obtain ⟨ta, tk, hte⟩ := hth.form
 rw [hte] at hc
 have hlen := hth.len
 rw [B4E hn hy]
 rw [hn] at h1' h2' ⊢
 have hmx : max ((n : Nat) : Int) 0 = (n : Nat) := by omega
 by_cases h3 : 0 ≤ x.op
 ·by_cases h4 : x.op < (t.2.length : Nat)
  ·(have zz:=trivial;repeat((first|clear zz|with_reducible first|refine A3 ?_|refine A4 fun _=>?_|refine A5 fun _=>?_);try simp(disch:=first|omega|assumption|((repeat(first|exact A1|exact uH|apply A2|apply uT));first|done|fail)|(simp;first|done|omega|fail))[h1', h2', hnl, hc, h3, h4, hmx]))
   exact A9 rfl
  ·(have zz:=trivial;repeat((first|clear zz|with_reducible first|refine A3 ?_|refine A4 fun _=>?_|refine A5 fun _=>?_);try simp(disch:=first|omega|assumption|((repeat(first|exact A1|exact uH|apply A2|apply uT));first|done|fail)|(simp;first|done|omega|fail))[h1', h2', hnl, hc, h3, h4, hmx]))
   exact A9 rfl
 ·(have zz:=trivial;repeat((first|clear zz|with_reducible first|refine A3 ?_|refine A4 fun _=>?_|refine A5 fun _=>?_);try simp(disch:=first|omega|assumption|((repeat(first|exact A1|exact uH|apply A2|apply uT));first|done|fail)|(simp;first|done|omega|fail))[h1', h2', hnl, hc, h3, hmx]))
  exact A9 rfl
theorem A81 (w : World) (e : Int) : Fn PR B7 43 #[.int .i64 e] w (fun r w' => r = (⟨e, 0, false, 0⟩ : AnsV).val ∧ C6 [] w w') := by
 refine Fn.pure (B4d (TW.go (κ := false) (S := []) ?_))
 unfold A8B
 (have zz:=trivial;repeat((first|clear zz|with_reducible first|refine A3 ?_|refine A4 fun _=>?_|refine A5 fun _=>?_);try simp(disch:=first|omega|assumption|((repeat(first|exact A1|exact uH|apply A2|apply uT));first|done|fail)|(simp;first|done|omega|fail))[]))
 exact A9 rfl
def A9C (x : RecV) : Bool := decide (0 ≤ x.en) && decide (x.an = ⟨13, 0, false, 0⟩)
theorem C4m {x : RecV} (h : ¬ 0 ≤ x.en) : A9C x = false := by unfold A9C; rw [decide_eq_false h]; rfl
theorem C5d (w : World) (b : Nat) (x : RecV) (hb : L6 w b 0 (H6 x)) :
  Fn PR B7 42 #[.pointer (some ⟨b, 0, none⟩)] w (fun r w' => r = .bool (A9C x) ∧ C6 [] w w') := by
 refine Fn.pure (A8e (TW.go (κ := false) (S := []) ?_))
 unfold A2q
 have h4 : w.cell? ⟨b, 4, none⟩ = some (.int .i64 x.en) := hb.get (i := 4) rfl
 have h6 := hb.sub 6 4 (by simp [H6])
 rw [Nat.zero_add] at h6
 have h6 : g4 w b 6 4 = some [.int .i64 x.an.err, .int .i64 x.an.bk, .bool x.an.made, .int .i64 x.an.count] := h6
 by_cases c1 : 0 ≤ x.en
 ·(have zz:=trivial;repeat((first|clear zz|with_reducible first|refine A3 ?_|refine A4 fun _=>?_|refine A5 fun _=>?_);try simp(disch:=first|omega|assumption|((repeat(first|exact A1|exact uH|apply A2|apply uT));first|done|fail)|(simp;first|done|omega|fail))[h4, h6, c1]))
  refine B8 w9 (fun w' _ => A81 w' 13) ?_
  simp only [AnsV.val]
  rw [B6G (by simpa using h6) (by simp)]
  (have zz:=trivial;repeat((first|clear zz|with_reducible first|refine A3 ?_|refine A4 fun _=>?_|refine A5 fun _=>?_);try simp(disch:=first|omega|assumption|((repeat(first|exact A1|exact uH|apply A2|apply uT));first|done|fail)|(simp;first|done|omega|fail))[c1]))
  refine A9 ?_
  unfold A9C
  rw [decide_eq_true c1, Bool.true_and]
  obtain ⟨_, _, _, _, _, _, ⟨q1, q2, q3, q4⟩⟩ := x
  congr 1
  simp only [AnsV.mk.injEq, Bool.decide_and]
  cases q3 <;> simp
 ·(have zz:=trivial;repeat((first|clear zz|with_reducible first|refine A3 ?_|refine A4 fun _=>?_|refine A5 fun _=>?_);try simp(disch:=first|omega|assumption|((repeat(first|exact A1|exact uH|apply A2|apply uT));first|done|fail)|(simp;first|done|omega|fail))[h4, c1]))
  exact A9 (by rw [C4m c1])
theorem B9F (w : World) (m : MoH) (o : OpV) (v : Value) (x : RecV) (hv : PoolAt w m v o.pool) (hpk : o.packet.size < 2 ^ 40) (hm : MoOk2 m) (hw : LW false (C3 (D2 m)) w (D2 m) w) :
  Fn PR B7 36 #[.pointer (some ⟨m.b, 0, none⟩), o.val v, .agg x.cs] w (DoR w m (K3 m.st o x)) := by
 refine B1Q (TW.goH (κ := false) (S := C3 (D2 m)) ?_ hw)
 unfold A4G DoR
 generalize hS : C3 (D2 m) = S
 obtain ⟨a, c, rfl⟩ : ∃ a c, v = .slice a o.pool.length c := by obtain ⟨a, c, e, _⟩ := hv.rd.form; exact ⟨a, c, e⟩
 have hpo : ∀ w', KS false S w w' → PoolAt w' m (.slice a o.pool.length c) o.pool := fun w' hk => ⟨hv.at (by rw [hS]; exact hk), hv.off, hv.len, hv.form⟩
 by_cases k0 : o.kind = 0
 ·have k1 : ¬ o.kind = 1 := by omega
  by_cases t0 : x.th = 0
  ·have hx : K3 m.st o x = (m.st, ⟨1, 0, false, 0⟩) := by unfold K3; rw [if_pos (Or.inl ⟨k0, t0⟩)]
   simp only [OpV.val, RecV.cs]
   (have zz:=trivial;repeat((first|clear zz|with_reducible first|refine A3 ?_|refine A4 fun _=>?_|refine A5 fun _=>?_);try simp(disch:=first|omega|assumption|((repeat(first|exact A1|exact uH|apply A2|apply uT));first|done|fail)|(simp;first|done|omega|fail))[k0, k1, t0]))
   refine B8 w9 (fun w' _ => A81 w' 1) ?_
   simp only [AnsV.val]
   (have zz:=trivial;repeat((first|clear zz|with_reducible first|refine A3 ?_|refine A4 fun _=>?_|refine A5 fun _=>?_);try simp(disch:=first|omega|assumption|((repeat(first|exact A1|exact uH|apply A2|apply uT));first|done|fail)|(simp;first|done|omega|fail))[]))
   rw [hx]
   refine C0 m ⟨rfl, rfl, rfl⟩ ?_
   simp only [D2]
   (repeat' constructor)
  ·have hx : K3 m.st o x = M2 m.st o x.nw := by unfold K3; rw [if_neg (by rintro (⟨_, h⟩ | ⟨h, _⟩); exact t0 h; exact k1 h), if_neg (by rintro ⟨h, _⟩; exact k1 h)]
   simp only [OpV.val, RecV.cs]
   simp only [D2]
   (have zz:=trivial;repeat((first|clear zz|with_reducible first|refine A3 ?_|refine A4 fun _=>?_|refine A5 fun _=>?_);try simp(disch:=first|omega|assumption|((repeat(first|exact A1|exact uH|apply A2|apply uT));first|done|fail)|(simp;first|done|omega|fail))[k0, k1, t0]))
   refine F9 (Hc := D2 m) y9 (fun w' hw' hs => by have := C0E w' m o (.slice a o.pool.length c) x.nw (hpo w' hw'.ks) hpk hm hs; rw [OpV.val, k0] at this; exact this) (by simp only [D2]; (repeat' constructor)) ?_
   rintro m' _ ⟨rfl, hb, hst⟩
   rw [hx]
   generalize M2 m.st o x.nw = r at *
   simp only [D2, AnsV.val]
   (have zz:=trivial;repeat((first|clear zz|with_reducible first|refine A3 ?_|refine A4 fun _=>?_|refine A5 fun _=>?_);try simp(disch:=first|omega|assumption|((repeat(first|exact A1|exact uH|apply A2|apply uT));first|done|fail)|(simp;first|done|omega|fail))[]))
   refine C0 m' ⟨rfl, hb, hst⟩ ?_
   simp only [D2]
   (repeat' constructor)
 by_cases k1 : o.kind = 1
 ·by_cases t0 : x.th = 0
  ·simp only [OpV.val, RecV.cs]
   simp only [D2]
   (have zz:=trivial;repeat((first|clear zz|with_reducible first|refine A3 ?_|refine A4 fun _=>?_|refine A5 fun _=>?_);try simp(disch:=first|omega|assumption|((repeat(first|exact A1|exact uH|apply A2|apply uT));first|done|fail)|(simp;first|done|omega|fail))[k0, k1, t0]))
   rename_i bo bx ba
   refine B8 A8b (fun w' hw' => C5d w' bx x (by have := C7b hw' (b := bx) (by (repeat constructor)); rw [H6, t0]; exact this)) ?_
   have hn1 : ¬ ((o.kind = 0 ∧ x.th = 0) ∨ (o.kind = 1 ∧ x.th ≠ 0)) := by rintro (⟨h, _⟩ | ⟨_, h⟩); exact k0 h; exact h t0
   cases hb : A9C x with
   | true =>
    have hx : K3 m.st o x = (m.st, ⟨13, 0, false, 0⟩) := by
     unfold A9C at hb
     rw [Bool.and_eq_true, decide_eq_true_eq, decide_eq_true_eq] at hb
     unfold K3; rw [if_neg hn1, if_pos ⟨k1, hb.1, hb.2⟩]
    (have zz:=trivial;repeat((first|clear zz|with_reducible first|refine A3 ?_|refine A4 fun _=>?_|refine A5 fun _=>?_);try simp(disch:=first|omega|assumption|((repeat(first|exact A1|exact uH|apply A2|apply uT));first|done|fail)|(simp;first|done|omega|fail))[]))
    refine B8 w9 (fun w' _ => A81 w' 13) ?_
    simp only [AnsV.val]
    (have zz:=trivial;repeat((first|clear zz|with_reducible first|refine A3 ?_|refine A4 fun _=>?_|refine A5 fun _=>?_);try simp(disch:=first|omega|assumption|((repeat(first|exact A1|exact uH|apply A2|apply uT));first|done|fail)|(simp;first|done|omega|fail))[]))
    rw [hx]
    refine C0 m ⟨rfl, rfl, rfl⟩ ?_
    simp only [D2]
    (repeat' constructor)
   | false =>
    have hx : K3 m.st o x = M2 m.st o x.nw := by
     unfold K3; rw [if_neg hn1, if_neg]
     rintro ⟨_, h1, h2⟩
     unfold A9C at hb
     rw [decide_eq_true h1, decide_eq_true h2] at hb; cases hb
    (have zz:=trivial;repeat((first|clear zz|with_reducible first|refine A3 ?_|refine A4 fun _=>?_|refine A5 fun _=>?_);try simp(disch:=first|omega|assumption|((repeat(first|exact A1|exact uH|apply A2|apply uT));first|done|fail)|(simp;first|done|omega|fail))[]))
    refine F9 (Hc := D2 m) y9 (fun w' hw' hs => by have := C0E w' m o (.slice a o.pool.length c) x.nw (hpo w' hw'.ks) hpk hm hs; rw [OpV.val, k1] at this; exact this) (by simp only [D2]; (repeat' constructor)) ?_
    rintro m' _ ⟨rfl, hb, hst⟩
    rw [hx]
    generalize M2 m.st o x.nw = r at *
    simp only [D2, AnsV.val]
    (have zz:=trivial;repeat((first|clear zz|with_reducible first|refine A3 ?_|refine A4 fun _=>?_|refine A5 fun _=>?_);try simp(disch:=first|omega|assumption|((repeat(first|exact A1|exact uH|apply A2|apply uT));first|done|fail)|(simp;first|done|omega|fail))[]))
    refine C0 m' ⟨rfl, hb, hst⟩ ?_
    simp only [D2]
    (repeat' constructor)
  ·have hx : K3 m.st o x = (m.st, ⟨1, 0, false, 0⟩) := by unfold K3; rw [if_pos (Or.inr ⟨k1, t0⟩)]
   simp only [OpV.val, RecV.cs]
   (have zz:=trivial;repeat((first|clear zz|with_reducible first|refine A3 ?_|refine A4 fun _=>?_|refine A5 fun _=>?_);try simp(disch:=first|omega|assumption|((repeat(first|exact A1|exact uH|apply A2|apply uT));first|done|fail)|(simp;first|done|omega|fail))[k0, k1, t0]))
   refine B8 w9 (fun w' _ => A81 w' 1) ?_
   simp only [AnsV.val]
   (have zz:=trivial;repeat((first|clear zz|with_reducible first|refine A3 ?_|refine A4 fun _=>?_|refine A5 fun _=>?_);try simp(disch:=first|omega|assumption|((repeat(first|exact A1|exact uH|apply A2|apply uT));first|done|fail)|(simp;first|done|omega|fail))[]))
   rw [hx]
   refine C0 m ⟨rfl, rfl, rfl⟩ ?_
   simp only [D2]
   (repeat' constructor)
 ·have hx : K3 m.st o x = M2 m.st o x.nw := by unfold K3; rw [if_neg (by rintro (⟨h, _⟩ | ⟨h, _⟩); exact k0 h; exact k1 h), if_neg (by rintro ⟨h, _⟩; exact k1 h)]
  simp only [OpV.val, RecV.cs]
  simp only [D2]
  (have zz:=trivial;repeat((first|clear zz|with_reducible first|refine A3 ?_|refine A4 fun _=>?_|refine A5 fun _=>?_);try simp(disch:=first|omega|assumption|((repeat(first|exact A1|exact uH|apply A2|apply uT));first|done|fail)|(simp;first|done|omega|fail))[k0, k1]))
  refine F9 (Hc := D2 m) y9 (fun w' hw' hs => by have := C0E w' m o (.slice a o.pool.length c) x.nw (hpo w' hw'.ks) hpk hm hs; rw [OpV.val] at this; exact this) (by simp only [D2]; (repeat' constructor)) ?_
  rintro m' _ ⟨rfl, hb, hst⟩
  rw [hx]
  generalize M2 m.st o x.nw = r at *
  simp only [D2, AnsV.val]
  (have zz:=trivial;repeat((first|clear zz|with_reducible first|refine A3 ?_|refine A4 fun _=>?_|refine A5 fun _=>?_);try simp(disch:=first|omega|assumption|((repeat(first|exact A1|exact uH|apply A2|apply uT));first|done|fail)|(simp;first|done|omega|fail))[]))
  refine C0 m' ⟨rfl, hb, hst⟩ ?_
  simp only [D2]
  (repeat' constructor)
end Go.Proofs.YtlplkjgcfjdinaaGreat
namespace Go.Proofs.YtlplkjgcfjdinaaGreat
open Go
structure RdN (bad : List Nat) (w : World) (v : Value) (n : Nat) (xs : List Value) : Prop where
 rd : D4 w v n xs
 off : 0 < n → ∀ g ∈ P6 v, g ∉ bad
 nil : n = 0 → xs = []
theorem RdN.ks {κ : Bool} {S bad : List Nat} {w w' : World} {v : Value} {n : Nat} {xs : List Value} (h : RdN bad w v n xs) (hk : KS κ S w w') (hs : ∀ s ∈ S, s ∈ bad) : RdN bad w' v n xs :=
 ⟨h.rd.ks0 h.nil hk fun h0 g hg hgS => h.off h0 g hg (hs g hgS), h.off, h.nil⟩
theorem RdN.sub {bad bad' : List Nat} {w : World} {v : Value} {n : Nat} {xs : List Value} (h : RdN bad w v n xs) (hs : ∀ s ∈ bad', s ∈ bad) : RdN bad' w v n xs := ⟨h.rd, fun h0 g hg hb => h.off h0 g hg (hs g hb), h.nil⟩
theorem RdN.open {bad : List Nat} {w : World} {v : Value} {n : Nat} {xs : List Value} (h : RdN bad w v n xs) : ∃ a c, v = .slice a n c ∧ (0 < n → ∃ b o, a = some ⟨b, o, none⟩ ∧ L6 w b o xs ∧ b ∉ bad) := by
 obtain ⟨a, c, e, hr⟩ := h.rd.form
 refine ⟨a, c, e, fun h0 => ?_⟩
 obtain ⟨b, o, ea, hrow⟩ := hr h0
 refine ⟨b, o, ea, hrow, h.off h0 b ?_⟩
 rw [e, ea]; simp [P6]
theorem A8V {κ : Bool} {w0 w : World} {A F : List Res} {v : Value} {n : Nat} {xs : List Value} (hw : LW κ [] w0 (A ++ F) w) (h : D4 w0 v n xs) (hn : 0 < n → 0 < xs.length) (h0 : n = 0 → xs = []) : RdN (C3 F) w v n xs := by
 refine ⟨h.ks hw.ks (by simp), fun hp g hg hf => ?_, h0⟩
 have h1 := C4s h hn hp g hg
 obtain ⟨s, hs, hbs⟩ := N5.1 hf
 rcases (hw.own s (List.mem_append_right _ hs) g hbs).1 with h2 | h2
 ·cases h2
 ·omega
structure ScN (bad : List Nat) (w : World) (tv lv : Value) (ts : List T5) (l : List RecV) : Prop where
 tvr : RdN bad w tv ts.length (ts.flatMap A1s)
 thr : ∀ t ∈ ts, RdN bad w t.1 t.2.length (t.2.flatMap A43)
 pool : ∀ t ∈ ts, ∀ o ∈ t.2, RdN bad w o.2 o.1.pool.length (o.1.pool.flatMap E7)
 lvr : RdN bad w lv l.length (l.flatMap H6)
theorem ScN.ks {κ : Bool} {S bad : List Nat} {w w' : World} {tv lv : Value} {ts : List T5} {l : List RecV} (h : ScN bad w tv lv ts l) (hk : KS κ S w w') (hs : ∀ s ∈ S, s ∈ bad) : ScN bad w' tv lv ts l :=
 ⟨h.tvr.ks hk hs, fun t ht => (h.thr t ht).ks hk hs, fun t ht o ho => (h.pool t ht o ho).ks hk hs, h.lvr.ks hk hs⟩
theorem ScN.old {κ : Bool} {w0 w : World} {A F : List Res} {tv lv : Value} {ts : List T5} {l : List RecV} (hw : LW κ [] w0 (A ++ F) w) (h : D4 w0 tv ts.length (ts.flatMap A1s)) (ht : ∀ t ∈ ts, ThRd w0 t) (hl : D4 w0 lv l.length (l.flatMap H6)) : ScN (C3 F) w tv lv ts l := by
 have z : ∀ {α : Type} (p : List α) (f : α → List Value), p.length = 0 → p.flatMap f = [] := fun p f e => by rw [List.length_eq_zero_iff.1 e]; rfl
 have p : ∀ {α : Type} (k : Nat) (p : List α) (f : α → List Value), (∀ x, (f x).length = k) → 0 < k → 0 < p.length → 0 < (p.flatMap f).length := fun k p f hk h0 hp => by
  rw [L5 hk]; exact Nat.mul_pos hp h0
 exact ⟨A8V hw h (p 1 _ _ (fun _ => rfl) (by omega)) (z _ _), fun t hm => A8V hw (ht t hm).rd (p 4 _ _ (fun _ => rfl) (by omega)) (z _ _), fun t hm o ho => A8V hw ((ht t hm).pool o ho) (p 2 _ _ (fun _ => rfl) (by omega)) (z _ _), A8V hw hl (p 10 _ _ (fun _ => rfl) (by omega)) (z _ _)⟩
theorem Inv.xpc {c : CfgV} {s : MoS} (h : Inv c s) (o : OpV) (x : RecV) : Inv c (K3 s o x).1 := by
 unfold K3
 split
 ·exact h
 split
 ·exact h
 ·exact h.do' o x.nw
theorem Inv.stepL {c : CfgV} {s : MoS} (h : Inv c s) (ts : List T5) (x : RecV) : Inv c (stepL ts s x).1 := by
 unfold Go.Proofs.YtlplkjgcfjdinaaGreat.stepL
 split
 ·exact h.xpc _ _
 ·exact h
abbrev C5H (b3 b4 b5 b7 : Nat) : Value := .func (.func 35) #[] #[.pointer (some ⟨b5, 0, none⟩), .pointer (some ⟨b7, 0, none⟩), .pointer (some ⟨b3, 0, none⟩), .pointer (some ⟨b4, 0, none⟩)]
abbrev B3Z (b3 b4 b5 b7 mb : Nat) (tv lv : Value) : List Res := [.pt b7 (.cells #[.func (.func 34) #[] #[.pointer (some ⟨b4, 0, none⟩)]] 85), .pt b5 (.cells #[lv] 32), .pt b4 (.cells #[tv] 24), .pt b3 (.cells #[.pointer (some ⟨mb, 0, none⟩)] 60)]
def yL (bs : List Bool) : List (List Value) := (List.range bs.length).map fun i => [.int .i64 (i : Nat), .bool (bs.getD i false)]
theorem B3r (bs : List Bool) : (yL bs).length = bs.length := by simp [yL]
theorem C64 (bs : List Bool) : ∀ x ∈ yL bs, x.length = 2 := by
 intro x hx
 unfold yL at hx
 obtain ⟨i, _, rfl⟩ := List.mem_map.1 hx
 rfl
theorem C2x (w : World) (mb : Nat) (tv lv : Value) (ht : ∃ a n c, tv = .slice a n c) (hl : ∃ a n c, lv = .slice a n c) :
  Fn PR B7 25 #[.pointer (some ⟨mb, 0, none⟩), tv, lv] w (Rn [] w (fun (b : Nat × Nat × Nat × Nat) u => u = C5H b.1 b.2.1 b.2.2.1 b.2.2.2) fun b => B3Z b.1 b.2.1 b.2.2.1 b.2.2.2 mb tv lv) := by
 obtain ⟨a, n, c, rfl⟩ := ht
 obtain ⟨a', n', c', rfl⟩ := hl
 refine B3B (TW.go (κ := false) (S := []) ?_)
 unfold A6F
 (have zz:=trivial;repeat((first|clear zz|with_reducible first|refine A3 ?_|refine A4 fun _=>?_|refine A5 fun _=>?_);try simp(disch:=first|omega|assumption|((repeat(first|exact A1|exact uH|apply A2|apply uT));first|done|fail)|(simp;first|done|omega|fail))[]))
 rename_i b3 b4 b5 b7
 exact C0 (b3, b4, b5, b7) rfl (by (repeat' constructor))
end Go.Proofs.YtlplkjgcfjdinaaGreat
namespace Go.Proofs.YtlplkjgcfjdinaaGreat
open Go
theorem B7M {l : List RecV} {i : Nat} (h : i < (T4 (G1 l) l.length).length) : (A0W l)[i]? = some (l.getD (ix (T4 (G1 l) l.length) i) A7V) := by
 unfold A0W ix
 rw [List.getElem?_map, List.getElem?_eq_getElem h, A4b h]; rfl
theorem B5A (l : List RecV) : (A0W l).length = (T4 (G1 l) l.length).length := by simp [A0W]
theorem C7M {κ : Bool} {S : List Nat} {w0 : World} {H : List Res} {F : Value → WP} {A : (Value → WP) → WP} {α : Type} (φ : α → Prop) (Hj : α → List Res) (v : Value) (hF : ∀ x, φ x → TW κ S w0 (Hj x) (F v)) (hA : ∀ J : Value → WP, (∀ x, φ x → TW κ S w0 (Hj x) (J v)) → TW κ S w0 H (A J)) : TW κ S w0 H (jn (n := 1) F A) := hA F hF
theorem C6n (a b : AnsV) : (decide (a.err = b.err) && (decide (a.bk = b.bk) && (a.made == b.made && decide (a.count = b.count)))) = decide (a = b) := by
 obtain ⟨a1, a2, a3, a4⟩ := a
 obtain ⟨b1, b2, b3, b4⟩ := b
 rw [Bool.eq_iff_iff]
 simp [AnsV.mk.injEq]
theorem C5W {bs : List Bool} {i : Nat} {b : Bool} (h : bs[i]? = some b) (hi : i < (yL bs).length) : (yL bs)[i] = [.int .i64 (i : Nat), .bool b] := by
 simp only [yL, List.getElem_map, List.getElem_range]
 rw [List.getD_eq_getElem?_getD, h]; rfl
set_option maxHeartbeats 1000000 in
theorem C2D (c : CfgV) (b3 b4 b5 b7 : Nat) (tv lv : Value) (ts : List T5) (l : List RecV) (m : MoH) (hi : Inv c m.st) (hts : ts.length ≤ 1000) (hl : l.length ≤ 24) (hops : ∀ t ∈ ts, t.2.length ≤ 24 ∧ ∀ o ∈ t.2, o.1.packet.size ≤ 100 ∧ o.1.pool.length ≤ 8) :
  A4U (C5H b3 b4 b5 b7) (B3Z b3 b4 b5 b7 m.b tv lv ++ D2 m) (fun F w => ScN (C3 F) w tv lv ts l) (yL (okL ts m.st (A0W l))) := by
 refine ⟨_, _, _, rfl, fun y J E hJ hE stJ stE hy w0 h0 => ?_⟩
 have hsc0 := (hJ _ _ _ h0).2
 obtain ⟨ta, tc, rfl, hta0⟩ := hsc0.tvr.open
 obtain ⟨la, lc, rfl, hla0⟩ := hsc0.lvr.open
 clear hta0 hla0
 refine B0T (B0g (TW.at (κ := true) ?_ (hJ _ _ _ h0).1))
 unfold A3u
 simp only [B3Z, List.cons_append, List.nil_append] at h0 hsc0 ⊢
 (have zz:=trivial;repeat((first|clear zz|with_reducible first|refine A3 ?_|refine A4 fun _=>?_|refine A5 fun _=>?_);try simp(disch:=first|omega|assumption|((repeat(first|exact A1|exact uH|apply A2|apply uT));first|done|fail)|(simp;first|done|omega|fail))[]))
 refine F3 A08 (fun w' hw' => A83 w' (.slice la l.length lc) l hl (hsc0.ks hw'.ks (fun _ h => h)).lvr.rd) ?_
 intro _ r hr
 subst hr
 have hwl := B1E (G1 l) l.length
 have hwlt : ∀ y ∈ T4 (G1 l) l.length, y < l.length := fun y hy => (B1K hy).1
 have hrl : (A0W l).length = (T4 (G1 l) l.length).length := B5A l
 have hrat := fun i => B7M (l := l) (i := i)
 generalize T4 (G1 l) l.length = wl at *
 generalize A0W l = rl at *
 refine Y3 (e := 3) (k := 1) (v := r) (q := wl.length) (xs := G7 wl) (by (repeat constructor)) fun ra rc e => ?_
 subst e
 (have zz:=trivial;repeat((first|clear zz|with_reducible first|refine A3 ?_|refine A4 fun _=>?_|refine A5 fun _=>?_);try simp(disch:=first|omega|assumption|((repeat(first|exact A1|exact uH|apply A2|apply uT));first|done|fail)|(simp;first|done|omega|fail))[]))
 refine C0L (α := Nat × MoH) (fun z => z.1) (fun z => .own 3 1 (.slice ra wl.length rc) wl.length (G7 wl) :: (B3Z b3 b4 b5 b7 m.b (.slice ta ts.length tc) (.slice la l.length lc) ++ D2 z.2)) (fun z => z.1 ≤ wl.length ∧ z.2.b = m.b ∧ z.2.st = stL ts m.st (rl.take z.1) ∧ Inv c z.2.st) (fun z => wl.length - z.1) (fun z => .int .i64 (z.1 : Nat)) (0, m) hJ stJ h0 ⟨by simp, rfl, rfl, hi⟩ ?_
 rintro ⟨i, m1⟩ a ⟨hil, hmb, hst, hi1⟩ hJi hRi L hL
 simp only at hil hmb hst hi1 hJi hRi hL ⊢
 clear hsc0 h0 hi
 simp only [B3Z, List.cons_append, List.nil_append] at hJi hRi ⊢
 by_cases hlt : i < wl.length
 case neg =>
  obtain rfl : i = wl.length := by omega
  (have zz:=trivial;repeat((first|clear zz|with_reducible first|refine A3 ?_|refine A4 fun _=>?_|refine A5 fun _=>?_);try simp(disch:=first|omega|assumption|((repeat(first|exact A1|exact uH|apply A2|apply uT));first|done|fail)|(simp;first|done|omega|fail))[]))
  refine A3q stJ ?_
  rw [B3r, A4e, hrl]
  exact hJi
 refine A1n (e := 3) (k := 1) (v := .slice ra wl.length rc) (q := wl.length) (xs := G7 wl) A1 (by omega) fun g gc hg => ?_
 cases hg
 have hrx := hrat i hlt
 have hkl := hwlt _ (A8c hlt)
 have g1 := P4 hlt
 have hyl : i < (yL (okL ts m.st rl)).length := by rw [B3r, A4e, hrl]; exact hlt
 have hyi : (yL (okL ts m.st rl))[i] = [.int .i64 (i : Nat), .bool (stepL ts m1.st (l.getD (ix wl i) A7V)).2] := by
  have h1 := C3A ts m.st hrx
  rw [← hst] at h1
  exact C5W h1 hyl
 have hst' := B7g ts m.st hrx
 rw [← hst] at hst'
 have hi2 := hi1.stepL ts (l.getD (ix wl i) A7V)
 have hL' := fun m2 : MoH => hL (i + 1, m2)
 generalize ix wl i = k at *
 have hx : l[k]? = some (l.getD k A7V) := by rw [List.getD_eq_getElem?_getD, List.getElem?_eq_getElem hkl]; rfl
 obtain ⟨_, _, e, hlr⟩ := hRi.lvr.open
 cases e
 obtain ⟨lb, lo, rfl, hlrow, hlb⟩ := hlr (by omega)
 have h1 := hlrow.at (f := H6) (k := 10) (fun _ => rfl) hx
 rw [H6] at h1
 generalize l.getD k A7V = x at *
 generalize hS : C3 _ = S at hlb hRi ⊢
 simp only [D2]
 (have zz:=trivial;repeat((first|clear zz|with_reducible first|refine A3 ?_|refine A4 fun _=>?_|refine A5 fun _=>?_);try simp(disch:=first|omega|assumption|((repeat(first|exact A1|exact uH|apply A2|apply uT));first|done|fail)|(simp;first|done|omega|fail))[-x9, hlt, g1, hkl, h1, hlb]))
 rw [x9]
 (have zz:=trivial;repeat((first|clear zz|with_reducible first|refine A3 ?_|refine A4 fun _=>?_|refine A5 fun _=>?_);try simp(disch:=first|omega|assumption|((repeat(first|exact A1|exact uH|apply A2|apply uT));first|done|fail)|(simp;first|done|omega|fail))[-x9, hlt, g1, hkl, h1, hlb]))
 rw [x9]
 (have zz:=trivial;repeat((first|clear zz|with_reducible first|refine A3 ?_|refine A4 fun _=>?_|refine A5 fun _=>?_);try simp(disch:=first|omega|assumption|((repeat(first|exact A1|exact uH|apply A2|apply uT));first|done|fail)|(simp;first|done|omega|fail))[-x9, hlt, g1, hkl, h1, hlb]))
 rename_i b8
 refine B8 (u := .bool (A2k ts x)) A9l (fun w' hw' => by have hsc := hRi.ks hw'.ks (fun _ h => h); exact C9g w' b4 (.slice ta ts.length tc) ts x hsc.tvr.rd (fun t ht => ⟨(hsc.thr t ht).rd, fun o ho => (hsc.pool t ht o ho).rd, by have := (hops t ht).1; omega⟩) hts (hw'.cell1 (by (repeat constructor)))) ?_
 refine C7M (α := MoH) (fun m2 => m2.b = m1.b ∧ m2.st = (stepL ts m1.st x).1) (fun m2 => .own 3 1 (.slice (some ⟨g, 0, none⟩) wl.length rc) wl.length (G7 wl) :: .pt b7 (.cells #[.func (.func 34) #[] #[.pointer (some ⟨b4, 0, none⟩)]] 85) :: .pt b5 (.cells #[.slice (some ⟨lb, lo, none⟩) l.length lc] 32) :: .pt b4 (.cells #[.slice ta ts.length tc] 24) :: .pt b3 (.cells #[.pointer (some ⟨m.b, 0, none⟩)] 60) :: D2 m2) (.bool (stepL ts m1.st x).2) ?_ ?_
 ·rintro m2 ⟨hb2, hst2⟩
  subst hS
  (have zz:=trivial;repeat((first|clear zz|with_reducible first|refine A3 ?_|refine A4 fun _=>?_|refine A5 fun _=>?_);try simp(disch:=first|omega|assumption|((repeat(first|exact A1|exact uH|apply A2|apply uT));first|done|fail)|(simp;first|done|omega|fail))[]))
  refine A6n hJ hE stJ hy hJi hyl hyi (fun w3 h => ?_) (fun w3 h => ?_)
  ·(have zz:=trivial;repeat((first|clear zz|with_reducible first|refine A3 ?_|refine A4 fun _=>?_|refine A5 fun _=>?_);try simp(disch:=first|omega|assumption|((repeat(first|exact A1|exact uH|apply A2|apply uT));first|done|fail)|(simp;first|done|omega|fail))[]))
   exact fun w' hw' => hL' m2 w' ⟨by simp only; omega, by simp only; rw [hb2, hmb], by simp only; rw [hst2, hst'], by simp only; rw [hst2]; exact hi2⟩ (by simp only; omega) (stJ _ _ _ _ _ h hw')
  ·(have zz:=trivial;repeat((first|clear zz|with_reducible first|refine A3 ?_|refine A4 fun _=>?_|refine A5 fun _=>?_);try simp(disch:=first|omega|assumption|((repeat(first|exact A1|exact uH|apply A2|apply uT));first|done|fail)|(simp;first|done|omega|fail))[]))
   exact A3Y stE h
 intro J3 hJ3
 cases hop : A2k ts x with
 | false =>
  have hstep : stepL ts m1.st x = (m1.st, false) := by unfold stepL; rw [if_neg (by rw [hop]; simp)]
  rw [hstep] at hJ3
  (have zz:=trivial;repeat((first|clear zz|with_reducible first|refine A3 ?_|refine A4 fun _=>?_|refine A5 fun _=>?_);try simp(disch:=first|omega|assumption|((repeat(first|exact A1|exact uH|apply A2|apply uT));first|done|fail)|(simp;first|done|omega|fail))[]))
  refine Sels.tw ?_ (hJ3 m1 ⟨rfl, rfl⟩)
  simp only [D2]
  (repeat' constructor)
 | true =>
 obtain ⟨n, q, t, o, hn, hq, ht, ho, hat⟩ := B8G hop
 have hstep : stepL ts m1.st x = ((K3 m1.st o.1 x).1, decide (x.en < 0) || decide (x.an = (K3 m1.st o.1 x).2)) := by unfold stepL; rw [if_pos hop, hat]
 rw [hstep] at hJ3
 simp only at hJ3
 have htm := List.mem_of_getElem? ht
 have hom := List.mem_of_getElem? ho
 have hnl := (List.getElem?_eq_some_iff.1 ht).1
 have hql := (List.getElem?_eq_some_iff.1 ho).1
 obtain ⟨_, _, e, htr⟩ := hRi.tvr.open
 cases e
 obtain ⟨tb, tof, rfl, htrow, htb⟩ := htr (by omega)
 have ht1 := htrow.cellAt (f := A1s) (k := 1) (j := 0) (fun _ => rfl) ht rfl
 rw [Nat.mul_one, Nat.add_zero] at ht1
 obtain ⟨oa, oc, hte, hor⟩ := (hRi.thr t htm).open
 obtain ⟨ob, oo, rfl, horow, hob⟩ := hor (by omega)
 rw [hte] at ht1
 have ho1 := horow.at (f := A43) (k := 4) (fun _ => rfl) ho
 have hpo := hRi.pool t htm o hom
 obtain ⟨pa, pc, hoe, _⟩ := hpo.open
 have hop2 := (hops t htm).2 o hom
 have hop1 := (hops t htm).1
 rw [A43, hoe] at ho1
 rw [hoe] at hpo
 have n0 : 0 ≤ x.th := by omega
 have n1 : x.th < (ts.length : Nat) := by omega
 have n2 : x.th.toNat = n := by omega
 have q0 : 0 ≤ x.op := by omega
 have q1 : x.op < (t.2.length : Nat) := by omega
 have q2 : x.op.toNat = q := by omega
 have hsub : ∀ s ∈ C3 (D2 m1), s ∈ S := fun s hs => by
  rw [← hS]
  obtain ⟨r, hr, hb⟩ := N5.1 hs
  exact N5.2 ⟨r, by simp only [List.mem_cons]; exact Or.inr (Or.inr (Or.inr (Or.inr (Or.inr hr)))), hb⟩
 have hpat : ∀ w', KS true S a w' → PoolAt w' m1 (.slice pa o.1.pool.length pc) o.1.pool := fun w' hk => by
  have h := hpo.ks hk (fun _ h => h)
  exact ⟨h.rd, fun h0 g hg hb => h.off h0 g hg (hsub g hb), by omega, rfl, rfl⟩
 have hexp : ∀ w', KS true S a w' → LW false (C3 (D2 m1)) w' (D2 m1) w' → Fn PR B7 36 #[.pointer (some ⟨m.b, 0, none⟩), o.1.val (.slice pa o.1.pool.length pc), .agg x.cs] w' (DoR w' m1 (K3 m1.st o.1 x)) := fun w' hk hs => by
  rw [← hmb]; exact B9F w' m1 o.1 _ x (hpat w' hk) (by omega) hi1.ok2 hs
 simp only [OpV.val, RecV.cs] at hexp
 generalize hxp : K3 m1.st o.1 x = xp at *
 obtain ⟨s2, an⟩ := xp
 simp only at hJ3 hexp
 (have zz:=trivial;repeat((first|clear zz|with_reducible first|refine A3 ?_|refine A4 fun _=>?_|refine A5 fun _=>?_);try simp(disch:=first|omega|assumption|((repeat(first|exact A1|exact uH|apply A2|apply uT));first|done|fail)|(simp;first|done|omega|fail))[n0, n1, n2, q0, q1, q2, hnl, hql, ht1, ho1, htb, hob]))
 refine C5Z (α := Nat × MoH) (fun z => z.2.b = m1.b ∧ z.2.st = s2) (fun z => .pt z.1 (.cells #[.int .i64 an.err, .int .i64 an.bk, .bool an.made, .int .i64 an.count] 44) :: .pt b8 (.cells #[.int .i64 x.th, .int .i64 x.op, .int .i64 x.st, .int .i64 x.tk, .int .i64 x.en, .int .i64 x.nw, .int .i64 x.an.err, .int .i64 x.an.bk, .bool x.an.made, .int .i64 x.an.count] 47) :: .own 3 1 (.slice (some ⟨g, 0, none⟩) wl.length rc) wl.length (G7 wl) :: .pt b7 (.cells #[.func (.func 34) #[] #[.pointer (some ⟨b4, 0, none⟩)]] 85) :: .pt b5 (.cells #[.slice (some ⟨lb, lo, none⟩) l.length lc] 32) :: .pt b4 (.cells #[.slice (some ⟨tb, tof, none⟩) ts.length tc] 24) :: .pt b3 (.cells #[.pointer (some ⟨m.b, 0, none⟩)] 60) :: D2 z.2) (fun z => .pointer (some ⟨z.1, 0, none⟩)) ?_ ?_
 ·rintro ⟨b10, m2⟩ ⟨hb2, hst2⟩
  simp only at hb2 hst2 ⊢
  simp only [D2]
  by_cases e0 : x.en < 0
  ·have h := hJ3 m2 ⟨hb2, hst2⟩
   rw [decide_eq_true e0, Bool.true_or] at h
   (have zz:=trivial;repeat((first|clear zz|with_reducible first|refine A3 ?_|refine A4 fun _=>?_|refine A5 fun _=>?_);try simp(disch:=first|omega|assumption|((repeat(first|exact A1|exact uH|apply A2|apply uT));first|done|fail)|(simp;first|done|omega|fail))[e0]))
   refine Sels.tw ?_ h
   simp only [D2]
   (repeat' constructor)
  ·have h := hJ3 m2 ⟨hb2, hst2⟩
   rw [decide_eq_false e0, Bool.false_or] at h
   (have zz:=trivial;repeat((first|clear zz|with_reducible first|refine A3 ?_|refine A4 fun _=>?_|refine A5 fun _=>?_);try simp(disch:=first|omega|assumption|((repeat(first|exact A1|exact uH|apply A2|apply uT));first|done|fail)|(simp;first|done|omega|fail))[e0]))
   rw [C6n]
   refine Sels.tw ?_ h
   simp only [D2]
   (repeat' constructor)
 ·intro J4 hJ4
  (have zz:=trivial;repeat((first|clear zz|with_reducible first|refine A3 ?_|refine A4 fun _=>?_|refine A5 fun _=>?_);try simp(disch:=first|omega|assumption|((repeat(first|exact A1|exact uH|apply A2|apply uT));first|done|fail)|(simp;first|done|omega|fail))[n0, n1, n2, q0, q1, q2, hnl, hql, ht1, ho1, htb, hob]))
  refine ⟨?_, ?_, fun _ _ => trivial⟩
  ·refine F9 (Hc := D2 m1) A3v (fun w' hw' hs => hexp w' hw'.ks hs) (by simp only [D2]; (repeat' constructor)) ?_
   rintro m2 _ ⟨rfl, hb2, hst2⟩
   simp only [D2, AnsV.val, List.cons_append, List.nil_append]
   (have zz:=trivial;repeat((first|clear zz|with_reducible first|refine A3 ?_|refine A4 fun _=>?_|refine A5 fun _=>?_);try simp(disch:=first|omega|assumption|((repeat(first|exact A1|exact uH|apply A2|apply uT));first|done|fail)|(simp;first|done|omega|fail))[]))
   rename_i b10
   refine Sels.tw ?_ (hJ4 (b10, m2) ⟨hb2, hst2⟩)
   simp only [D2]
   (repeat' constructor)
  ·(have zz:=trivial;repeat((first|clear zz|with_reducible first|refine A3 ?_|refine A4 fun _=>?_|refine A5 fun _=>?_);try simp(disch:=first|omega|assumption|((repeat(first|exact A1|exact uH|apply A2|apply uT));first|done|fail)|(simp;first|done|omega|fail))[n0, n1, n2, q0, q1, q2, hnl, hql, ht1, ho1, htb, hob]))
   rename_i b10
   rw [M1 (by (repeat constructor)) (by rfl), A0C (by simpa using ho1) hob]
   (have zz:=trivial;repeat((first|clear zz|with_reducible first|refine A3 ?_|refine A4 fun _=>?_|refine A5 fun _=>?_);try simp(disch:=first|omega|assumption|((repeat(first|exact A1|exact uH|apply A2|apply uT));first|done|fail)|(simp;first|done|omega|fail))[n0, n1, n2, q0, q1, q2, hnl, hql, ht1, ho1, htb, hob]))
   refine F9 (Hc := D2 m1) A3v (fun w' hw' hs => hexp w' hw'.ks hs) (by simp only [D2]; (repeat' constructor)) ?_
   rintro m2 _ ⟨rfl, hb2, hst2⟩
   simp only [D2, AnsV.val, List.cons_append, List.nil_append]
   (have zz:=trivial;repeat((first|clear zz|with_reducible first|refine A3 ?_|refine A4 fun _=>?_|refine A5 fun _=>?_);try simp(disch:=first|omega|assumption|((repeat(first|exact A1|exact uH|apply A2|apply uT));first|done|fail)|(simp;first|done|omega|fail))[]))
   refine Sels.tw ?_ (hJ4 (b10, m2) ⟨hb2, hst2⟩)
   simp only [D2]
   (repeat' constructor)
end Go.Proofs.YtlplkjgcfjdinaaGreat
namespace Go.Proofs.YtlplkjgcfjdinaaGreat
open Go
theorem A3E (w : World) (c : CfgV) (tv lv : Value) (ts : List T5) (l : List RecV) (hr : D4 w tv ts.length (ts.flatMap A1s)) (ht : ∀ t ∈ ts, ThRd w t) (hts : ts.length ≤ 1000) (hops : ∀ t ∈ ts, t.2.length ≤ 24 ∧ ∀ o ∈ t.2, o.1.packet.size ≤ 100 ∧ o.1.pool.length ≤ 8) (hl : l.length ≤ 24) (hv : D4 w lv l.length (l.flatMap H6)) :
  Fn PR B7 15 #[c.val, tv, lv] w (fun r w' => r = .int .i64 (s5 c ts l) ∧ C6 [] w w') := by
 refine Fn.pure (B44 (TW.go (κ := false) (S := []) ?_))
 unfold A7p
 simp only [CfgV.val]
 (have zz:=trivial;repeat((first|clear zz|with_reducible first|refine A3 ?_|refine A4 fun _=>?_|refine A5 fun _=>?_);try simp(disch:=first|omega|assumption|((repeat(first|exact A1|exact uH|apply A2|apply uT));first|done|fail)|(simp;first|done|omega|fail))[]))
 rename_i bc br
 refine C8m (c := c) (fun h0 => ?_) fun m hok hst hi => ?_
 ·(have zz:=trivial;repeat((first|clear zz|with_reducible first|refine A3 ?_|refine A4 fun _=>?_|refine A5 fun _=>?_);try simp(disch:=first|omega|assumption|((repeat(first|exact A1|exact uH|apply A2|apply uT));first|done|fail)|(simp;first|done|omega|fail))[]))
  exact A9 (by unfold s5; rw [h0]; rfl)
 have hleg : s5 c ts l = A1B (okL ts m.st (A0W l)) 0 := by unfold s5; rw [if_pos hok, hst]
 rw [hleg]
 have hit := fun b3 b4 b5 b7 => C2D c b3 b4 b5 b7 tv lv ts l m hi hts hl hops
 generalize okL ts m.st (A0W l) = bs at *
 (have zz:=trivial;repeat((first|clear zz|with_reducible first|refine A3 ?_|refine A4 fun _=>?_|refine A5 fun _=>?_);try simp(disch:=first|omega|assumption|((repeat(first|exact A1|exact uH|apply A2|apply uT));first|done|fail)|(simp;first|done|omega|fail))[]))
 refine F3 B2E (fun w' _ => C2x w' m.b tv lv (by obtain ⟨a, k, e, _⟩ := hr.form; exact ⟨_, _, _, e⟩) (by obtain ⟨a, k, e, _⟩ := hv.form; exact ⟨_, _, _, e⟩)) ?_
 rintro ⟨b3, b4, b5, b7⟩ u hu
 subst hu
 simp only
 rw [← List.append_assoc]
 refine A3V (hit b3 b4 b5 b7) (C64 _) (fun i (_ : Unit) => ∀ j, j < i → bs[j]? = some true) (fun _ _ => [.pt br (.cells #[.int .i64 0] 3), .pt bc (.cells #[.int .i64 c.wk, .int .i64 c.sh, .int .i64 c.cp, .int .i64 c.idle, .int .i64 c.sl] 23)])
  (fun cd (y : Nat) => cd = .ret ∧ bs[y]? = some false ∧ ∀ j, j < y → bs[j]? = some true) (fun y => [.pt br (.cells #[.int .i64 (y : Nat)] 3), .pt bc (.cells #[.int .i64 c.wk, .int .i64 c.sh, .int .i64 c.cp, .int .i64 c.idle, .int .i64 c.sl] 23)]) () (by simp) ?_ ?_ ?_ ?_
 ·intro i _ F w1 _ hw
  exact ScN.old hw hr ht hv
 ·rintro i hi' _ F hψ K' hK hE
  have hib : i < bs.length := by rw [B3r] at hi'; exact hi'
  have hb := List.getElem?_eq_getElem hib
  generalize bs[i] = b at hb
  rw [C5W hb hi']
  simp only [VF.app]
  cases b with
  | true =>
   (have zz:=trivial;repeat((first|clear zz|with_reducible first|refine A3 ?_|refine A4 fun _=>?_|refine A5 fun _=>?_);try simp(disch:=first|omega|assumption|((repeat(first|exact A1|exact uH|apply A2|apply uT));first|done|fail)|(simp;first|done|omega|fail))[]))
   exact hK () fun j hj => by
    by_cases e : j < i
    ·exact hψ j e
    ·obtain rfl : j = i := by omega
     exact hb
  | false =>
   (have zz:=trivial;repeat((first|clear zz|with_reducible first|refine A3 ?_|refine A4 fun _=>?_|refine A5 fun _=>?_);try simp(disch:=first|omega|assumption|((repeat(first|exact A1|exact uH|apply A2|apply uT));first|done|fail)|(simp;first|done|omega|fail))[]))
   exact hE .ret i ⟨rfl, hb, hψ⟩
 ·rintro _ hψ
  rw [B3r] at hψ
  (have zz:=trivial;repeat((first|clear zz|with_reducible first|refine A3 ?_|refine A4 fun _=>?_|refine A5 fun _=>?_);try simp(disch:=first|omega|assumption|((repeat(first|exact A1|exact uH|apply A2|apply uT));first|done|fail)|(simp;first|done|omega|fail))[]))
  refine A9 ?_
  rw [B3Q fun b hb => ?_]
  obtain ⟨j, hj, e⟩ := List.getElem_of_mem hb
  have := hψ j hj
  rw [List.getElem?_eq_getElem hj, e] at this
  exact Option.some.inj this
 ·rintro _ y ⟨rfl, h1, h2⟩
  (have zz:=trivial;repeat((first|clear zz|with_reducible first|refine A3 ?_|refine A4 fun _=>?_|refine A5 fun _=>?_);try simp(disch:=first|omega|assumption|((repeat(first|exact A1|exact uH|apply A2|apply uT));first|done|fail)|(simp;first|done|omega|fail))[]))
  refine A9 ?_
  rw [B5L 0 h1 h2, Int.zero_add]
end Go.Proofs.YtlplkjgcfjdinaaGreat
namespace Go.Proofs.YtlplkjgcfjdinaaGreat
open Go
def r5 : CfgV := ⟨1, 1, 1, 5, 2⟩
def y5 (v : Value) : List T5 := [(v, [(⟨1, ⟨#[]⟩, [], 0⟩, .slice none 0 0)])]
def T2 (e : Int) (a : Int) : List RecV := [⟨0, 0, 0, 1, e, 0, ⟨a, 0, false, 0⟩⟩]
theorem C7F : s5 r5 [] [] = -1 := by kernel_rfl
theorem C7n (v : Value) : s5 r5 (y5 v) (T2 2 0) = -1 := by kernel_rfl
theorem C7w (v : Value) : s5 r5 (y5 v) (T2 2 1) = 0 := by kernel_rfl
theorem C7S (v : Value) : s5 r5 (y5 v) (T2 1 13) = -1 := by kernel_rfl
theorem C7Z : s5 r5 [] (T2 2 0) = 0 := by kernel_rfl
theorem C6m : A0Y (T2 2 0) = true := by kernel_rfl
theorem C6G : A0Y [⟨0, 0, 0, -1, 0, 0, ⟨0, 0, false, 0⟩⟩] = false := by kernel_rfl
theorem C71 : T4 (G1 (T2 2 0)) (T2 2 0).length = [0] := by kernel_rfl
theorem C0e (w : World) : Fn PR B7 6 #[] w (fun r w' => r = .bool true ∧ C6 [] w w') := by
 refine Fn.pure (A5Y (TW.go (κ := false) (S := []) ?_))
 unfold A0n
 (have zz:=trivial;repeat((first|clear zz|with_reducible first|refine A3 ?_|refine A4 fun _=>?_|refine A5 fun _=>?_|refine E2 fun _=>?_|refine E5 (hK:=fun _=>?_)|refine E6 (hK:=fun _=>?_)|refine E3 (hK:=fun _=>?_)|refine E1 (hK:=fun _=>?_)|refine E4 (hK:=fun _=>?_));try simp(disch:=first|omega|assumption|((repeat(first|exact A1|exact uH|apply A2|apply uT));first|done|fail)|(simp;first|done|omega|fail))[]))
 rename_i bc bo bt bg bb bz
 have hops : ∀ v, ∀ t ∈ y5 v, t.2.length ≤ 24 ∧ ∀ o ∈ t.2, o.1.packet.size ≤ 100 ∧ o.1.pool.length ≤ 8 := by
  intro v t ht
  obtain rfl : t = _ := List.mem_singleton.1 ht
  refine ⟨by simp, fun o ho => ?_⟩
  obtain rfl : o = _ := List.mem_singleton.1 ho
  exact ⟨by decide, by simp⟩
 have hth : ∀ w', D4 w' (.slice (some ⟨bo, 0, none⟩) 1 1) 1 [.int .i64 1, .string ⟨#[]⟩, .slice none 0 0, .int .i64 0] → ∀ t ∈ y5 (.slice (some ⟨bo, 0, none⟩) 1 1), ThRd w' t := by
  intro w' h t ht
  obtain rfl : t = _ := List.mem_singleton.1 ht
  refine ⟨h, fun o ho => ?_, by simp⟩
  obtain rfl : o = _ := List.mem_singleton.1 ho
  exact Or.inl ⟨rfl, rfl, none, 0, rfl⟩
 refine B8 (u := .int .i64 (s5 r5 [] [])) Y0 (fun w' hw' => A3E w' r5 (.slice none 0 0) (.slice none 0 0) [] [] (Or.inl ⟨rfl, rfl, none, 0, rfl⟩) (by simp) (by simp) (by simp) (by simp) (Or.inl ⟨rfl, rfl, none, 0, rfl⟩)) ?_
 rw [C7F]
 (have zz:=trivial;repeat((first|clear zz|with_reducible first|refine A3 ?_|refine A4 fun _=>?_|refine A5 fun _=>?_);try simp(disch:=first|omega|assumption|((repeat(first|exact A1|exact uH|apply A2|apply uT));first|done|fail)|(simp;first|done|omega|fail))[]))
 refine B8 (u := .int .i64 (s5 r5 (y5 (.slice (some ⟨bo, 0, none⟩) 1 1)) (T2 2 0))) Y0 (fun w' hw' => A3E w' r5 (.slice (some ⟨bt, 0, none⟩) 1 1) (.slice (some ⟨bg, 0, none⟩) 1 1) (y5 (.slice (some ⟨bo, 0, none⟩) 1 1)) (T2 2 0) (G0.own (e := 53) (k := 1) (by (repeat constructor)) w' hw') (hth w' (G0.own (e := 52) (k := 4) (by (repeat constructor)) w' hw')) (by simp [y5]) (hops _) (by simp [T2]) (G0.own (e := 47) (k := 10) (by (repeat constructor)) w' hw')) ?_
 rw [C7n]
 (have zz:=trivial;repeat((first|clear zz|with_reducible first|refine A3 ?_|refine A4 fun _=>?_|refine A5 fun _=>?_);try simp(disch:=first|omega|assumption|((repeat(first|exact A1|exact uH|apply A2|apply uT));first|done|fail)|(simp;first|done|omega|fail))[]))
 refine B8 (u := .int .i64 (s5 r5 (y5 (.slice (some ⟨bo, 0, none⟩) 1 1)) (T2 2 1))) Y0 (fun w' hw' => A3E w' r5 (.slice (some ⟨bt, 0, none⟩) 1 1) (.slice (some ⟨bb, 0, none⟩) 1 1) (y5 (.slice (some ⟨bo, 0, none⟩) 1 1)) (T2 2 1) (G0.own (e := 53) (k := 1) (by (repeat constructor)) w' hw') (hth w' (G0.own (e := 52) (k := 4) (by (repeat constructor)) w' hw')) (by simp [y5]) (hops _) (by simp [T2]) (G0.own (e := 47) (k := 10) (by (repeat constructor)) w' hw')) ?_
 rw [C7w]
 (have zz:=trivial;repeat((first|clear zz|with_reducible first|refine A3 ?_|refine A4 fun _=>?_|refine A5 fun _=>?_);try simp(disch:=first|omega|assumption|((repeat(first|exact A1|exact uH|apply A2|apply uT));first|done|fail)|(simp;first|done|omega|fail))[]))
 refine B8 (u := .int .i64 (s5 r5 (y5 (.slice (some ⟨bo, 0, none⟩) 1 1)) (T2 1 13))) Y0 (fun w' hw' => A3E w' r5 (.slice (some ⟨bt, 0, none⟩) 1 1) (.slice (some ⟨bz, 0, none⟩) 1 1) (y5 (.slice (some ⟨bo, 0, none⟩) 1 1)) (T2 1 13) (G0.own (e := 53) (k := 1) (by (repeat constructor)) w' hw') (hth w' (G0.own (e := 52) (k := 4) (by (repeat constructor)) w' hw')) (by simp [y5]) (hops _) (by simp [T2]) (G0.own (e := 47) (k := 10) (by (repeat constructor)) w' hw')) ?_
 rw [C7S]
 (have zz:=trivial;repeat((first|clear zz|with_reducible first|refine A3 ?_|refine A4 fun _=>?_|refine A5 fun _=>?_);try simp(disch:=first|omega|assumption|((repeat(first|exact A1|exact uH|apply A2|apply uT));first|done|fail)|(simp;first|done|omega|fail))[]))
 refine B8 (u := .int .i64 (s5 r5 [] (T2 2 0))) Y0 (fun w' hw' => A3E w' r5 (.slice none 0 0) (.slice (some ⟨bg, 0, none⟩) 1 1) [] (T2 2 0) (Or.inl ⟨rfl, rfl, none, 0, rfl⟩) (by simp) (by simp) (by simp) (by simp [T2]) (G0.own (e := 47) (k := 10) (by (repeat constructor)) w' hw')) ?_
 rw [C7Z]
 (have zz:=trivial;repeat((first|clear zz|with_reducible first|refine A3 ?_|refine A4 fun _=>?_|refine A5 fun _=>?_);try simp(disch:=first|omega|assumption|((repeat(first|exact A1|exact uH|apply A2|apply uT));first|done|fail)|(simp;first|done|omega|fail))[]))
 refine B8 (u := .bool (A0Y (T2 2 0))) A3J (fun w' hw' => B4s w' (.slice (some ⟨bg, 0, none⟩) 1 1) (T2 2 0) (by simp [T2]) (G0.own (e := 47) (k := 10) (by (repeat constructor)) w' hw')) ?_
 rw [C6m]
 (have zz:=trivial;repeat((first|clear zz|with_reducible first|refine A3 ?_|refine A4 fun _=>?_|refine A5 fun _=>?_|refine E2 fun _=>?_|refine E5 (hK:=fun _=>?_)|refine E6 (hK:=fun _=>?_)|refine E3 (hK:=fun _=>?_)|refine E1 (hK:=fun _=>?_)|refine E4 (hK:=fun _=>?_));try simp(disch:=first|omega|assumption|((repeat(first|exact A1|exact uH|apply A2|apply uT));first|done|fail)|(simp;first|done|omega|fail))[]))
 rename_i bx
 refine B8 (u := .bool (A0Y [⟨0, 0, 0, -1, 0, 0, ⟨0, 0, false, 0⟩⟩])) A3J (fun w' hw' => B4s w' (.slice (some ⟨bx, 0, none⟩) 1 1) [⟨0, 0, 0, -1, 0, 0, ⟨0, 0, false, 0⟩⟩] (by simp) (G0.own (e := 47) (k := 10) (by (repeat constructor)) w' hw')) ?_
 rw [C6G]
 (have zz:=trivial;repeat((first|clear zz|with_reducible first|refine A3 ?_|refine A4 fun _=>?_|refine A5 fun _=>?_);try simp(disch:=first|omega|assumption|((repeat(first|exact A1|exact uH|apply A2|apply uT));first|done|fail)|(simp;first|done|omega|fail))[]))
 refine F3 A08 (fun w' hw' => A83 w' (.slice (some ⟨bg, 0, none⟩) 1 1) (T2 2 0) (by simp [T2]) (G0.own (e := 47) (k := 10) (by (repeat constructor)) w' hw')) ?_
 intro _ r hr
 subst hr
 rw [C71]
 refine Y3 (e := 3) (k := 1) (v := r) (q := 1) (xs := G7 [0]) (by (repeat constructor)) fun ra rc e => ?_
 subst e
 (have zz:=trivial;repeat((first|clear zz|with_reducible first|refine A3 ?_|refine A4 fun _=>?_|refine A5 fun _=>?_);try simp(disch:=first|omega|assumption|((repeat(first|exact A1|exact uH|apply A2|apply uT));first|done|fail)|(simp;first|done|omega|fail))[]))
 exact A9 rfl
end Go.Proofs.YtlplkjgcfjdinaaGreat
namespace Go.Proofs.YtlplkjgcfjdinaaGreat
open Go
def A2H (X : Nat → Prop) (t0 : Value) (R : Value → WP) : WP :=
 A0 PR (A7 .min #[3, 3] 0 [t0, (.int .i64 64)]) fun t4 =>
 A0 PR (A7 .max #[3, 3] 0 [(.int .i64 0), t4]) fun t5 =>
 B1 PR X (Instr.makeSlice 79 t5 t5) fun t6 =>
 R t6
theorem A1U : B0 PR 38 := A8 Tryz.func38 (by kernel_rfl) rfl
theorem A7n {X : Nat → Prop} {t0 : Value} {R : Value → WP} {w : World} (h : A2H X t0 R w) : Fn PR X 38 #[t0] w R := C7 (args := [t0]) mixed Tryz.func38 (by kernel_rfl) h
def A0B (X : Nat → Prop) (t0 t1 : Value) (R : Value → WP) : WP :=
 B2 PR X 60 [t0, t1] fun t9 =>
 jn (n := 2) (fun t4 t5 =>
 B2 PR X 67 [t0, t9] fun t15 =>
 B2 PR X 68 [t15] fun t16 =>
 R (.tuple #[t16, (.bool true)])) fun J1 =>
 A0 PR (binOp .lss 3 t9 (.int .i64 0)) fun t11 =>
 B3 t11 (
 R (.tuple #[t0, (.bool false)])) (
 J1 (.slice none 0 0) (.bool false))
theorem A4T : B0 PR 64 := A8 Tryz.func64 (by kernel_rfl) rfl
theorem A44 {X : Nat → Prop} {t0 t1 : Value} {R : Value → WP} {w : World} (h : A0B X t0 t1 R w) : Fn PR X 64 #[t0, t1] w R := C7 (args := [t0, t1]) mixed Tryz.func64 (by kernel_rfl) h
def A2C (X : Nat → Prop) (t0 t1 t2 t3 : Value) (R : Value → WP) : WP :=
 B2 PR X 60 [t0, t1] fun t13 =>
 jn (n := 1) (fun t10 =>
 jn (n := 2) (fun t8 t9 =>
 A0 PR (Instr.build 119 #[(0, (.int .i64 1)), (1, t1), (2, t2), (3, t3)]) fun t27 =>
 B2 PR X 89 [t0, t10, t27] fun t28 =>
 R (.tuple #[t28, (.int .i64 0)])) fun J1 =>
 A0 PR (binOp .lss 3 t10 (.int .i64 0)) fun t20 =>
 B3 t20 (
 R (.tuple #[t0, (.int .i64 12)])) (
 J1 (.slice none 0 0) (.int .i64 0))) fun J2 =>
 A0 PR (binOp .lss 3 t13 (.int .i64 0)) fun t15 =>
 B3 t15 (
 B2 PR X 88 [t0, t1] fun t18 =>
 J2 t18) (
 J2 t13)
theorem l5 : B0 PR 65 := A8 Tryz.func65 (by kernel_rfl) rfl
theorem A7m {X : Nat → Prop} {t0 t1 t2 t3 : Value} {R : Value → WP} {w : World} (h : A2C X t0 t1 t2 t3 R w) : Fn PR X 65 #[t0, t1, t2, t3] w R := C7 (args := [t0, t1, t2, t3]) mixed Tryz.func65 (by kernel_rfl) h
def A1f (X : Nat → Prop) (t0 t1 : Value) (R : Value → WP) : WP :=
 A0 PR (Instr.build 119 #[(0, (.int .i64 2))]) fun t7 =>
 B2 PR X 89 [t0, t1, t7] fun t8 =>
 R t8
theorem A01 : B0 PR 67 := A8 Tryz.func67 (by kernel_rfl) rfl
theorem A7f {X : Nat → Prop} {t0 t1 : Value} {R : Value → WP} {w : World} (h : A1f X t0 t1 R w) : Fn PR X 67 #[t0, t1] w R := C7 (args := [t0, t1]) mixed Tryz.func67 (by kernel_rfl) h
def A0A (X : Nat → Prop) (t0 : Value) (R : Value → WP) : WP :=
 jn (n := 1) (fun t2 =>
 R t0) fun J1 =>
 B2 PR X 50 [t0, (.int .i64 2)] fun t4 =>
 A0 PR (binOp .mul 3 (.int .i64 2) t4) fun t5 =>
 A0 PR (A7 .len #[79] 0 [t0]) fun t7 =>
 A0 PR (binOp .gtr 3 t5 t7) fun t8 =>
 B3 t8 (
 B2 PR X 90 [t0] fun t10 =>
 R t10) (
 J1 (.slice none 0 0))
theorem A4Q : B0 PR 68 := A8 Tryz.func68 (by kernel_rfl) rfl
theorem A5K {X : Nat → Prop} {t0 : Value} {R : Value → WP} {w : World} (h : A0A X t0 R w) : Fn PR X 68 #[t0] w R := C7 (args := [t0]) mixed Tryz.func68 (by kernel_rfl) h
def A1a (X : Nat → Prop) (t0 t1 t2 : Value) (R : Value → WP) : WP :=
 B1 PR X (Instr.box 119 t2) fun t5 =>
 jn (n := 2) (fun t7 t8 =>
 R t7) fun J1 =>
 lp (n := 2) (fun L2 t7_1 t8_1 =>
 jn (n := 0) (
 jn (n := 1) (fun t7_2 =>
 A0 PR (binOp .add 3 t8_1 (.int .i64 1)) fun t14 =>
 L2 t7_2 t14) fun J3 =>
 A0 PR (binOp .eql 3 t8_1 t1) fun t17 =>
 B3 t17 (
 A6 PR (Instr.loadAt 119 t5) fun t19 =>
 B1 PR X (Instr.buildSlice 79 1 #[(0, t19)]) fun t20 =>
 B1 PR X (A7 .append #[79, 79] 79 [t7_1, t20]) fun t21 =>
 J3 t21) (
 A0 PR (Instr.indexAt 79 t0 t8_1) fun t25 =>
 A6 PR (Instr.loadAt 119 t25) fun t26 =>
 B1 PR X (Instr.buildSlice 79 1 #[(0, t26)]) fun t27 =>
 B1 PR X (A7 .append #[79, 79] 79 [t7_1, t27]) fun t28 =>
 J3 t28)) fun J4 =>
 A0 PR (A7 .len #[79] 0 [t0]) fun t11 =>
 A0 PR (binOp .lss 3 t8_1 t11) fun t12 =>
 B3 t12 (
 J4) (
 J1 t7_1 t8_1)) (.slice none 0 0) (.int .i64 0)
theorem A0q : B0 PR 89 := A8 Tryz.func89 (by kernel_rfl) rfl
theorem A6x {X : Nat → Prop} {t0 t1 t2 : Value} {R : Value → WP} {w : World} (h : A1a X t0 t1 t2 R w) : Fn PR X 89 #[t0, t1, t2] w R := C7 (args := [t0, t1, t2]) mixed Tryz.func89 (by kernel_rfl) h
def A1G (X : Nat → Prop) (t0 : Value) (R : Value → WP) : WP :=
 A0 PR (A7 .len #[79] 0 [t0]) fun t8 =>
 B2 PR X 38 [t8] fun t9 =>
 jn (n := 2) (fun t3 t4 =>
 R t3) fun J1 =>
 lp (n := 2) (fun L2 t3_1 t4_1 =>
 jn (n := 0) (
 jn (n := 1) (fun t3_2 =>
 A0 PR (binOp .add 3 t4_1 (.int .i64 1)) fun t15 =>
 L2 t3_2 t15) fun J3 =>
 A0 PR (Instr.indexAt 79 t0 t4_1) fun t18 =>
 A0 PR (Instr.fieldAt 119 t18 0) fun t19 =>
 A6 PR (Instr.loadAt 3 t19) fun t20 =>
 A0 PR (binOp .eql 3 t20 (.int .i64 1)) fun t21 =>
 B3 t21 (
 drw <|
 A0 PR (Instr.indexAt 79 t0 t4_1) fun t26 =>
 A0 PR (Instr.fieldAt 119 t26 1) fun t27 =>
 A6 PR (Instr.loadAt 9 t27) fun t28 =>
 A0 PR (Instr.indexAt 79 t0 t4_1) fun t31 =>
 A0 PR (Instr.fieldAt 119 t31 2) fun t32 =>
 A6 PR (Instr.loadAt 3 t32) fun t33 =>
 A0 PR (Instr.indexAt 79 t0 t4_1) fun t36 =>
 A0 PR (Instr.fieldAt 119 t36 3) fun t37 =>
 A6 PR (Instr.loadAt 3 t37) fun t38 =>
 B2 PR X 65 [t3_1, t28, t33, t38] fun t39 =>
 A0 PR (Instr.extract t39 0) fun t40 =>
 A0 PR (Instr.extract t39 1) fun t41 =>
 J3 t40) (
 J3 t3_1)) fun J4 =>
 A0 PR (A7 .len #[79] 0 [t0]) fun t12 =>
 A0 PR (binOp .lss 3 t4_1 t12) fun t13 =>
 B3 t13 (
 J4) (
 J1 t3_1 t4_1)) t9 (.int .i64 0)
theorem A5s : B0 PR 90 := A8 Tryz.func90 (by kernel_rfl) rfl
theorem A7L {X : Nat → Prop} {t0 : Value} {R : Value → WP} {w : World} (h : A1G X t0 R w) : Fn PR X 90 #[t0] w R := C7 (args := [t0]) mixed Tryz.func90 (by kernel_rfl) h
end Go.Proofs.YtlplkjgcfjdinaaGreat
namespace Go.Proofs.YtlplkjgcfjdinaaGreat
open Go
def A0z (X : Nat → Prop) (t0 t1 : Value) (R : Value → WP) : WP :=
 jn (n := 2) (fun t5 t6 =>
 R t5) fun J1 =>
 lp (n := 2) (fun L2 t5_1 t6_1 =>
 jn (n := 0) (
 jn (n := 1) (fun t5_2 =>
 A0 PR (binOp .add 3 t6_1 (.int .i64 1)) fun t12 =>
 L2 t5_2 t12) fun J3 =>
 A0 PR (Instr.indexAt 79 t0 t6_1) fun t15 =>
 A0 PR (Instr.fieldAt 119 t15 0) fun t16 =>
 A6 PR (Instr.loadAt 3 t16) fun t17 =>
 A0 PR (binOp .eql 3 t17 t1) fun t19 =>
 B3 t19 (
 A0 PR (binOp .add 3 t5_1 (.int .i64 1)) fun t21 =>
 J3 t21) (
 J3 t5_1)) fun J4 =>
 A0 PR (A7 .len #[79] 0 [t0]) fun t9 =>
 A0 PR (binOp .lss 3 t6_1 t9) fun t10 =>
 B3 t10 (
 J4) (
 J1 t5_1 t6_1)) (.int .i64 0) (.int .i64 0)
theorem A0D : B0 PR 50 := A8 Tryz.func50 (by kernel_rfl) rfl
theorem A5q {X : Nat → Prop} {t0 t1 : Value} {R : Value → WP} {w : World} (h : A0z X t0 t1 R w) : Fn PR X 50 #[t0, t1] w R := C7 (args := [t0, t1]) mixed Tryz.func50 (by kernel_rfl) h
def A1D (X : Nat → Prop) (t0 t1 : Value) (R : Value → WP) : WP :=
 A0 PR (A7 .len #[79] 0 [t0]) fun t10 =>
 B2 PR X 84 [t1, t10] fun t11 =>
 jn (n := 2) (fun t4 t6 =>
 R (.int .i64 (-1))) fun J1 =>
 lp (n := 2) (fun L2 t4_1 t6_1 =>
 jn (n := 0) (
 jn (n := 1) (fun t4_2 =>
 A0 PR (binOp .add 3 t6_1 (.int .i64 1)) fun t17 =>
 L2 t4_2 t17) fun J3 =>
 A0 PR (binOp .add 3 t11 t6_1) fun t20 =>
 A0 PR (A7 .len #[79] 0 [t0]) fun t22 =>
 A0 PR (binOp .rem 3 t20 t22) fun t23 =>
 jn (n := 1) (fun t4_3 =>
 A0 PR (Instr.indexAt 79 t0 t23) fun t32 =>
 A0 PR (Instr.fieldAt 119 t32 0) fun t33 =>
 A6 PR (Instr.loadAt 3 t33) fun t34 =>
 A0 PR (binOp .eql 3 t34 (.int .i64 1)) fun t35 =>
 gj t35 true (fun J => J t0) fun t37 =>
 gj t35 true (fun J => J t23) fun t38 =>
 gj t35 true (fun J => A0 PR (Instr.indexAt 79 t37 t38) J) fun t39 =>
 gj t35 true (fun J => A0 PR (Instr.fieldAt 119 t39 1) J) fun t40 =>
 gj t35 true (fun J => A6 PR (Instr.loadAt 9 t40) J) fun t41 =>
 gj t35 true (fun J => J t1) fun t42 =>
 gj t35 true (fun J => A0 PR (binOp .eql 9 t41 t42) J) fun t43 =>
 A0 PR (do pure (if ← asBool t35 then t43 else (.bool false))) fun t44 =>
 B3 t44 (
 R t23) (
 J3 t4_3)) fun J4 =>
 A0 PR (Instr.indexAt 79 t0 t23) fun t26 =>
 A0 PR (Instr.fieldAt 119 t26 0) fun t27 =>
 A6 PR (Instr.loadAt 3 t27) fun t28 =>
 A0 PR (binOp .eql 3 t28 (.int .i64 0)) fun t29 =>
 B3 t29 (
 R (.int .i64 (-1))) (
 J4 t4_1)) fun J5 =>
 A0 PR (A7 .len #[79] 0 [t0]) fun t14 =>
 A0 PR (binOp .lss 3 t6_1 t14) fun t15 =>
 B3 t15 (
 J5) (
 J1 t4_1 t6_1)) (.int .i64 0) (.int .i64 0)
theorem V1 : B0 PR 60 := A8 Tryz.func60 (by kernel_rfl) rfl
theorem A7J {X : Nat → Prop} {t0 t1 : Value} {R : Value → WP} {w : World} (h : A1D X t0 t1 R w) : Fn PR X 60 #[t0, t1] w R := C7 (args := [t0, t1]) mixed Tryz.func60 (by kernel_rfl) h
def A1Z (X : Nat → Prop) (t0 t1 : Value) (R : Value → WP) : WP :=
 jn (n := 1) (fun t4 =>
 B2 PR X 63 [t0] fun t8 =>
 A0 PR (convert 3 122 t1) fun t10 =>
 A0 PR (binOp .rem 122 t8 t10) fun t11 =>
 A0 PR (convert 122 3 t11) fun t12 =>
 R t12) fun J1 =>
 A0 PR (binOp .lss 3 t1 (.int .i64 1)) fun t6 =>
 B3 t6 (
 R (.int .i64 0)) (
 J1 (.int .i64 0))
theorem A03 : B0 PR 84 := A8 Tryz.func84 (by kernel_rfl) rfl
theorem A7C {X : Nat → Prop} {t0 t1 : Value} {R : Value → WP} {w : World} (h : A1Z X t0 t1 R w) : Fn PR X 84 #[t0, t1] w R := C7 (args := [t0, t1]) mixed Tryz.func84 (by kernel_rfl) h
def A1J (X : Nat → Prop) (t0 t1 : Value) (R : Value → WP) : WP :=
 jn (n := 1) (fun t4 =>
 A0 PR (A7 .len #[79] 0 [t0]) fun t14 =>
 B2 PR X 84 [t1, t14] fun t15 =>
 jn (n := 2) (fun t4_1 t6 =>
 R (.int .i64 (-1))) fun J1 =>
 lp (n := 2) (fun L2 t4_2 t6_1 =>
 jn (n := 0) (
 jn (n := 1) (fun t4_3 =>
 A0 PR (binOp .add 3 t6_1 (.int .i64 1)) fun t21 =>
 L2 t4_3 t21) fun J3 =>
 A0 PR (binOp .add 3 t15 t6_1) fun t24 =>
 A0 PR (A7 .len #[79] 0 [t0]) fun t26 =>
 A0 PR (binOp .rem 3 t24 t26) fun t27 =>
 A0 PR (Instr.indexAt 79 t0 t27) fun t30 =>
 A0 PR (Instr.fieldAt 119 t30 0) fun t31 =>
 A6 PR (Instr.loadAt 3 t31) fun t32 =>
 A0 PR (binOp .neq 3 t32 (.int .i64 1)) fun t33 =>
 B3 t33 (
 R t27) (
 J3 t4_2)) fun J4 =>
 A0 PR (A7 .len #[79] 0 [t0]) fun t18 =>
 A0 PR (binOp .lss 3 t6_1 t18) fun t19 =>
 B3 t19 (
 J4) (
 J1 t4_2 t6_1)) t4 (.int .i64 0)) fun J5 =>
 B2 PR X 60 [t0, t1] fun t10 =>
 A0 PR (binOp .geq 3 t10 (.int .i64 0)) fun t11 =>
 B3 t11 (
 R (.int .i64 (-1))) (
 J5 (.int .i64 0))
theorem A5m : B0 PR 88 := A8 Tryz.func88 (by kernel_rfl) rfl
theorem A6u {X : Nat → Prop} {t0 t1 : Value} {R : Value → WP} {w : World} (h : A1J X t0 t1 R w) : Fn PR X 88 #[t0, t1] w R := C7 (args := [t0, t1]) mixed Tryz.func88 (by kernel_rfl) h
end Go.Proofs.YtlplkjgcfjdinaaGreat
namespace Go.Proofs.YtlplkjgcfjdinaaGreat
open Go
end Go.Proofs.YtlplkjgcfjdinaaGreat
namespace Go.Proofs.YtlplkjgcfjdinaaGreat
open Go
def A2K (X : Nat → Prop) (t0 : Value) (R : Value → WP) : WP :=
 B2 PR X 87 [(.int .u64 14695981039346656037), t0] fun t4 =>
 R t4
theorem V5 : B0 PR 63 := A8 Tryz.func63 (by kernel_rfl) rfl
theorem A8Z {X : Nat → Prop} {t0 : Value} {R : Value → WP} {w : World} (h : A2K X t0 R w) : Fn PR X 63 #[t0] w R := C7 (args := [t0]) mixed Tryz.func63 (by kernel_rfl) h
def A1c (X : Nat → Prop) (t0 t1 : Value) (R : Value → WP) : WP :=
 jn (n := 2) (fun t0_1 t5 =>
 R t0_1) fun J1 =>
 lp (n := 2) (fun L2 t0_2 t5_1 =>
 jn (n := 0) (
 jn (n := 1) (fun t0_3 =>
 A0 PR (binOp .add 3 t5_1 (.int .i64 1)) fun t11 =>
 L2 t0_3 t11) fun J3 =>
 A0 PR (Instr.index 9 t1 t5_1) fun t15 =>
 B2 PR X 112 [t0_2, t15] fun t16 =>
 J3 t16) fun J4 =>
 A0 PR (A7 .len #[9] 0 [t1]) fun t8 =>
 A0 PR (binOp .lss 3 t5_1 t8) fun t9 =>
 B3 t9 (
 J4) (
 J1 t0_2 t5_1)) t0 (.int .i64 0)
theorem A53 : B0 PR 87 := A8 Tryz.func87 (by kernel_rfl) rfl
theorem A7P {X : Nat → Prop} {t0 t1 : Value} {R : Value → WP} {w : World} (h : A1c X t0 t1 R w) : Fn PR X 87 #[t0, t1] w R := C7 (args := [t0, t1]) mixed Tryz.func87 (by kernel_rfl) h
def A1H (X : Nat → Prop) (t0 t1 : Value) (R : Value → WP) : WP :=
 A0 PR (convert 5 122 t1) fun t7 =>
 A0 PR (binOp .xor 122 t0 t7) fun t8 =>
 A0 PR (binOp .mul 122 t8 (.int .u64 1099511628211)) fun t9 =>
 R t9
theorem A55 : B0 PR 112 := A8 Tryz.func112 (by kernel_rfl) rfl
theorem A6w {X : Nat → Prop} {t0 t1 : Value} {R : Value → WP} {w : World} (h : A1H X t0 t1 R w) : Fn PR X 112 #[t0, t1] w R := C7 (args := [t0, t1]) mixed Tryz.func112 (by kernel_rfl) h
end Go.Proofs.YtlplkjgcfjdinaaGreat
namespace Go.Proofs.YtlplkjgcfjdinaaGreat
open Go
theorem C3u (w : World) (h b : Nat) (hh : h < 2 ^ 64) (hb : b < 256) : Fn PR B7 112 #[.int .u64 (h : Int), .int .u8 (b : Int)] w (fun v w' => v = .int .u64 (A49 h b : Nat) ∧ C6 [] w w') := by
 refine Fn.pure (A6w (TW.go (κ := false) (S := []) ?_))
 unfold A1H
 (have zz:=trivial;repeat((first|clear zz|with_reducible first|refine A3 ?_|refine A4 fun _=>?_|refine A5 fun _=>?_);try simp(disch:=first|omega|assumption|((repeat(first|exact A1|exact uH|apply A2|apply uT));first|done|fail)|(simp;first|done|omega|fail))[]))
 have e1 : (h % 2 ^ IntKind.u64.bits ^^^ b % 2 ^ IntKind.u64.bits) = h ^^^ b := by rw [show (2 : Nat) ^ IntKind.u64.bits = 2 ^ 64 from rfl, Nat.mod_eq_of_lt hh, Nat.mod_eq_of_lt (by omega)]
 have e2 : h ^^^ b < 2 ^ 64 := Nat.xor_lt_two_pow hh (by omega)
 rw [e1, A0b (n := ((h ^^^ b : Nat) : Int)) (by omega) (by omega)]
 refine A9 ?_
 have e3 : IntKind.u64.wrap (((h ^^^ b : Nat) : Int) * 1099511628211) = (A49 h b : Nat) := by
  simp only [IntKind.wrap, IntKind.bits, IntKind.signed, A49]
  simp
 rw [e3]
theorem C3d (w : World) (h : Nat) (s : ByteArray) (hh : h < 2 ^ 64) (hs : s.size < 2 ^ 60) : Fn PR B7 87 #[.int .u64 (h : Int), .string s] w (fun v w' => v = .int .u64 (A87 h s : Nat) ∧ C6 [] w w') := by
 refine Fn.pure (A7P (TW.go (κ := false) (S := []) ?_))
 unfold A1c
 (have zz:=trivial;repeat((first|clear zz|with_reducible first|refine A3 ?_|refine A4 fun _=>?_|refine A5 fun _=>?_);try simp(disch:=first|omega|assumption|((repeat(first|exact A1|exact uH|apply A2|apply uT));first|done|fail)|(simp;first|done|omega|fail))[]))
 refine H4 s.size (fun i (_ : Unit) => .int .u64 (A09 h s i : Nat)) (fun _ _ => []) (fun _ _ => True) () trivial ?_
 rintro i _ hi _ L hL
 by_cases hlt : i < s.size
 ·obtain ⟨by0, hb0, hb1⟩ := s6 (s := s) (i := i) hlt
  have hb0' : s[((i : Nat) : Int).toNat]? = some by0 := by rw [Int.toNat_natCast]; exact hb0
  (have zz:=trivial;repeat((first|clear zz|with_reducible first|refine A3 ?_|refine A4 fun _=>?_|refine A5 fun _=>?_);try simp(disch:=first|omega|assumption|((repeat(first|exact A1|exact uH|apply A2|apply uT));first|done|fail)|(simp;first|done|omega|fail))[hlt, Z0]))
  rw [hb1]
  refine B8 A55 (fun w' _ => C3u w' _ _ (B4e hh s i) (M5 s i)) ?_
  (have zz:=trivial;repeat((first|clear zz|with_reducible first|refine A3 ?_|refine A4 fun _=>?_|refine A5 fun _=>?_);try simp(disch:=first|omega|assumption|((repeat(first|exact A1|exact uH|apply A2|apply uT));first|done|fail)|(simp;first|done|omega|fail))[]))
  exact hL hlt () trivial
 ·obtain rfl : i = s.size := by omega
  (have zz:=trivial;repeat((first|clear zz|with_reducible first|refine A3 ?_|refine A4 fun _=>?_|refine A5 fun _=>?_);try simp(disch:=first|omega|assumption|((repeat(first|exact A1|exact uH|apply A2|apply uT));first|done|fail)|(simp;first|done|omega|fail))[]))
  exact A9 rfl
theorem B1G (w : World) (s : ByteArray) (hs : s.size < 2 ^ 60) : Fn PR B7 63 #[.string s] w (fun v w' => v = .int .u64 (S1 s : Nat) ∧ C6 [] w w') := by
 refine Fn.pure (A8Z (TW.go (κ := false) (S := []) ?_))
 unfold A2K
 refine B8 A53 (fun w' _ => C3d w' 14695981039346656037 s (by omega) hs) ?_
 exact A9 rfl
end Go.Proofs.YtlplkjgcfjdinaaGreat
namespace Go.Proofs.YtlplkjgcfjdinaaGreat
open Go
theorem B5P (w : World) (key : ByteArray) (n : Nat) (hk : key.size < 2 ^ 60) (hn : n ≤ 1000000) : Fn PR B7 84 #[.string key, .int .i64 (n : Int)] w (fun v w' => v = .int .i64 (if n = 0 then 0 else G6 key n : Nat) ∧ C6 [] w w') := by
 refine Fn.pure (A7C (TW.go (κ := false) (S := []) ?_))
 unfold A1Z
 by_cases c1 : n = 0
 ·have c1' : (n : Int) < 1 := by omega
  (have zz:=trivial;repeat((first|clear zz|with_reducible first|refine A3 ?_|refine A4 fun _=>?_|refine A5 fun _=>?_);try simp(disch:=first|omega|assumption|((repeat(first|exact A1|exact uH|apply A2|apply uT));first|done|fail)|(simp;first|done|omega|fail))[c1']))
  exact A9 (by simp [c1])
 have c1' : ¬ (n : Int) < 1 := by omega
 have c1'' : ¬ (n : Int) = 0 := by omega
 (have zz:=trivial;repeat((first|clear zz|with_reducible first|refine A3 ?_|refine A4 fun _=>?_|refine A5 fun _=>?_);try simp(disch:=first|omega|assumption|((repeat(first|exact A1|exact uH|apply A2|apply uT));first|done|fail)|(simp;first|done|omega|fail))[c1']))
 refine B8 V5 (fun w' _ => B1G w' key hk) ?_
 have hl := A8W key
 have hm : G6 key n < n := Nat.mod_lt _ (by omega)
 have e1 : ((S1 key : Nat) : Int).tmod n = (G6 key n : Nat) := by unfold G6; rw [Int.tmod_eq_emod_of_nonneg (by omega)]; omega
 have e2 : ((S1 key : Nat) : Int) % n = (G6 key n : Nat) := by unfold G6; omega
 (have zz:=trivial;repeat((first|clear zz|with_reducible first|refine A3 ?_|refine A4 fun _=>?_|refine A5 fun _=>?_);try simp(disch:=first|omega|assumption|((repeat(first|exact A1|exact uH|apply A2|apply uT));first|done|fail)|(simp;first|done|omega|fail))[c1'', e1, N7]))
 exact A9 (by simp [c1])
theorem B6f {l : List EnV} {key : ByteArray} {i : Nat} (hi : i < l.length) : (N1 l key).drop i = ((G6 key l.length + i) % l.length, l.getD ((G6 key l.length + i) % l.length) p5) :: (N1 l key).drop (i + 1) := by
 have h : i < (N1 l key).length := by simpa [N1] using hi
 rw [List.drop_eq_getElem_cons h]
 simp [N1]
theorem B9f {n h i : Nat} (hn : 0 < n) : ((h : Int) + (i : Int)).tmod (n : Int) = ((h + i) % n : Nat) := by
 rw [Int.tmod_eq_emod_of_nonneg (by omega), Int.natCast_emod, Int.natCast_add]
theorem A57 (w : World) (v : Value) (l : List EnV) (key : ByteArray) (hk : key.size < 2 ^ 60) (hn : l.length ≤ 1000000) (hv : D4 w v l.length (l.flatMap D5)) :
  Fn PR B7 60 #[v, .string key] w (fun r w' => r = .int .i64 (D3 l key) ∧ C6 [] w w') := by
 refine Fn.pure (A7J (TW.go (κ := false) (S := []) ?_))
 unfold A1D
 obtain ⟨a, c, rfl, hr⟩ := hv.form
 (have zz:=trivial;repeat((first|clear zz|with_reducible first|refine A3 ?_|refine A4 fun _=>?_|refine A5 fun _=>?_);try simp(disch:=first|omega|assumption|((repeat(first|exact A1|exact uH|apply A2|apply uT));first|done|fail)|(simp;first|done|omega|fail))[]))
 refine B8 A03 (fun w' _ => B5P w' key l.length hk hn) ?_
 by_cases h0 : l.length = 0
 ·have h0' : ¬ (0 : Int) < l.length := by omega
  (have zz:=trivial;repeat((first|clear zz|with_reducible first|refine A3 ?_|refine A4 fun _=>?_|refine A5 fun _=>?_);try simp(disch:=first|omega|assumption|((repeat(first|exact A1|exact uH|apply A2|apply uT));first|done|fail)|(simp;first|done|omega|fail))[h0]))
  refine H4 0 (fun _ _ => .int .i64 0) (fun _ (_ : Unit) => []) (fun _ _ => True) () trivial ?_
  rintro i _ hi _ L hL
  obtain rfl : i = 0 := by omega
  (have zz:=trivial;repeat((first|clear zz|with_reducible first|refine A3 ?_|refine A4 fun _=>?_|refine A5 fun _=>?_);try simp(disch:=first|omega|assumption|((repeat(first|exact A1|exact uH|apply A2|apply uT));first|done|fail)|(simp;first|done|omega|fail))[h0, h0']))
  refine A9 ?_
  have : l = [] := List.length_eq_zero_iff.1 h0
  subst this; rfl
 have hm : G6 key l.length < l.length := Nat.mod_lt _ (by omega)
 rw [if_neg h0]
 (have zz:=trivial;repeat((first|clear zz|with_reducible first|refine A3 ?_|refine A4 fun _=>?_|refine A5 fun _=>?_);try simp(disch:=first|omega|assumption|((repeat(first|exact A1|exact uH|apply A2|apply uT));first|done|fail)|(simp;first|done|omega|fail))[]))
 refine H4 l.length (fun _ _ => .int .i64 0) (fun _ (_ : Unit) => []) (fun i _ => H9 key ((N1 l key).drop i) = D3 l key) () rfl ?_
 rintro i _ hi hφ L hL
 by_cases hlt : i < l.length
 ·obtain ⟨b, o, rfl, hrow⟩ := hr (by omega)
  rw [B6f hlt] at hφ
  have hq : (G6 key l.length + i) % l.length < l.length := Nat.mod_lt _ (by omega)
  have hrem := B9f (n := l.length) (h := G6 key l.length) (i := i) (by omega)
  have hnz : ¬ (l.length : Int) = 0 := by omega
  generalize (G6 key l.length + i) % l.length = q at *
  have hx := getD_some p5 hq
  have h1 := hrow.cellAt (f := D5) (k := 4) (j := 0) (fun _ => rfl) hx rfl
  have h2 := hrow.cellAt (f := D5) (k := 4) (j := 1) (fun _ => rfl) hx rfl
  generalize l.getD q p5 = x at *
  simp only [H9] at hφ
  by_cases c0 : x.st = 0
  ·rw [if_pos c0] at hφ
   (have zz:=trivial;repeat((first|clear zz|with_reducible first|refine A3 ?_|refine A4 fun _=>?_|refine A5 fun _=>?_);try simp(disch:=first|omega|assumption|((repeat(first|exact A1|exact uH|apply A2|apply uT));first|done|fail)|(simp;first|done|omega|fail))[hlt, hrem, hnz, N7, c0]))
   exact A9 (by rw [← hφ])
  rw [if_neg c0] at hφ
  by_cases c1 : x.st = 1
  ·by_cases c2 : x.key = key
   ·rw [if_pos ⟨c1, c2⟩] at hφ
    (have zz:=trivial;repeat((first|clear zz|with_reducible first|refine A3 ?_|refine A4 fun _=>?_|refine A5 fun _=>?_);try simp(disch:=first|omega|assumption|((repeat(first|exact A1|exact uH|apply A2|apply uT));first|done|fail)|(simp;first|done|omega|fail))[hlt, hrem, hnz, N7, c0, c1, c2]))
    exact A9 (by rw [← hφ])
   ·rw [if_neg (fun h => c2 h.2)] at hφ
    (have zz:=trivial;repeat((first|clear zz|with_reducible first|refine A3 ?_|refine A4 fun _=>?_|refine A5 fun _=>?_);try simp(disch:=first|omega|assumption|((repeat(first|exact A1|exact uH|apply A2|apply uT));first|done|fail)|(simp;first|done|omega|fail))[hlt, hrem, hnz, N7, c0, c1, c2]))
    exact hL hlt () hφ
  ·rw [if_neg (fun h => c1 h.1)] at hφ
   (have zz:=trivial;repeat((first|clear zz|with_reducible first|refine A3 ?_|refine A4 fun _=>?_|refine A5 fun _=>?_);try simp(disch:=first|omega|assumption|((repeat(first|exact A1|exact uH|apply A2|apply uT));first|done|fail)|(simp;first|done|omega|fail))[hlt, hrem, hnz, N7, c0, c1]))
   exact hL hlt () hφ
 ·obtain rfl : i = l.length := by omega
  have hwl : (N1 l key).length = l.length := by simp [N1]
  rw [List.drop_of_length_le (by omega)] at hφ
  (have zz:=trivial;repeat((first|clear zz|with_reducible first|refine A3 ?_|refine A4 fun _=>?_|refine A5 fun _=>?_);try simp(disch:=first|omega|assumption|((repeat(first|exact A1|exact uH|apply A2|apply uT));first|done|fail)|(simp;first|done|omega|fail))[]))
  exact A9 (by rw [← hφ]; rfl)
theorem C2T (w : World) (v : Value) (l : List EnV) (key : ByteArray) (hk : key.size < 2 ^ 60) (hn : l.length ≤ 1000000) (hv : D4 w v l.length (l.flatMap D5)) :
  Fn PR B7 88 #[v, .string key] w (fun r w' => r = .int .i64 (S9 l key) ∧ C6 [] w w') := by
 refine Fn.pure (A6u (TW.go (κ := false) (S := []) ?_))
 unfold A1J
 obtain ⟨a, c, rfl, hr⟩ := hv.form
 refine B8 V1 (fun w' hw' => A57 w' _ l key hk hn (hv.ks hw'.ks (by simp))) ?_
 by_cases cf : 0 ≤ D3 l key
 ·(have zz:=trivial;repeat((first|clear zz|with_reducible first|refine A3 ?_|refine A4 fun _=>?_|refine A5 fun _=>?_);try simp(disch:=first|omega|assumption|((repeat(first|exact A1|exact uH|apply A2|apply uT));first|done|fail)|(simp;first|done|omega|fail))[cf]))
  exact A9 (by rw [S9, if_pos cf])
 have hre : S9 l key = P0 (N1 l key) := if_neg cf
 rw [hre]
 (have zz:=trivial;repeat((first|clear zz|with_reducible first|refine A3 ?_|refine A4 fun _=>?_|refine A5 fun _=>?_);try simp(disch:=first|omega|assumption|((repeat(first|exact A1|exact uH|apply A2|apply uT));first|done|fail)|(simp;first|done|omega|fail))[cf]))
 refine B8 A03 (fun w' _ => B5P w' key l.length hk hn) ?_
 by_cases h0 : l.length = 0
 ·have h0' : ¬ (0 : Int) < l.length := by omega
  (have zz:=trivial;repeat((first|clear zz|with_reducible first|refine A3 ?_|refine A4 fun _=>?_|refine A5 fun _=>?_);try simp(disch:=first|omega|assumption|((repeat(first|exact A1|exact uH|apply A2|apply uT));first|done|fail)|(simp;first|done|omega|fail))[h0]))
  refine H4 0 (fun _ _ => .int .i64 0) (fun _ (_ : Unit) => []) (fun _ _ => True) () trivial ?_
  rintro i _ hi _ L hL
  obtain rfl : i = 0 := by omega
  (have zz:=trivial;repeat((first|clear zz|with_reducible first|refine A3 ?_|refine A4 fun _=>?_|refine A5 fun _=>?_);try simp(disch:=first|omega|assumption|((repeat(first|exact A1|exact uH|apply A2|apply uT));first|done|fail)|(simp;first|done|omega|fail))[h0, h0']))
  refine A9 ?_
  have : l = [] := List.length_eq_zero_iff.1 h0
  subst this; rfl
 have hm : G6 key l.length < l.length := Nat.mod_lt _ (by omega)
 rw [if_neg h0]
 (have zz:=trivial;repeat((first|clear zz|with_reducible first|refine A3 ?_|refine A4 fun _=>?_|refine A5 fun _=>?_);try simp(disch:=first|omega|assumption|((repeat(first|exact A1|exact uH|apply A2|apply uT));first|done|fail)|(simp;first|done|omega|fail))[]))
 refine H4 l.length (fun _ _ => .int .i64 0) (fun _ (_ : Unit) => []) (fun i _ => P0 ((N1 l key).drop i) = P0 (N1 l key)) () rfl ?_
 rintro i _ hi hφ L hL
 by_cases hlt : i < l.length
 ·obtain ⟨b, o, rfl, hrow⟩ := hr (by omega)
  rw [B6f hlt] at hφ
  have hq : (G6 key l.length + i) % l.length < l.length := Nat.mod_lt _ (by omega)
  have hrem := B9f (n := l.length) (h := G6 key l.length) (i := i) (by omega)
  have hnz : ¬ (l.length : Int) = 0 := by omega
  generalize (G6 key l.length + i) % l.length = q at *
  have hx := getD_some p5 hq
  have h1 := hrow.cellAt (f := D5) (k := 4) (j := 0) (fun _ => rfl) hx rfl
  generalize l.getD q p5 = x at *
  simp only [P0] at hφ
  by_cases c1 : x.st = 1
  ·rw [if_pos c1] at hφ
   (have zz:=trivial;repeat((first|clear zz|with_reducible first|refine A3 ?_|refine A4 fun _=>?_|refine A5 fun _=>?_);try simp(disch:=first|omega|assumption|((repeat(first|exact A1|exact uH|apply A2|apply uT));first|done|fail)|(simp;first|done|omega|fail))[hlt, hrem, hnz, N7, c1]))
   exact hL hlt () hφ
  ·rw [if_neg c1] at hφ
   (have zz:=trivial;repeat((first|clear zz|with_reducible first|refine A3 ?_|refine A4 fun _=>?_|refine A5 fun _=>?_);try simp(disch:=first|omega|assumption|((repeat(first|exact A1|exact uH|apply A2|apply uT));first|done|fail)|(simp;first|done|omega|fail))[hlt, hrem, hnz, N7, c1]))
   exact A9 (by rw [← hφ])
 ·obtain rfl : i = l.length := by omega
  have hwl : (N1 l key).length = l.length := by simp [N1]
  rw [List.drop_of_length_le (by omega)] at hφ
  (have zz:=trivial;repeat((first|clear zz|with_reducible first|refine A3 ?_|refine A4 fun _=>?_|refine A5 fun _=>?_);try simp(disch:=first|omega|assumption|((repeat(first|exact A1|exact uH|apply A2|apply uT));first|done|fail)|(simp;first|done|omega|fail))[]))
  exact A9 (by rw [← hφ]; rfl)
theorem B3Y (w : World) (v : Value) (l : List EnV) (st : Int) (hn : l.length ≤ 1000000) (hv : D4 w v l.length (l.flatMap D5)) :
  Fn PR B7 50 #[v, .int .i64 st] w (fun r w' => r = .int .i64 (E9 l st : Nat) ∧ C6 [] w w') := by
 refine Fn.pure (A5q (TW.go (κ := false) (S := []) ?_))
 unfold A0z
 obtain ⟨a, c, rfl, hr⟩ := hv.form
 (have zz:=trivial;repeat((first|clear zz|with_reducible first|refine A3 ?_|refine A4 fun _=>?_|refine A5 fun _=>?_);try simp(disch:=first|omega|assumption|((repeat(first|exact A1|exact uH|apply A2|apply uT));first|done|fail)|(simp;first|done|omega|fail))[]))
 refine H4 (α := Unit) l.length (fun i _ => .int .i64 (E9 (l.take i) st : Nat)) (fun _ _ => []) (fun _ _ => True) () trivial ?_
 rintro i _ hi _ L hL
 by_cases hlt : i < l.length
 ·obtain ⟨b, o, rfl, hrow⟩ := hr (by omega)
  have hx : l[i]? = some l[i] := List.getElem?_eq_getElem hlt
  have h1 := hrow.cellAt (f := D5) (k := 4) (j := 0) (fun _ => rfl) hx rfl
  have hc := B1j (p := fun x : EnV => decide (x.st = st)) hx
  have hle : E9 (l.take i) st ≤ i := Nat.le_trans List.countP_le_length (by simp; omega)
  have e : E9 (l.take (i + 1)) st = E9 (l.take i) st + if decide (l[i].st = st) then 1 else 0 := hc
  have hw1 : IntKind.i64.wrap (((E9 (l.take i) st : Nat) : Int) + 1) = ((E9 (l.take i) st : Nat) : Int) + 1 := P8 (by omega) (by omega)
  by_cases c1 : l[i].st = st
  ·(have zz:=trivial;repeat((first|clear zz|with_reducible first|refine A3 ?_|refine A4 fun _=>?_|refine A5 fun _=>?_);try simp(disch:=first|omega|assumption|((repeat(first|exact A1|exact uH|apply A2|apply uT));first|done|fail)|(simp;first|done|omega|fail))[hlt, h1, c1, hw1]))
   have h := hL hlt () trivial
   rw [e, if_pos (by simpa using c1)] at h
   simpa using h
  ·(have zz:=trivial;repeat((first|clear zz|with_reducible first|refine A3 ?_|refine A4 fun _=>?_|refine A5 fun _=>?_);try simp(disch:=first|omega|assumption|((repeat(first|exact A1|exact uH|apply A2|apply uT));first|done|fail)|(simp;first|done|omega|fail))[hlt, h1, c1]))
   have h := hL hlt () trivial
   rw [e, if_neg (by simpa using c1)] at h
   simpa using h
 ·obtain rfl : i = l.length := by omega
  (have zz:=trivial;repeat((first|clear zz|with_reducible first|refine A3 ?_|refine A4 fun _=>?_|refine A5 fun _=>?_);try simp(disch:=first|omega|assumption|((repeat(first|exact A1|exact uH|apply A2|apply uT));first|done|fail)|(simp;first|done|omega|fail))[]))
  exact A9 rfl
end Go.Proofs.YtlplkjgcfjdinaaGreat
namespace Go.Proofs.YtlplkjgcfjdinaaGreat
open Go
theorem C48 {α : Type} {l : List α} {i at' : Nat} {x y : α} (hy : l[i]? = some y) : (l.set at' x).take (i + 1) = (l.set at' x).take i ++ [if i = at' then x else y] := by
 have hi := (List.getElem?_eq_some_iff.1 hy).1
 rw [List.take_add_one]
 by_cases c : i = at'
 ·subst c; rw [List.getElem?_set_self hi]; simp
 ·rw [List.getElem?_set_ne (Ne.symm c), hy]; simp [c]
theorem B5d (w : World) (v : Value) (l : List EnV) (at' : Nat) (x : EnV) (hn : l.length ≤ 1000000) (hv : D4 w v l.length (l.flatMap D5)) :
  Fn PR B7 89 #[v, .int .i64 (at' : Int), .agg #[.int .i64 x.st, .string x.key, .int .i64 x.bk, .int .i64 x.dl]] w (Rn [] w (fun r u => u = r) fun r => [E8 r (l.set at' x)]) := by
 refine A6x (TW.go (κ := false) (S := []) ?_)
 unfold A1a
 obtain ⟨a, c, rfl, hr⟩ := hv.form
 (have zz:=trivial;repeat((first|clear zz|with_reducible first|refine A3 ?_|refine A4 fun _=>?_|refine A5 fun _=>?_);try simp(disch:=first|omega|assumption|((repeat(first|exact A1|exact uH|apply A2|apply uT));first|done|fail)|(simp;first|done|omega|fail))[]))
 rename_i bx
 refine r4 119 4 ?_
 refine H4 l.length (fun i (y : Option Addr × Nat) => .slice y.1 i y.2) (fun i y => [.own 119 4 (.slice y.1 i y.2) i (((l.set at' x).take i).flatMap D5), .pt bx (.cells #[.int .i64 x.st, .string x.key, .int .i64 x.bk, .int .i64 x.dl] 119)]) (fun i y => True) (none, 0) trivial ?_ (by simp)
 rintro i ⟨ya, yc⟩ hi _ L hL
 by_cases hlt : i < l.length
 ·have hx : l[i]? = some l[i] := List.getElem?_eq_getElem hlt
  obtain ⟨b, o, rfl, hrow⟩ := hr (by omega)
  have h1 := hrow.at (f := D5) (k := 4) (fun _ => rfl) hx
  rw [D5] at h1
  have hst := C48 (at' := at') (x := x) hx
  by_cases c1 : i = at'
  ·rw [if_pos c1] at hst
   subst c1
   (have zz:=trivial;repeat((first|clear zz|with_reducible first|refine A3 ?_|refine A4 fun _=>?_|refine A5 fun _=>?_|refine E2 fun _=>?_|refine E5 (hK:=fun _=>?_)|refine E6 (hK:=fun _=>?_)|refine E3 (hK:=fun _=>?_)|refine E1 (hK:=fun _=>?_)|refine E4 (hK:=fun _=>?_));try simp(disch:=first|omega|assumption|((repeat(first|exact A1|exact uH|apply A2|apply uT));first|done|fail)|(simp;first|done|omega|fail))[hlt]))
   refine V6 (e := 119) (k := 4) (q := i) (r := 1) (xs := ((l.set i x).take i).flatMap D5) (news := D5 x) (by (repeat constructor)) (G0.own (by (repeat constructor))) (by decide) rfl (by simp [D5]) (by simp only [maxLen]; omega) (by omega) fun a' c' => ?_
   (have zz:=trivial;repeat((first|clear zz|with_reducible first|refine A3 ?_|refine A4 fun _=>?_|refine A5 fun _=>?_);try simp(disch:=first|omega|assumption|((repeat(first|exact A1|exact uH|apply A2|apply uT));first|done|fail)|(simp;first|done|omega|fail))[]))
   have h2 := hL hlt (a', c') trivial
   rw [hst, List.flatMap_append, show [x].flatMap D5 = D5 x by simp] at h2
   exact Sels.tw (by (repeat' constructor)) h2
  ·rw [if_neg c1] at hst
   have c1' : ¬ (i : Int) = (at' : Int) := by omega
   (have zz:=trivial;repeat((first|clear zz|with_reducible first|refine A3 ?_|refine A4 fun _=>?_|refine A5 fun _=>?_|refine E2 fun _=>?_|refine E5 (hK:=fun _=>?_)|refine E6 (hK:=fun _=>?_)|refine E3 (hK:=fun _=>?_)|refine E1 (hK:=fun _=>?_)|refine E4 (hK:=fun _=>?_));try simp(disch:=first|omega|assumption|((repeat(first|exact A1|exact uH|apply A2|apply uT));first|done|fail)|(simp;first|done|omega|fail))[hlt, c1, c1', h1]))
   refine V6 (e := 119) (k := 4) (q := i) (r := 1) (xs := ((l.set at' x).take i).flatMap D5) (news := D5 l[i]) (by (repeat constructor)) (G0.own (by (repeat constructor))) (by decide) rfl (by simp [D5]) (by simp only [maxLen]; omega) (by omega) fun a' c' => ?_
   (have zz:=trivial;repeat((first|clear zz|with_reducible first|refine A3 ?_|refine A4 fun _=>?_|refine A5 fun _=>?_);try simp(disch:=first|omega|assumption|((repeat(first|exact A1|exact uH|apply A2|apply uT));first|done|fail)|(simp;first|done|omega|fail))[]))
   have h2 := hL hlt (a', c') trivial
   rw [hst, List.flatMap_append, show [l[i]].flatMap D5 = D5 l[i] by simp] at h2
   exact Sels.tw (by (repeat' constructor)) h2
 ·obtain rfl : i = l.length := by omega
  (have zz:=trivial;repeat((first|clear zz|with_reducible first|refine A3 ?_|refine A4 fun _=>?_|refine A5 fun _=>?_);try simp(disch:=first|omega|assumption|((repeat(first|exact A1|exact uH|apply A2|apply uT));first|done|fail)|(simp;first|done|omega|fail))[]))
  refine C0 (.slice ya l.length yc) rfl ?_
  rw [List.take_of_length_le (by simp)]
  simp only [E8, List.length_set]
  (repeat' constructor)
theorem B2J (w : World) (v : Value) (l : List EnV) (key : ByteArray) (bk dl : Int) (hk : key.size < 2 ^ 60) (hn : l.length ≤ 1000000) (hv : D4 w v l.length (l.flatMap D5)) :
  Fn PR B7 65 #[v, .string key, .int .i64 bk, .int .i64 dl] w (Rn [] w (fun r u => u = .tuple #[if (F6 l ⟨1, key, bk, dl⟩).isSome then r else v, .int .i64 (if (F6 l ⟨1, key, bk, dl⟩).isSome then 0 else 12)]) fun r => if (F6 l ⟨1, key, bk, dl⟩).isSome then [E8 r ((F6 l ⟨1, key, bk, dl⟩).getD l)] else []) := by
 refine A7m (TW.go (κ := false) (S := []) ?_)
 unfold A2C
 have hwith : ∀ (q : Nat) (K : Value → WP), F6 l ⟨1, key, bk, dl⟩ = some (l.set q ⟨1, key, bk, dl⟩) → (∀ r, TW false [] w [E8 r (l.set q ⟨1, key, bk, dl⟩)] (K r)) → TW false [] w [] (B2 PR B7 89 [v, .int .i64 (q : Int), .agg #[.int .i64 1, .string key, .int .i64 bk, .int .i64 dl]] K) := fun q K _ hK => by
  refine F3 A0q (fun w' hw' => B5d w' v l q ⟨1, key, bk, dl⟩ hn (hv.ks hw'.ks (by simp))) ?_
  intro _ r hr
  subst hr
  exact hK r
 refine B8 V1 (fun w' hw' => A57 w' _ l key hk hn (hv.ks hw'.ks (by simp))) ?_
 by_cases c1 : D3 l key < 0
 ·(have zz:=trivial;repeat((first|clear zz|with_reducible first|refine A3 ?_|refine A4 fun _=>?_|refine A5 fun _=>?_);try simp(disch:=first|omega|assumption|((repeat(first|exact A1|exact uH|apply A2|apply uT));first|done|fail)|(simp;first|done|omega|fail))[c1]))
  refine B8 A5m (fun w' hw' => C2T w' _ l key hk hn (hv.ks hw'.ks (by simp))) ?_
  by_cases c2 : S9 l key < 0
  ·have e : F6 l ⟨1, key, bk, dl⟩ = none := by unfold F6; simp only; rw [if_pos c1, if_pos c2]
   (have zz:=trivial;repeat((first|clear zz|with_reducible first|refine A3 ?_|refine A4 fun _=>?_|refine A5 fun _=>?_);try simp(disch:=first|omega|assumption|((repeat(first|exact A1|exact uH|apply A2|apply uT));first|done|fail)|(simp;first|done|omega|fail))[c2]))
   rw [e]
   exact C0 v (by simp) (by simpa using Sels.nil)
  ·have e : F6 l ⟨1, key, bk, dl⟩ = some (l.set (S9 l key).toNat ⟨1, key, bk, dl⟩) := by unfold F6; simp only; rw [if_pos c1, if_neg c2]
   (have zz:=trivial;repeat((first|clear zz|with_reducible first|refine A3 ?_|refine A4 fun _=>?_|refine A5 fun _=>?_);try simp(disch:=first|omega|assumption|((repeat(first|exact A1|exact uH|apply A2|apply uT));first|done|fail)|(simp;first|done|omega|fail))[c2]))
   rw [show S9 l key = ((S9 l key).toNat : Int) by omega]
   refine hwith _ _ e fun r => ?_
   (have zz:=trivial;repeat((first|clear zz|with_reducible first|refine A3 ?_|refine A4 fun _=>?_|refine A5 fun _=>?_);try simp(disch:=first|omega|assumption|((repeat(first|exact A1|exact uH|apply A2|apply uT));first|done|fail)|(simp;first|done|omega|fail))[]))
   rw [e]
   exact C0 r (by simp) (by simpa using Sels.cons Sel.here Sels.nil)
 ·have e : F6 l ⟨1, key, bk, dl⟩ = some (l.set (D3 l key).toNat ⟨1, key, bk, dl⟩) := by unfold F6; simp only; rw [if_neg c1, if_neg c1]
  (have zz:=trivial;repeat((first|clear zz|with_reducible first|refine A3 ?_|refine A4 fun _=>?_|refine A5 fun _=>?_);try simp(disch:=first|omega|assumption|((repeat(first|exact A1|exact uH|apply A2|apply uT));first|done|fail)|(simp;first|done|omega|fail))[c1]))
  rw [show D3 l key = ((D3 l key).toNat : Int) by omega]
  refine hwith _ _ e fun r => ?_
  (have zz:=trivial;repeat((first|clear zz|with_reducible first|refine A3 ?_|refine A4 fun _=>?_|refine A5 fun _=>?_);try simp(disch:=first|omega|assumption|((repeat(first|exact A1|exact uH|apply A2|apply uT));first|done|fail)|(simp;first|done|omega|fail))[]))
  rw [e]
  exact C0 r (by simp) (by simpa using Sels.cons Sel.here Sels.nil)
theorem B5j (w : World) (v : Value) (l : List EnV) (at' : Nat) (hn : l.length ≤ 1000000) (hv : D4 w v l.length (l.flatMap D5)) :
  Fn PR B7 67 #[v, .int .i64 (at' : Int)] w (Rn [] w (fun r u => u = r) fun r => [E8 r (l.set at' P3)]) := by
 refine A7f (TW.go (κ := false) (S := []) ?_)
 unfold A1f
 (have zz:=trivial;repeat((first|clear zz|with_reducible first|refine A3 ?_|refine A4 fun _=>?_|refine A5 fun _=>?_);try simp(disch:=first|omega|assumption|((repeat(first|exact A1|exact uH|apply A2|apply uT));first|done|fail)|(simp;first|done|omega|fail))[]))
 refine F3 A0q (fun w' hw' => B5d w' v l at' P3 hn (hv.ks hw'.ks (by simp))) ?_
 intro _ r hr
 subst hr
 exact C0 r rfl (by (repeat' constructor))
theorem B7T (w : World) (n : Nat) (hn : n ≤ 1000000) : Fn PR B7 38 #[.int .i64 (n : Int)] w (Rn [] w (fun r u => u = r) fun r => [E8 r (newE n)]) := by
 refine A7n (TW.go (κ := false) (S := []) ?_)
 unfold A2H
 have e : max 0 (min (n : Int) 64) = ((min n 64 : Nat) : Int) := by omega
 (have zz:=trivial;repeat((first|clear zz|with_reducible first|refine A3 ?_|refine A4 fun _=>?_|refine A5 fun _=>?_);try simp(disch:=first|omega|assumption|((repeat(first|exact A1|exact uH|apply A2|apply uT));first|done|fail)|(simp;first|done|omega|fail))[]))
 rw [e]
 refine B4F (by omega) (by omega) (by omega) (by omega) fun b => ?_
 rw [Int.toNat_natCast, C5Q]
 refine C0 _ rfl ?_
 simp only [E8, newE, List.length_replicate]
 (repeat' constructor)
def r9 (l : List EnV) (i : Nat) : List EnV := (N9 (l.take i)).foldl (fun acc p => U8 acc p.2) (newE l.length)
theorem C0W {l : List EnV} {i : Nat} {x : EnV} (hx : l[i]? = some x) : r9 l (i + 1) = if x.st = 1 then U8 (r9 l i) x else r9 l i := by
 unfold r9
 rw [B2k hx, List.foldl_append]
 split <;> rfl
theorem C1Y (l : List EnV) (i : Nat) : (r9 l i).length = min l.length 64 := by unfold r9; rw [B16, A5A]
theorem C29 (w : World) (v : Value) (l : List EnV) (hks : H7 l) (hn : l.length ≤ 1000000) (hv : D4 w v l.length (l.flatMap D5)) :
  Fn PR B7 90 #[v] w (Rn [] w (fun r u => u = r) fun r => [E8 r (Y1 l)]) := by
 refine A7L (TW.go (κ := false) (S := []) ?_)
 unfold A1G
 obtain ⟨a, c, rfl, hr⟩ := hv.form
 (have zz:=trivial;repeat((first|clear zz|with_reducible first|refine A3 ?_|refine A4 fun _=>?_|refine A5 fun _=>?_);try simp(disch:=first|omega|assumption|((repeat(first|exact A1|exact uH|apply A2|apply uT));first|done|fail)|(simp;first|done|omega|fail))[]))
 refine F3 A1U (fun w' _ => B7T w' l.length hn) ?_
 intro _ r0 hr0
 subst hr0
 (have zz:=trivial;repeat((first|clear zz|with_reducible first|refine A3 ?_|refine A4 fun _=>?_|refine A5 fun _=>?_);try simp(disch:=first|omega|assumption|((repeat(first|exact A1|exact uH|apply A2|apply uT));first|done|fail)|(simp;first|done|omega|fail))[]))
 refine H4 l.length (fun i (r : Value) => r) (fun i r => [E8 r (r9 l i)]) (fun i r => True) r0 trivial ?_ (by simp [r9, N9, f7])
 rintro i r hi _ L hL
 by_cases hlt : i < l.length
 ·have hx : l[i]? = some l[i] := List.getElem?_eq_getElem hlt
  obtain ⟨b, o, rfl, hrow⟩ := hr (by omega)
  have h0 := hrow.cellAt (f := D5) (k := 4) (j := 0) (fun _ => rfl) hx rfl
  have h1 := hrow.cellAt (f := D5) (k := 4) (j := 1) (fun _ => rfl) hx rfl
  have h2 := hrow.cellAt (f := D5) (k := 4) (j := 2) (fun _ => rfl) hx rfl
  have h3 := hrow.cellAt (f := D5) (k := 4) (j := 3) (fun _ => rfl) hx rfl
  have hst := C0W hx
  have hkx : l[i].key.size < 2 ^ 60 := hks _ (List.getElem_mem hlt)
  have hlen := C1Y l i
  by_cases c1 : l[i].st = 1
  ·rw [if_pos c1] at hst
   (have zz:=trivial;repeat((first|clear zz|with_reducible first|refine A3 ?_|refine A4 fun _=>?_|refine A5 fun _=>?_);try simp(disch:=first|omega|assumption|((repeat(first|exact A1|exact uH|apply A2|apply uT));first|done|fail)|(simp;first|done|omega|fail))[hlt, h0, h1, h2, h3, c1]))
   refine F3 l5 (fun w' hw' => B2J w' r (r9 l i) l[i].key l[i].bk l[i].dl hkx (by omega) (G0.own (by (repeat constructor)) w' hw')) ?_
   have hxe : (⟨1, l[i].key, l[i].bk, l[i].dl⟩ : EnV) = l[i] := by cases hl : l[i]; rw [hl] at c1; simp only at c1; subst c1; rfl
   rintro r2 _ rfl
   rw [hxe]
   cases hp : F6 (r9 l i) l[i] with
   | none =>
    have e2 : U8 (r9 l i) l[i] = r9 l i := by unfold U8; rw [hp]; rfl
    (have zz:=trivial;repeat((first|clear zz|with_reducible first|refine A3 ?_|refine A4 fun _=>?_|refine A5 fun _=>?_);try simp(disch:=first|omega|assumption|((repeat(first|exact A1|exact uH|apply A2|apply uT));first|done|fail)|(simp;first|done|omega|fail))[]))
    have h := hL hlt r trivial
    rw [hst, e2] at h
    exact Sels.tw (by (repeat' constructor)) h
   | some u =>
    have e2 : U8 (r9 l i) l[i] = u := by unfold U8; rw [hp]; rfl
    (have zz:=trivial;repeat((first|clear zz|with_reducible first|refine A3 ?_|refine A4 fun _=>?_|refine A5 fun _=>?_);try simp(disch:=first|omega|assumption|((repeat(first|exact A1|exact uH|apply A2|apply uT));first|done|fail)|(simp;first|done|omega|fail))[]))
    have h := hL hlt r2 trivial
    rw [hst, e2] at h
    exact Sels.tw (by (repeat' constructor)) h
  ·rw [if_neg c1] at hst
   (have zz:=trivial;repeat((first|clear zz|with_reducible first|refine A3 ?_|refine A4 fun _=>?_|refine A5 fun _=>?_);try simp(disch:=first|omega|assumption|((repeat(first|exact A1|exact uH|apply A2|apply uT));first|done|fail)|(simp;first|done|omega|fail))[hlt, h0, c1]))
   have h := hL hlt r trivial
   rw [hst] at h
   exact Sels.tw (by (repeat' constructor)) h
 ·obtain rfl : i = l.length := by omega
  have e : r9 l l.length = Y1 l := by unfold r9 Y1; rw [List.take_length]
  (have zz:=trivial;repeat((first|clear zz|with_reducible first|refine A3 ?_|refine A4 fun _=>?_|refine A5 fun _=>?_);try simp(disch:=first|omega|assumption|((repeat(first|exact A1|exact uH|apply A2|apply uT));first|done|fail)|(simp;first|done|omega|fail))[]))
  rw [e]
  exact C0 r rfl (by (repeat' constructor))
theorem B8Z (w : World) (v : Value) (l : List EnV) (hks : H7 l) (hn : l.length ≤ 1000000) (hv : D4 w v l.length (l.flatMap D5)) :
  Fn PR B7 68 #[v] w (Rn [] w (fun r u => u = if l.length < 2 * E9 l 2 then r else v) fun r => if l.length < 2 * E9 l 2 then [E8 r (H0 l)] else []) := by
 refine A5K (TW.go (κ := false) (S := []) ?_)
 unfold A0A
 obtain ⟨a, c, rfl, hr⟩ := hv.form
 refine B8 A0D (fun w' hw' => B3Y w' _ l 2 hn (hv.ks hw'.ks (by simp))) ?_
 have hle : E9 l 2 ≤ l.length := List.countP_le_length
 have hw2 : IntKind.i64.wrap (2 * ((E9 l 2 : Nat) : Int)) = 2 * ((E9 l 2 : Nat) : Int) := P8 (by omega) (by omega)
 by_cases c1 : l.length < 2 * E9 l 2
 ·have c1' : (l.length : Int) < 2 * ((E9 l 2 : Nat) : Int) := by omega
  have e : H0 l = Y1 l := by unfold H0; rw [if_pos c1]
  (have zz:=trivial;repeat((first|clear zz|with_reducible first|refine A3 ?_|refine A4 fun _=>?_|refine A5 fun _=>?_);try simp(disch:=first|omega|assumption|((repeat(first|exact A1|exact uH|apply A2|apply uT));first|done|fail)|(simp;first|done|omega|fail))[hw2, c1']))
  refine F3 A5s (fun w' hw' => C29 w' _ l hks hn (hv.ks hw'.ks (by simp))) ?_
  intro _ r hr
  subst hr
  refine C0 r (by simp [c1]) ?_
  rw [if_pos c1, e]
  (repeat' constructor)
 ·have c1' : ¬ (l.length : Int) < 2 * ((E9 l 2 : Nat) : Int) := by omega
  (have zz:=trivial;repeat((first|clear zz|with_reducible first|refine A3 ?_|refine A4 fun _=>?_|refine A5 fun _=>?_);try simp(disch:=first|omega|assumption|((repeat(first|exact A1|exact uH|apply A2|apply uT));first|done|fail)|(simp;first|done|omega|fail))[hw2, c1']))
  refine C0 .nilIface (by simp [c1]) ?_
  rw [if_neg c1]
  exact Sels.nil
theorem B22 {w : World} {H : List Res} {K : Value → WP} {r : Value} {l : List EnV} (hks : H7 l) (hn : l.length ≤ 1000000) (hK : ∀ r, TW false [] w (E8 r (H0 l) :: H) (K r)) :
  TW false [] w (E8 r l :: H) (B2 PR B7 68 [r] K) := by
 refine F3 A4Q (fun w' hw' => B8Z w' r l hks hn (G0.own A1 w' hw')) ?_
 rintro r2 _ rfl
 by_cases c1 : l.length < 2 * E9 l 2
 ·rw [if_pos c1, if_pos c1]
  exact TW.sub (hK r2) (List.Sublist.cons_cons _ (List.sublist_cons_self ..))
 ·rw [if_neg c1, if_neg c1]
  have e : H0 l = l := by unfold H0; rw [if_neg c1]
  have := hK r
  rw [e] at this
  exact this
theorem B88 (w : World) (v : Value) (l : List EnV) (key : ByteArray) (hk : key.size < 2 ^ 60) (hks : H7 l) (hn : l.length ≤ 1000000) (hv : D4 w v l.length (l.flatMap D5)) :
  Fn PR B7 64 #[v, .string key] w (Rn [] w (fun r u => u = .tuple #[if (U7 l key).isSome then r else v, .bool (U7 l key).isSome]) fun r => if (U7 l key).isSome then [E8 r (A1v l key)] else []) := by
 refine A44 (TW.go (κ := false) (S := []) ?_)
 unfold A0B
 refine B8 V1 (fun w' hw' => A57 w' _ l key hk hn (hv.ks hw'.ks (by simp))) ?_
 by_cases c1 : D3 l key < 0
 ·have e : U7 l key = none := by unfold U7; rw [if_pos c1]
  (have zz:=trivial;repeat((first|clear zz|with_reducible first|refine A3 ?_|refine A4 fun _=>?_|refine A5 fun _=>?_);try simp(disch:=first|omega|assumption|((repeat(first|exact A1|exact uH|apply A2|apply uT));first|done|fail)|(simp;first|done|omega|fail))[c1]))
  exact C0 .nilIface (by simp [e]) (by rw [e]; exact Sels.nil)
 ·have e : U7 l key = some (l.set (D3 l key).toNat P3) := by unfold U7; rw [if_neg c1]
  have e2 : A1v l key = H0 (l.set (D3 l key).toNat P3) := by unfold A1v; rw [e]
  (have zz:=trivial;repeat((first|clear zz|with_reducible first|refine A3 ?_|refine A4 fun _=>?_|refine A5 fun _=>?_);try simp(disch:=first|omega|assumption|((repeat(first|exact A1|exact uH|apply A2|apply uT));first|done|fail)|(simp;first|done|omega|fail))[c1]))
  have hq : D3 l key = ((D3 l key).toNat : Int) := by omega
  rw [hq]
  refine F3 A01 (fun w' hw' => B5j w' v l (D3 l key).toNat hn (hv.ks hw'.ks (by simp))) ?_
  intro _ r hr
  subst hr
  refine B22 (A8z hks B70) (by simpa using hn) fun r2 => ?_
  refine C0 r2 (by simp [e]) ?_
  simp only [e, Option.isSome_some, if_true, e2]
  (repeat' constructor)
end Go.Proofs.YtlplkjgcfjdinaaGreat
namespace Go.Proofs.YtlplkjgcfjdinaaGreat
open Go
def A2l (X : Nat → Prop) (t0 : Value) (R : Value → WP) : WP :=
 jn (n := 2) (fun t3 t4 =>
 B2 PR X 111 [t3] fun t41 =>
 R t41) fun J1 =>
 lp (n := 2) (fun L2 t3_1 t4_1 =>
 jn (n := 0) (
 jn (n := 2) (fun t3_2 t5 =>
 A0 PR (binOp .add 3 t4_1 (.int .i64 1)) fun t11 =>
 L2 t3_2 t11) fun J3 =>
 lp (n := 2) (fun L4 t3_3 t5_1 =>
 jn (n := 0) (
 jn (n := 1) (fun t3_4 =>
 A0 PR (binOp .add 3 t5_1 (.int .i64 1)) fun t23 =>
 L4 t3_4 t23) fun J5 =>
 drw <|
 A0 PR (Instr.indexAt 50 t0 t4_1) fun t27 =>
 A0 PR (Instr.fieldAt 129 t27 0) fun t28 =>
 A6 PR (Instr.loadAt 3 t28) fun t29 =>
 A0 PR (Instr.indexAt 50 t0 t4_1) fun t34 =>
 A0 PR (Instr.fieldAt 129 t34 0) fun t35 =>
 A6 PR (Instr.loadAt 3 t35) fun t36 =>
 B2 PR X 110 [t29, t5_1] fun t31 =>
 watch PR [(none, (Instr.loadAt 3 t35), t36)] <|
 A0 PR (Instr.build 179 #[(0, t31), (1, t36)]) fun t37 =>
 B1 PR X (Instr.buildSlice 147 1 #[(0, t37)]) fun t38 =>
 B1 PR X (A7 .append #[147, 147] 147 [t3_3, t38]) fun t39 =>
 J5 t39) fun J6 =>
 A0 PR (Instr.indexAt 50 t0 t4_1) fun t15 =>
 A0 PR (Instr.fieldAt 129 t15 1) fun t16 =>
 A6 PR (Instr.loadAt 3 t16) fun t17 =>
 A0 PR (A7 .min #[3, 3] 0 [t17, (.int .i64 16)]) fun t18 =>
 A0 PR (A7 .max #[3, 3] 0 [(.int .i64 0), t18]) fun t19 =>
 A0 PR (binOp .mul 3 (.int .i64 8) t19) fun t20 =>
 A0 PR (binOp .lss 3 t5_1 t20) fun t21 =>
 B3 t21 (
 J6) (
 J3 t3_3 t5_1)) t3_1 (.int .i64 0)) fun J7 =>
 A0 PR (A7 .len #[50] 0 [t0]) fun t8 =>
 A0 PR (binOp .lss 3 t4_1 t8) fun t9 =>
 B3 t9 (
 J7) (
 J1 t3_1 t4_1)) (.slice none 0 0) (.int .i64 0)
theorem A7q : B0 PR 86 := A8 Tryz.func86 (by kernel_rfl) rfl
theorem A9J {X : Nat → Prop} {t0 : Value} {R : Value → WP} {w : World} (h : A2l X t0 R w) : Fn PR X 86 #[t0] w R := C7 (args := [t0]) mixed Tryz.func86 (by kernel_rfl) h
def A1V (X : Nat → Prop) (t0 t1 : Value) (R : Value → WP) : WP :=
 A0 PR (convert 3 122 t0) fun t6 =>
 B2 PR X 82 [t6, (.int .i64 4)] fun t7 =>
 A0 PR (convert 3 122 t1) fun t9 =>
 B2 PR X 82 [t9, (.int .i64 2)] fun t10 =>
 A0 PR (binOp .add 9 t7 t10) fun t11 =>
 A0 PR (binOp .add 9 t11 (.string (ByteArray.mk #[0, 0, 0, 0]))) fun t12 =>
 B2 PR X 63 [t12] fun t13 =>
 R t13
theorem A5c : B0 PR 110 := A8 Tryz.func110 (by kernel_rfl) rfl
theorem A7A {X : Nat → Prop} {t0 t1 : Value} {R : Value → WP} {w : World} (h : A1V X t0 t1 R w) : Fn PR X 110 #[t0, t1] w R := C7 (args := [t0, t1]) mixed Tryz.func110 (by kernel_rfl) h
def l4 (X : Nat → Prop) (t0 : Value) (R : Value → WP) : WP :=
 jn (n := 1) (fun t2 =>
 A0 PR (A7 .len #[147] 0 [t0]) fun t9 =>
 A0 PR (binOp .quo 3 t9 (.int .i64 2)) fun t10 =>
 drw <|
 A0 PR (Instr.sliceAt 147 t0 none (some t10) none) fun t13 =>
 A0 PR (Instr.sliceAt 147 t0 (some t10) none none) fun t17 =>
 B2 PR X 111 [t13] fun t14 =>
 B2 PR X 111 [t17] fun t18 =>
 B2 PR X 140 [t14, t18] fun t19 =>
 R t19) fun J1 =>
 A0 PR (A7 .len #[147] 0 [t0]) fun t5 =>
 A0 PR (binOp .lss 3 t5 (.int .i64 2)) fun t6 =>
 B3 t6 (
 R t0) (
 J1 (.slice none 0 0))
theorem A0c : B0 PR 111 := A8 Tryz.func111 (by kernel_rfl) rfl
theorem A1M {X : Nat → Prop} {t0 : Value} {R : Value → WP} {w : World} (h : l4 X t0 R w) : Fn PR X 111 #[t0] w R := C7 (args := [t0]) mixed Tryz.func111 (by kernel_rfl) h
def A0v (X : Nat → Prop) (t0 t1 : Value) (R : Value → WP) : WP :=
 jn (n := 3) (fun t6 t5 t7 =>
 R t5) fun J1 =>
 lp (n := 3) (fun L2 t6_1 t5_1 t7_1 =>
 jn (n := 0) (
 drw <|
 A0 PR (A7 .len #[147] 0 [t1]) fun t20 =>
 A0 PR (binOp .geq 3 t7_1 t20) fun t21 =>
 gj t21 false (fun J => J t6_1) fun t23 =>
 gj t21 false (fun J => J t0) fun t24 =>
 gj t21 false (fun J => A0 PR (A7 .len #[147] 0 [t24]) J) fun t25 =>
 gj t21 false (fun J => A0 PR (binOp .lss 3 t23 t25) J) fun t26 =>
 gj t21 false (fun J => J t26) fun t27 =>
 gj t27 true (fun J => J t1) fun t28 =>
 gj t27 true (fun J => J t7_1) fun t29 =>
 gj t27 true (fun J => A0 PR (Instr.indexAt 147 t28 t29) J) fun t30 =>
 gj t27 true (fun J => A6 PR (Instr.loadAt 179 t30) J) fun t31 =>
 gj t27 true (fun J => J t0) fun t32 =>
 gj t27 true (fun J => J t6_1) fun t33 =>
 gj t27 true (fun J => A0 PR (Instr.indexAt 147 t32 t33) J) fun t34 =>
 gj t27 true (fun J => A6 PR (Instr.loadAt 179 t34) J) fun t35 =>
 gj t27 true (fun J => B2 PR X 164 [t31, t35] J) fun t36 =>
 gj t27 true (fun J => A0 PR (Op.unary .not t36) J) fun t37 =>
 gj t21 false (fun J => A0 PR (do pure (if ← asBool t27 then t37 else (.bool false))) J) fun t38 =>
 A0 PR (do pure (if ← asBool t21 then (.bool true) else t38)) fun t39 =>
 B3 t39 (
 A0 PR (Instr.indexAt 147 t0 t6_1) fun t43 =>
 A6 PR (Instr.loadAt 179 t43) fun t44 =>
 B1 PR X (Instr.buildSlice 147 1 #[(0, t44)]) fun t45 =>
 B1 PR X (A7 .append #[147, 147] 147 [t5_1, t45]) fun t46 =>
 A0 PR (binOp .add 3 t6_1 (.int .i64 1)) fun t48 =>
 L2 t48 t46 t7_1) (
 A0 PR (Instr.indexAt 147 t1 t7_1) fun t52 =>
 A6 PR (Instr.loadAt 179 t52) fun t53 =>
 B1 PR X (Instr.buildSlice 147 1 #[(0, t53)]) fun t54 =>
 B1 PR X (A7 .append #[147, 147] 147 [t5_1, t54]) fun t55 =>
 A0 PR (binOp .add 3 t7_1 (.int .i64 1)) fun t57 =>
 L2 t6_1 t55 t57)) fun J3 =>
 A0 PR (A7 .len #[147] 0 [t0]) fun t10 =>
 A0 PR (binOp .lss 3 t6_1 t10) fun t11 =>
 gj t11 false (fun J => J t7_1) fun t13 =>
 gj t11 false (fun J => J t1) fun t14 =>
 gj t11 false (fun J => A0 PR (A7 .len #[147] 0 [t14]) J) fun t15 =>
 gj t11 false (fun J => A0 PR (binOp .lss 3 t13 t15) J) fun t16 =>
 A0 PR (do pure (if ← asBool t11 then (.bool true) else t16)) fun t17 =>
 B3 t17 (
 J3) (
 J1 t6_1 t5_1 t7_1)) (.int .i64 0) (.slice none 0 0) (.int .i64 0)
theorem A4p : B0 PR 140 := A8 Tryz.func140 (by kernel_rfl) rfl
theorem A5a {X : Nat → Prop} {t0 t1 : Value} {R : Value → WP} {w : World} (h : A0v X t0 t1 R w) : Fn PR X 140 #[t0, t1] w R := C7 (args := [t0, t1]) mixed Tryz.func140 (by kernel_rfl) h
def A1Q (X : Nat → Prop) (t0 t1 : Value) (R : Value → WP) : WP :=
 B1 PR X (Instr.box 179 t0) fun t2 =>
 B1 PR X (Instr.box 179 t1) fun t3 =>
 A0 PR (Instr.fieldAt 179 t2 0) fun t5 =>
 A6 PR (Instr.loadAt 122 t5) fun t6 =>
 A0 PR (Instr.fieldAt 179 t3 0) fun t7 =>
 A6 PR (Instr.loadAt 122 t7) fun t8 =>
 A0 PR (binOp .lss 122 t6 t8) fun t9 =>
 gj t9 false (fun J => A0 PR (Instr.fieldAt 179 t2 0) J) fun t11 =>
 gj t9 false (fun J => A6 PR (Instr.loadAt 122 t11) J) fun t12 =>
 gj t9 false (fun J => A0 PR (Instr.fieldAt 179 t3 0) J) fun t13 =>
 gj t9 false (fun J => A6 PR (Instr.loadAt 122 t13) J) fun t14 =>
 gj t9 false (fun J => A0 PR (binOp .eql 122 t12 t14) J) fun t15 =>
 gj t9 false (fun J => J t15) fun t16 =>
 gj t16 true (fun J => A0 PR (Instr.fieldAt 179 t2 1) J) fun t17 =>
 gj t16 true (fun J => A6 PR (Instr.loadAt 3 t17) J) fun t18 =>
 gj t16 true (fun J => A0 PR (Instr.fieldAt 179 t3 1) J) fun t19 =>
 gj t16 true (fun J => A6 PR (Instr.loadAt 3 t19) J) fun t20 =>
 gj t16 true (fun J => A0 PR (binOp .lss 3 t18 t20) J) fun t21 =>
 gj t9 false (fun J => A0 PR (do pure (if ← asBool t16 then t21 else (.bool false))) J) fun t22 =>
 A0 PR (do pure (if ← asBool t9 then (.bool true) else t22)) fun t23 =>
 R t23
theorem A5W : B0 PR 164 := A8 Tryz.func164 (by kernel_rfl) rfl
theorem A7D {X : Nat → Prop} {t0 t1 : Value} {R : Value → WP} {w : World} (h : A1Q X t0 t1 R w) : Fn PR X 164 #[t0, t1] w R := C7 (args := [t0, t1]) mixed Tryz.func164 (by kernel_rfl) h
end Go.Proofs.YtlplkjgcfjdinaaGreat
namespace Go.Proofs.YtlplkjgcfjdinaaGreat
open Go
def A1e (X : Nat → Prop) (t0 t1 : Value) (R : Value → WP) : WP :=
 B2 PR X 86 [t0] fun t6 =>
 B2 PR X 85 [t6, t1] fun t8 =>
 R t8
theorem A5z : B0 PR 62 := A8 Tryz.func62 (by kernel_rfl) rfl
theorem A7Q {X : Nat → Prop} {t0 t1 : Value} {R : Value → WP} {w : World} (h : A1e X t0 t1 R w) : Fn PR X 62 #[t0, t1] w R := C7 (args := [t0, t1]) mixed Tryz.func62 (by kernel_rfl) h
def A1C (X : Nat → Prop) (t0 t1 : Value) (R : Value → WP) : WP :=
 jn (n := 2) (fun t4 t5 =>
 jn (n := 1) (fun t4_1 =>
 A0 PR (Instr.indexAt 147 t0 (.int .i64 0)) fun t28 =>
 A0 PR (Instr.fieldAt 179 t28 1) fun t29 =>
 A6 PR (Instr.loadAt 3 t29) fun t30 =>
 R t30) fun J1 =>
 A0 PR (A7 .len #[147] 0 [t0]) fun t25 =>
 A0 PR (binOp .eql 3 t25 (.int .i64 0)) fun t26 =>
 B3 t26 (
 R (.int .i64 (-1))) (
 J1 t4)) fun J2 =>
 lp (n := 2) (fun L3 t4_2 t5_1 =>
 jn (n := 0) (
 jn (n := 1) (fun t4_3 =>
 A0 PR (binOp .add 3 t5_1 (.int .i64 1)) fun t11 =>
 L3 t4_3 t11) fun J4 =>
 A0 PR (Instr.indexAt 147 t0 t5_1) fun t14 =>
 A0 PR (Instr.fieldAt 179 t14 0) fun t15 =>
 A6 PR (Instr.loadAt 122 t15) fun t16 =>
 A0 PR (binOp .geq 122 t16 t1) fun t18 =>
 B3 t18 (
 A0 PR (Instr.indexAt 147 t0 t5_1) fun t21 =>
 A0 PR (Instr.fieldAt 179 t21 1) fun t22 =>
 A6 PR (Instr.loadAt 3 t22) fun t23 =>
 R t23) (
 J4 t4_2)) fun J5 =>
 A0 PR (A7 .len #[147] 0 [t0]) fun t8 =>
 A0 PR (binOp .lss 3 t5_1 t8) fun t9 =>
 B3 t9 (
 J5) (
 J2 t4_2 t5_1)) (.int .i64 0) (.int .i64 0)
theorem A5u : B0 PR 85 := A8 Tryz.func85 (by kernel_rfl) rfl
theorem A7c {X : Nat → Prop} {t0 t1 : Value} {R : Value → WP} {w : World} (h : A1C X t0 t1 R w) : Fn PR X 85 #[t0, t1] w R := C7 (args := [t0, t1]) mixed Tryz.func85 (by kernel_rfl) h
end Go.Proofs.YtlplkjgcfjdinaaGreat
namespace Go.Proofs.YtlplkjgcfjdinaaGreat
open Go
def A2N (X : Nat → Prop) (t0 t1 : Value) (R : Value → WP) : WP :=
 jn (n := 1) (fun t4 =>
 jn (n := 3) (fun t5 t0_1 t6 =>
 R t5) fun J1 =>
 lp (n := 3) (fun L2 t5_1 t0_2 t6_1 =>
 jn (n := 0) (
 jn (n := 2) (fun t5_2 t0_3 =>
 A0 PR (binOp .add 3 t6_1 (.int .i64 1)) fun t17 =>
 L2 t5_2 t0_3 t17) fun J3 =>
 A0 PR (binOp .rem 122 t0_2 (.int .u64 256)) fun t19 =>
 A0 PR (convert 122 5 t19) fun t20 =>
 B1 PR X (Instr.buildSlice 160 1 #[(0, t20)]) fun t21 =>
 A6 PR (convert 160 9 t21) fun t22 =>
 A0 PR (binOp .add 9 t22 t5_1) fun t24 =>
 A0 PR (binOp .quo 122 t0_2 (.int .u64 256)) fun t26 =>
 J3 t24 t26) fun J4 =>
 A0 PR (binOp .lss 3 t6_1 t1) fun t15 =>
 B3 t15 (
 J4) (
 J1 t5_1 t0_2 t6_1)) (.string (ByteArray.mk #[])) t0 (.int .i64 0)) fun J5 =>
 A0 PR (binOp .lss 3 t1 (.int .i64 1)) fun t8 =>
 gj t8 false (fun J => J t1) fun t10 =>
 gj t8 false (fun J => A0 PR (binOp .gtr 3 t10 (.int .i64 8)) J) fun t11 =>
 A0 PR (do pure (if ← asBool t8 then (.bool true) else t11)) fun t12 =>
 B3 t12 (
 R (.string (ByteArray.mk #[]))) (
 J5 (.string (ByteArray.mk #[])))
theorem N4 : B0 PR 82 := A8 Tryz.func82 (by kernel_rfl) rfl
theorem A7y {X : Nat → Prop} {t0 t1 : Value} {R : Value → WP} {w : World} (h : A2N X t0 t1 R w) : Fn PR X 82 #[t0, t1] w R := C7 (args := [t0, t1]) mixed Tryz.func82 (by kernel_rfl) h
def A2J (X : Nat → Prop) (t0 t1 t2 : Value) (R : Value → WP) : WP :=
 jn (n := 2) (fun t6 t7 =>
 jn (n := 2) (fun t8 t9 =>
 R (.tuple #[t8, (.bool true)])) fun J1 =>
 lp (n := 2) (fun L2 t8_1 t9_1 =>
 jn (n := 0) (
 jn (n := 1) (fun t8_2 =>
 A0 PR (binOp .add 3 t9_1 (.int .i64 1)) fun t38 =>
 L2 t8_2 t38) fun J3 =>
 A0 PR (binOp .mul 122 t8_1 (.int .u64 256)) fun t40 =>
 A0 PR (binOp .add 3 t1 t9_1) fun t44 =>
 A0 PR (Instr.index 9 t0 t44) fun t45 =>
 A0 PR (convert 5 122 t45) fun t46 =>
 A0 PR (binOp .add 122 t40 t46) fun t47 =>
 J3 t47) fun J4 =>
 A0 PR (binOp .lss 3 t9_1 t2) fun t36 =>
 B3 t36 (
 J4) (
 J1 t8_1 t9_1)) (.int .u64 0) (.int .i64 0)) fun J5 =>
 A0 PR (binOp .lss 3 t2 (.int .i64 1)) fun t11 =>
 gj t11 false (fun J => J t2) fun t13 =>
 gj t11 false (fun J => A0 PR (binOp .gtr 3 t13 (.int .i64 8)) J) fun t14 =>
 A0 PR (do pure (if ← asBool t11 then (.bool true) else t14)) fun t15 =>
 gj t15 false (fun J => J t1) fun t17 =>
 gj t15 false (fun J => A0 PR (binOp .lss 3 t17 (.int .i64 0)) J) fun t18 =>
 A0 PR (do pure (if ← asBool t15 then (.bool true) else t18)) fun t19 =>
 gj t19 false (fun J => J t1) fun t21 =>
 gj t19 false (fun J => J t0) fun t22 =>
 gj t19 false (fun J => A0 PR (A7 .len #[9] 0 [t22]) J) fun t23 =>
 gj t19 false (fun J => A0 PR (binOp .gtr 3 t21 t23) J) fun t24 =>
 A0 PR (do pure (if ← asBool t19 then (.bool true) else t24)) fun t25 =>
 gj t25 false (fun J => J t0) fun t27 =>
 gj t25 false (fun J => A0 PR (A7 .len #[9] 0 [t27]) J) fun t28 =>
 gj t25 false (fun J => J t1) fun t29 =>
 gj t25 false (fun J => A0 PR (binOp .sub 3 t28 t29) J) fun t30 =>
 gj t25 false (fun J => J t2) fun t31 =>
 gj t25 false (fun J => A0 PR (binOp .lss 3 t30 t31) J) fun t32 =>
 A0 PR (do pure (if ← asBool t25 then (.bool true) else t32)) fun t33 =>
 B3 t33 (
 R (.tuple #[(.int .u64 0), (.bool false)])) (
 J5 (.int .u64 0) (.bool false))
theorem A7S : B0 PR 139 := A8 Tryz.func139 (by kernel_rfl) rfl
theorem A8A {X : Nat → Prop} {t0 t1 t2 : Value} {R : Value → WP} {w : World} (h : A2J X t0 t1 t2 R w) : Fn PR X 139 #[t0, t1, t2] w R := C7 (args := [t0, t1, t2]) mixed Tryz.func139 (by kernel_rfl) h
end Go.Proofs.YtlplkjgcfjdinaaGreat
namespace Go.Proofs.YtlplkjgcfjdinaaGreat
open Go
theorem B8p (a b : List Int) : S7 a ++ S7 b = S7 (a ++ b) := by
 apply ByteArray.ext
 apply Array.toList_inj.1
 rw [ByteArray.data_append, Array.toList_append, A2n, A2n, A2n, List.map_append]
def A1r (v n i : Nat) : List Int := (List.range' (n - i) i).map (A6W v n)
theorem C02 {v n i : Nat} (h : i < n) : A1r v n (i + 1) = A6W v n (n - 1 - i) :: A1r v n i := by
 unfold A1r
 rw [List.range'_succ, List.map_cons, show n - (i + 1) = n - 1 - i by omega, show n - 1 - i + 1 = n - i by omega]
theorem C1p {v n i : Nat} (hn : n ≤ 8) (h : i < n) : A6W v n (n - 1 - i) = ((v / 256 ^ i % 256 : Nat) : Int) := by
 unfold A6W
 have e1 : (8 * ((n : Int) - 1 - ((n - 1 - i : Nat) : Int))).toNat = 8 * i := by omega
 rw [e1, show min (8 * i) IntKind.u64.bits = 8 * i from Nat.min_eq_left (by show 8 * i ≤ 64; omega)]
 rw [show ((2 : Int) ^ (8 * i)) = ((256 ^ i : Nat) : Int) by rw [Int.pow_mul, Int.natCast_pow]; rfl,
  show (v : Int).fdiv ((256 ^ i : Nat) : Int) = ((v / 256 ^ i : Nat) : Int) by rw [Int.fdiv_eq_ediv_of_nonneg _ (Int.natCast_nonneg _)]; rfl]
 generalize v / 256 ^ i = q
 simp only [IntKind.wrap, IntKind.bits, IntKind.signed]
 simp
theorem B4x (w : World) (v : Nat) (n : Int) (hv : v < 2 ^ 64) : Fn PR B7 82 #[.int .u64 (v : Int), .int .i64 n] w (fun u w' => u = .string (F7 v n) ∧ C6 [] w w') := by
 refine Fn.pure (A7y (TW.go (κ := false) (S := []) ?_))
 unfold A2N
 by_cases hok : 1 ≤ n ∧ n ≤ 8
 case neg =>
  have hv : F7 v n = ByteArray.mk #[] := if_neg hok
  rw [hv]
  by_cases h1 : n < 1
  ·(have zz:=trivial;repeat((first|clear zz|with_reducible first|refine A3 ?_|refine A4 fun _=>?_|refine A5 fun _=>?_);try simp(disch:=first|omega|assumption|((repeat(first|exact A1|exact uH|apply A2|apply uT));first|done|fail)|(simp;first|done|omega|fail))[h1])); exact A9 rfl
  ·have h2 : 8 < n := by omega
   (have zz:=trivial;repeat((first|clear zz|with_reducible first|refine A3 ?_|refine A4 fun _=>?_|refine A5 fun _=>?_);try simp(disch:=first|omega|assumption|((repeat(first|exact A1|exact uH|apply A2|apply uT));first|done|fail)|(simp;first|done|omega|fail))[h1, h2])); exact A9 rfl
 have hvv : F7 v n = S7 (w8 v n.toNat n.toNat) := if_pos hok
 rw [hvv]
 obtain ⟨m, rfl⟩ : ∃ m : Nat, n = m := ⟨n.toNat, by omega⟩
 have h1 : ¬ (m : Int) < 1 := by omega
 have h2 : ¬ 8 < (m : Int) := by omega
 (have zz:=trivial;repeat((first|clear zz|with_reducible first|refine A3 ?_|refine A4 fun _=>?_|refine A5 fun _=>?_);try simp(disch:=first|omega|assumption|((repeat(first|exact A1|exact uH|apply A2|apply uT));first|done|fail)|(simp;first|done|omega|fail))[h1, h2]))
 refine B34 m (fun i (_ : Unit) => .string (S7 (A1r v m i))) (fun i _ => .int .u64 ((v / 256 ^ i : Nat) : Int)) (fun _ _ => []) (fun _ _ => True) () trivial ?_ (by simp) (by simp [A1r]; rfl) (by simp)
 rintro i _ hi _ L hL
 by_cases hlt : i < m
 ·have hlt' : (i : Int) < (m : Int) := by omega
  have hb := C1p (v := v) (n := m) (by omega) hlt
  have hq : v / 256 ^ i ≤ v := Nat.div_le_self _ _
  have hn := C02 (v := v) hlt
  have hpw : v / 256 ^ (i + 1) = v / 256 ^ i / 256 := by rw [Nat.pow_succ, Nat.div_div_eq_div_mul]
  rw [hpw, hn] at hL
  rw [hb] at hL
  generalize v / 256 ^ i = q at *
  have e1 : ((q : Nat) : Int).tmod 256 = ((q % 256 : Nat) : Int) := by rw [Int.tmod_eq_emod_of_nonneg (by omega)]; omega
  have e2 : ((q : Nat) : Int).tdiv 256 = ((q / 256 : Nat) : Int) := by rw [Int.tdiv_eq_ediv_of_nonneg (by omega)]; omega
  (have zz:=trivial;repeat((first|clear zz|with_reducible first|refine A3 ?_|refine A4 fun _=>?_|refine A5 fun _=>?_|refine E2 fun _=>?_|refine E5 (hK:=fun _=>?_)|refine E6 (hK:=fun _=>?_)|refine E3 (hK:=fun _=>?_)|refine E1 (hK:=fun _=>?_)|refine E4 (hK:=fun _=>?_));try simp(disch:=first|omega|assumption|((repeat(first|exact A1|exact uH|apply A2|apply uT));first|done|fail)|(simp;first|done|omega|fail))[hlt', e1, e2, N7, W4]))
  rename_i g
  refine C1B (v := .string (S7 [(q : Int) % 256])) ?_ fun w' hw' => @B11 _ w' g 0 1 [(q : Int) % 256] (hw'.ownr (e := 5) (k := 1) (q := 1) (c := 1) (xs := [.int .u8 ((q : Int) % 256)]) A1)
  have e3 : ((q % 256 : Nat) : Int) = (q : Int) % 256 := by omega
  have e4 : ((q / 256 : Nat) : Int) = (q : Int) / 256 := by omega
  have h := hL hlt () trivial
  rw [e3, show S7 ((q : Int) % 256 :: A1r v m i) = S7 [(q : Int) % 256] ++ S7 (A1r v m i) by rw [B8p]; rfl] at h
  have e5 : IntKind.u64.wrap ((q : Int).tdiv 256) = (q : Int) / 256 := by rw [e2, A0b (by omega) (by omega), e4]
  rw [e4] at h
  have htl : (A1r v m i).length = i := by simp [A1r]
  have hsz : (S7 [(q : Int) % 256]).size + (S7 (A1r v m i)).size ≤ maxLen := by rw [A96, A96, htl]; simp only [List.length_singleton, maxLen]; omega
  (have zz:=trivial;repeat((first|clear zz|with_reducible first|refine A3 ?_|refine A4 fun _=>?_|refine A5 fun _=>?_);try simp(disch:=first|omega|assumption|((repeat(first|exact A1|exact uH|apply A2|apply uT));first|done|fail)|(simp;first|done|omega|fail))[hlt', T6 hsz, W4, e5]))
  exact Sels.tw Sels.nil h
 ·obtain rfl : i = m := by omega
  have e : A1r v i i = w8 v i i := by
   unfold A1r w8
   rw [Nat.sub_self, ← List.range_eq_range']
   refine List.map_congr_left fun j hj => ?_
   rw [if_pos (List.mem_range.1 hj)]
  (have zz:=trivial;repeat((first|clear zz|with_reducible first|refine A3 ?_|refine A4 fun _=>?_|refine A5 fun _=>?_);try simp(disch:=first|omega|assumption|((repeat(first|exact A1|exact uH|apply A2|apply uT));first|done|fail)|(simp;first|done|omega|fail))[]))
  rw [e]
  exact A9 (by simp)
end Go.Proofs.YtlplkjgcfjdinaaGreat
namespace Go.Proofs.YtlplkjgcfjdinaaGreat
open Go
section
variable {κ : Bool} {X : Nat → Prop} {S : List Nat} {w0 : World} {H H' Hk : List Res} {K : Value → WP} {K0 : WP}
theorem C8n {e : TypeId} {k n c : Nat} {a : Option Addr} {xs : List Value} (hm : Res.own e k (.slice a n c) n xs ∈ H) (h : n ≤ c → TW κ S w0 H K0) : TW κ S w0 H K0 := fun w hw => by
 refine h ?_ w hw
 rcases (hw.hold _ hm).2 with ⟨h1, h2⟩ | ⟨g, cap, cur, h1, _, h3, _⟩
 ·omega
 ·cases h1; exact h3
end
end Go.Proofs.YtlplkjgcfjdinaaGreat
namespace Go.Proofs.YtlplkjgcfjdinaaGreat
open Go
theorem B9C {a b : ByteArray} {i : Nat} (h : i < a.size) : C8 (a ++ b) i = C8 a i := by
 unfold C8
 rw [ByteArray.data_append]
 simp only [Array.getD_eq_getD_getElem?]
 rw [Array.getElem?_append_left (by exact h)]
theorem B6m {a b : ByteArray} {i : Nat} : C8 (a ++ b) (a.size + i) = C8 b i := by
 unfold C8
 rw [ByteArray.data_append]
 simp only [Array.getD_eq_getD_getElem?]
 rw [Array.getElem?_append_right (by show a.size ≤ a.size + i; omega)]
 have : a.size + i - a.data.size = i := by show a.size + i - a.size = i; omega
 rw [this]
theorem C12 (h : Nat) (a b : ByteArray) : ∀ i, i ≤ a.size → A09 h (a ++ b) i = A09 h a i := by
 intro i
 induction i with
 | zero => intro _; rfl
 | succ i ih => intro hi; simp only [A09]; rw [ih (by omega), B9C (by omega)]
theorem C0x (h : Nat) (a b : ByteArray) : ∀ i, A09 h (a ++ b) (a.size + i) = A09 (A09 h a a.size) b i := by
 intro i
 induction i with
 | zero => exact C12 h a b _ (Nat.le_refl _)
 | succ i ih =>
  show A49 (A09 h (a ++ b) (a.size + i)) (C8 (a ++ b) (a.size + i)) = A49 (A09 (A09 h a a.size) b i) (C8 b i)
  rw [ih, B6m]
theorem B15 (h : Nat) (a b : ByteArray) : A87 h (a ++ b) = A87 (A87 h a) b := by
 unfold A87
 rw [ByteArray.size_append]
 exact C0x h a b _
theorem C2F (w : World) (id : Int) (n : Nat) (hn : n < 2 ^ 60) : Fn PR B7 110 #[.int .i64 id, .int .i64 (n : Int)] w (fun v w' => v = .int .u64 (A4M id n : Nat) ∧ C6 [] w w') := by
 refine Fn.pure (A7A (TW.go (κ := false) (S := []) ?_))
 unfold A1V
 obtain ⟨q, hq⟩ : ∃ q : Nat, IntKind.u64.wrap id = q := ⟨(IntKind.u64.wrap id).toNat, by simp only [IntKind.wrap, IntKind.bits, IntKind.signed]; simp; omega⟩
 have hql : q < 2 ^ 64 := by
  have : IntKind.u64.wrap id < 2 ^ 64 := by simp only [IntKind.wrap, IntKind.bits, IntKind.signed]; simp; omega
  omega
 (have zz:=trivial;repeat((first|clear zz|with_reducible first|refine A3 ?_|refine A4 fun _=>?_|refine A5 fun _=>?_);try simp(disch:=first|omega|assumption|((repeat(first|exact A1|exact uH|apply A2|apply uT));first|done|fail)|(simp;first|done|omega|fail))[hq]))
 refine B8 N4 (fun w' hw' => B4x w' q 4 hql) ?_
 (have zz:=trivial;repeat((first|clear zz|with_reducible first|refine A3 ?_|refine A4 fun _=>?_|refine A5 fun _=>?_);try simp(disch:=first|omega|assumption|((repeat(first|exact A1|exact uH|apply A2|apply uT));first|done|fail)|(simp;first|done|omega|fail))[]))
 refine B8 N4 (fun w' hw' => B4x w' n 2 (by omega)) ?_
 (have zz:=trivial;repeat((first|clear zz|with_reducible first|refine A3 ?_|refine A4 fun _=>?_|refine A5 fun _=>?_);try simp(disch:=first|omega|assumption|((repeat(first|exact A1|exact uH|apply A2|apply uT));first|done|fail)|(simp;first|done|omega|fail))[T6]))
 refine B8 V5 (fun w' _ => B1G w' _ (by simp)) ?_
 refine A9 ?_
 unfold A4M S1
 rw [hq, B15, B15, B15]
 rfl
theorem C16 (w : World) (x y : Nat × Int) : Fn PR B7 164 #[.agg #[.int .u64 (x.1 : Nat), .int .i64 x.2], .agg #[.int .u64 (y.1 : Nat), .int .i64 y.2]] w (fun r w' => r = .bool (!Q9 y x) ∧ C6 [] w w') := by
 refine Fn.pure (A7D (TW.go (κ := false) (S := []) ?_))
 unfold A1Q
 by_cases c1 : x.1 < y.1
 ·have c1' : (x.1 : Int) < (y.1 : Int) := by omega
  have e : Q9 y x = false := by unfold Q9; rw [decide_eq_false_iff_not]; omega
  (have zz:=trivial;repeat((first|clear zz|with_reducible first|refine A3 ?_|refine A4 fun _=>?_|refine A5 fun _=>?_);try simp(disch:=first|omega|assumption|((repeat(first|exact A1|exact uH|apply A2|apply uT));first|done|fail)|(simp;first|done|omega|fail))[c1, c1']))
  exact A9 (by rw [e]; rfl)
 have c1' : ¬ (x.1 : Int) < (y.1 : Int) := by omega
 by_cases c2 : x.1 = y.1
 ·by_cases c3 : x.2 < y.2
  ·have e : Q9 y x = false := by unfold Q9; rw [decide_eq_false_iff_not]; omega
   (have zz:=trivial;repeat((first|clear zz|with_reducible first|refine A3 ?_|refine A4 fun _=>?_|refine A5 fun _=>?_);try simp(disch:=first|omega|assumption|((repeat(first|exact A1|exact uH|apply A2|apply uT));first|done|fail)|(simp;first|done|omega|fail))[c1, c1', c2, c3]))
   exact A9 (by rw [e]; rfl)
  ·have e : Q9 y x = true := by unfold Q9; rw [decide_eq_true_eq]; omega
   (have zz:=trivial;repeat((first|clear zz|with_reducible first|refine A3 ?_|refine A4 fun _=>?_|refine A5 fun _=>?_);try simp(disch:=first|omega|assumption|((repeat(first|exact A1|exact uH|apply A2|apply uT));first|done|fail)|(simp;first|done|omega|fail))[c1, c1', c2, c3]))
   exact A9 (by rw [e]; rfl)
 ·have c2' : ¬ (x.1 : Int) = (y.1 : Int) := by omega
  have e : Q9 y x = true := by unfold Q9; rw [decide_eq_true_eq]; omega
  (have zz:=trivial;repeat((first|clear zz|with_reducible first|refine A3 ?_|refine A4 fun _=>?_|refine A5 fun _=>?_);try simp(disch:=first|omega|assumption|((repeat(first|exact A1|exact uH|apply A2|apply uT));first|done|fail)|(simp;first|done|omega|fail))[c1, c1', c2, c2']))
  exact A9 (by rw [e]; rfl)
abbrev A3F (v : Value) (l : List (Nat × Int)) : Res := .own 179 2 v l.length (l.flatMap E0)
theorem G0.mono {κ : Bool} {S : List Nat} {w0 : World} {H H' : List Res} {v : Value} {n : Nat} {xs : List Value} (h : G0 κ S w0 H v n xs) (hs : H.Sublist H') : G0 κ S w0 H' v n xs := fun w hw => h w (hw.sub hs)
theorem B8a {a b : List (Nat × Int)} {i k : Nat} {x : Nat × Int} (hx : a[i]? = some x) (h : b.length ≤ k ∨ ∃ y, b[k]? = some y ∧ Q9 x y = true) : (a.drop i).merge (b.drop k) Q9 = x :: (a.drop (i + 1)).merge (b.drop k) Q9 := by
 obtain ⟨hi, e⟩ := List.getElem?_eq_some_iff.1 hx
 rw [List.drop_eq_getElem_cons hi, e]
 rcases h with h | ⟨y, hy, hle⟩
 ·rw [List.drop_of_length_le h]; simp
 ·obtain ⟨hk, e2⟩ := List.getElem?_eq_some_iff.1 hy
  rw [List.drop_eq_getElem_cons hk, e2, List.cons_merge_cons, if_pos hle]
theorem B9A {a b : List (Nat × Int)} {i k : Nat} {y : Nat × Int} (hy : b[k]? = some y) (h : a.length ≤ i ∨ ∃ x, a[i]? = some x ∧ ¬ Q9 x y = true) : (a.drop i).merge (b.drop k) Q9 = y :: (a.drop i).merge (b.drop (k + 1)) Q9 := by
 obtain ⟨hk, e⟩ := List.getElem?_eq_some_iff.1 hy
 rw [List.drop_eq_getElem_cons hk, e]
 rcases h with h | ⟨x, hx, hle⟩
 ·rw [List.drop_of_length_le h]; simp
 ·obtain ⟨hi, e2⟩ := List.getElem?_eq_some_iff.1 hx
  rw [List.drop_eq_getElem_cons hi, e2, List.cons_merge_cons, if_neg hle]
theorem C0z (w : World) (u v : Value) (a b : List (Nat × Int)) (ha : a.length ≤ 1000000) (hb : b.length ≤ 1000000) (hu : D4 w u a.length (a.flatMap E0)) (hv : D4 w v b.length (b.flatMap E0)) :
  Fn PR B7 140 #[u, v] w (Rn [] w (fun r x => x = r) fun r => [A3F r (a.merge b Q9)]) := by
 refine A5a (TW.go (κ := false) (S := []) ?_)
 unfold A0v
 obtain ⟨ua, uc, rfl, hur⟩ := hu.form
 obtain ⟨va, vc, rfl, hvr⟩ := hv.form
 have hel : ∀ x : Nat × Int, (E0 x).length = 2 := fun _ => rfl
 have hml : (a.merge b Q9).length = a.length + b.length := List.length_merge ..
 (have zz:=trivial;repeat((first|clear zz|with_reducible first|refine A3 ?_|refine A4 fun _=>?_|refine A5 fun _=>?_);try simp(disch:=first|omega|assumption|((repeat(first|exact A1|exact uH|apply A2|apply uT));first|done|fail)|(simp;first|done|omega|fail))[]))
 refine r4 179 2 ?_
 refine B6d (α := Nat × Nat × List (Nat × Int) × Value) (fun s => [A3F s.2.2.2 s.2.2.1]) (fun s => s.1 ≤ a.length ∧ s.2.1 ≤ b.length ∧ s.2.2.1.length = s.1 + s.2.1 ∧ s.2.2.1 ++ (a.drop s.1).merge (b.drop s.2.1) Q9 = a.merge b Q9) (fun s => a.length + b.length - (s.1 + s.2.1)) (0, 0, [], .slice none 0 0)
  (fun s => .int .i64 (s.1 : Nat)) (fun s => s.2.2.2) (fun s => .int .i64 (s.2.1 : Nat)) ⟨by simp, by simp, rfl, by simp⟩ ?_
 rintro ⟨i, k, out, r⟩ ⟨h1, h2, h3, h4⟩ L hL
 simp only at h1 h2 h3 h4 hL ⊢
 have hwi : IntKind.i64.wrap ((i : Int) + 1) = (i : Int) + 1 := P8 (by omega) (by omega)
 have hwk : IntKind.i64.wrap ((k : Int) + 1) = (k : Int) + 1 := P8 (by omega) (by omega)
 refine Y3 (by (repeat constructor)) fun ra rc hr => ?_
 subst hr
 have pushA : ∀ x, a[i]? = some x → (b.length ≤ k ∨ ∃ y, b[k]? = some y ∧ Q9 x y = true) → ∀ a' c', TW false [] w [A3F (.slice a' (out.length + 1) c') (out ++ [x])] (L (.int .i64 ((i + 1 : Nat) : Int)) (.slice a' (out.length + 1) c') (.int .i64 (k : Nat))) := fun x hx hc a' c' => by
  have hi := (List.getElem?_eq_some_iff.1 hx).1
  have := hL (i + 1, k, out ++ [x], .slice a' (out.length + 1) c') ⟨by simp only; omega, h2, by simp only [List.length_append, List.length_singleton]; omega, by simp only; rw [List.append_assoc, List.singleton_append, ← B8a hx hc, h4]⟩ (by simp only; omega)
  exact this
 have pushB : ∀ y, b[k]? = some y → (a.length ≤ i ∨ ∃ x, a[i]? = some x ∧ ¬ Q9 x y = true) → ∀ a' c', TW false [] w [A3F (.slice a' (out.length + 1) c') (out ++ [y])] (L (.int .i64 (i : Nat)) (.slice a' (out.length + 1) c') (.int .i64 ((k + 1 : Nat) : Int))) := fun y hy hc a' c' => by
  have hk := (List.getElem?_eq_some_iff.1 hy).1
  have := hL (i, k + 1, out ++ [y], .slice a' (out.length + 1) c') ⟨h1, by simp only; omega, by simp only [List.length_append, List.length_singleton]; omega, by simp only; rw [List.append_assoc, List.singleton_append, ← B9A hy hc, h4]⟩ (by simp only; omega)
  exact this
 have doA : ∀ (g : Nat) (x : Nat × Int) (K : Value → WP), (∀ a' c', TW false [] w [A3F (.slice a' (out.length + 1) c') (out ++ [x])] (K (.slice a' (out.length + 1) c'))) → TW false [] w [.own 179 2 (.slice (some ⟨g, 0, none⟩) 1 1) 1 (E0 x), A3F (.slice ra out.length rc) out]
   (B1 PR B7 (A7 .append #[147, 147] 147 [.slice ra out.length rc, .slice (some ⟨g, 0, none⟩) 1 1]) K) := fun g x K hK => by
  refine V6 (e := 179) (k := 2) (q := out.length) (r := 1) (xs := out.flatMap E0) (news := E0 x) (by (repeat constructor)) (G0.own (by (repeat constructor))) (by decide) rfl (by simp [E0]) (by simp only [maxLen]; omega) (by omega) fun a' c' => ?_
  have h := hK a' c'
  simp only [A3F, List.length_append, List.length_singleton, List.flatMap_append, show [x].flatMap E0 = E0 x by simp] at h
  exact Sels.tw (by (repeat' constructor)) h
 by_cases ci : i < a.length
 ·have hx := List.getElem?_eq_getElem ci
  obtain ⟨ub, uo, rfl, hurow⟩ := hur (by omega)
  have hra := hurow.at (f := E0) (k := 2) hel hx
  by_cases ck : k < b.length
  ·have hy := List.getElem?_eq_getElem ck
   obtain ⟨vb, vo, rfl, hvrow⟩ := hvr (by omega)
   have hrb := hvrow.at (f := E0) (k := 2) hel hy
   generalize a[i] = x at *
   generalize b[k] = y at *
   rw [E0] at hra hrb
   have ck' : ¬ (b.length : Int) ≤ (k : Int) := by omega
   have ckN : ¬ b.length ≤ k := by omega
   have ci' : (i : Int) < (a.length : Int) := by omega
   (have zz:=trivial;repeat((first|clear zz|with_reducible first|refine A3 ?_|refine A4 fun _=>?_|refine A5 fun _=>?_);try simp(disch:=first|omega|assumption|((repeat(first|exact A1|exact uH|apply A2|apply uT));first|done|fail)|(simp;first|done|omega|fail))[ci, ci', ck, ck', ckN, hra, hrb]))
   refine B8 A5W (fun w' _ => C16 w' y x) ?_
   cases hle : Q9 x y with
   | true =>
    (have zz:=trivial;repeat((first|clear zz|with_reducible first|refine A3 ?_|refine A4 fun _=>?_|refine A5 fun _=>?_|refine E2 fun _=>?_|refine E5 (hK:=fun _=>?_)|refine E6 (hK:=fun _=>?_)|refine E3 (hK:=fun _=>?_)|refine E1 (hK:=fun _=>?_)|refine E4 (hK:=fun _=>?_));try simp(disch:=first|omega|assumption|((repeat(first|exact A1|exact uH|apply A2|apply uT));first|done|fail)|(simp;first|done|omega|fail))[ci, ci', ck, ck', ckN, hra]))
    refine doA _ x _ fun a' c' => ?_
    (have zz:=trivial;repeat((first|clear zz|with_reducible first|refine A3 ?_|refine A4 fun _=>?_|refine A5 fun _=>?_);try simp(disch:=first|omega|assumption|((repeat(first|exact A1|exact uH|apply A2|apply uT));first|done|fail)|(simp;first|done|omega|fail))[hwi]))
    exact pushA x hx (Or.inr ⟨y, hy, hle⟩) a' c'
   | false =>
    (have zz:=trivial;repeat((first|clear zz|with_reducible first|refine A3 ?_|refine A4 fun _=>?_|refine A5 fun _=>?_|refine E2 fun _=>?_|refine E5 (hK:=fun _=>?_)|refine E6 (hK:=fun _=>?_)|refine E3 (hK:=fun _=>?_)|refine E1 (hK:=fun _=>?_)|refine E4 (hK:=fun _=>?_));try simp(disch:=first|omega|assumption|((repeat(first|exact A1|exact uH|apply A2|apply uT));first|done|fail)|(simp;first|done|omega|fail))[ci, ci', ck, ck', ckN, hrb]))
    refine doA _ y _ fun a' c' => ?_
    (have zz:=trivial;repeat((first|clear zz|with_reducible first|refine A3 ?_|refine A4 fun _=>?_|refine A5 fun _=>?_);try simp(disch:=first|omega|assumption|((repeat(first|exact A1|exact uH|apply A2|apply uT));first|done|fail)|(simp;first|done|omega|fail))[hwk]))
    exact pushB y hy (Or.inr ⟨x, hx, by rw [hle]; simp⟩) a' c'
  ·generalize a[i] = x at *
   rw [E0] at hra
   have ck' : (b.length : Int) ≤ (k : Int) := by omega
   have ckN : b.length ≤ k := by omega
   have ci' : (i : Int) < (a.length : Int) := by omega
   (have zz:=trivial;repeat((first|clear zz|with_reducible first|refine A3 ?_|refine A4 fun _=>?_|refine A5 fun _=>?_|refine E2 fun _=>?_|refine E5 (hK:=fun _=>?_)|refine E6 (hK:=fun _=>?_)|refine E3 (hK:=fun _=>?_)|refine E1 (hK:=fun _=>?_)|refine E4 (hK:=fun _=>?_));try simp(disch:=first|omega|assumption|((repeat(first|exact A1|exact uH|apply A2|apply uT));first|done|fail)|(simp;first|done|omega|fail))[ci, ci', ck, ck', ckN, hra]))
   refine doA _ x _ fun a' c' => ?_
   (have zz:=trivial;repeat((first|clear zz|with_reducible first|refine A3 ?_|refine A4 fun _=>?_|refine A5 fun _=>?_);try simp(disch:=first|omega|assumption|((repeat(first|exact A1|exact uH|apply A2|apply uT));first|done|fail)|(simp;first|done|omega|fail))[hwi]))
   exact pushA x hx (Or.inl (by omega)) a' c'
 ·by_cases ck : k < b.length
  ·have hy := List.getElem?_eq_getElem ck
   obtain ⟨vb, vo, rfl, hvrow⟩ := hvr (by omega)
   have hrb := hvrow.at (f := E0) (k := 2) hel hy
   generalize b[k] = y at *
   rw [E0] at hrb
   have ck' : ¬ (b.length : Int) ≤ (k : Int) := by omega
   have ci' : ¬ (i : Int) < (a.length : Int) := by omega
   have ck2 : (k : Int) < (b.length : Int) := by omega
   have ckN : ¬ b.length ≤ k := by omega
   (have zz:=trivial;repeat((first|clear zz|with_reducible first|refine A3 ?_|refine A4 fun _=>?_|refine A5 fun _=>?_|refine E2 fun _=>?_|refine E5 (hK:=fun _=>?_)|refine E6 (hK:=fun _=>?_)|refine E3 (hK:=fun _=>?_)|refine E1 (hK:=fun _=>?_)|refine E4 (hK:=fun _=>?_));try simp(disch:=first|omega|assumption|((repeat(first|exact A1|exact uH|apply A2|apply uT));first|done|fail)|(simp;first|done|omega|fail))[ci, ci', ck, ck', ckN, ck2, hrb]))
   refine doA _ y _ fun a' c' => ?_
   (have zz:=trivial;repeat((first|clear zz|with_reducible first|refine A3 ?_|refine A4 fun _=>?_|refine A5 fun _=>?_);try simp(disch:=first|omega|assumption|((repeat(first|exact A1|exact uH|apply A2|apply uT));first|done|fail)|(simp;first|done|omega|fail))[hwk]))
   exact pushB y hy (Or.inl (by omega)) a' c'
  ·have ci' : ¬ (i : Int) < (a.length : Int) := by omega
   have ck2 : ¬ (k : Int) < (b.length : Int) := by omega
   have he : out = a.merge b Q9 := by
    rw [← h4, List.drop_of_length_le (by omega), List.drop_of_length_le (by omega)]; simp
   (have zz:=trivial;repeat((first|clear zz|with_reducible first|refine A3 ?_|refine A4 fun _=>?_|refine A5 fun _=>?_);try simp(disch:=first|omega|assumption|((repeat(first|exact A1|exact uH|apply A2|apply uT));first|done|fail)|(simp;first|done|omega|fail))[ci, ci', ck, ck2]))
   rw [← he]
   exact C0 _ rfl (by (repeat' constructor))
theorem B5B (x y z : Nat × Int) (h1 : Q9 x y = true) (h2 : Q9 y z = true) : Q9 x z = true := by unfold Q9 at *; rw [decide_eq_true_eq] at *; omega
theorem B5c (x y : Nat × Int) : (Q9 x y || Q9 y x) = true := by
 unfold Q9; rw [Bool.or_eq_true, decide_eq_true_eq, decide_eq_true_eq]; omega
theorem C3U (x y : Nat × Int) (h1 : Q9 x y = true) (h2 : Q9 y x = true) : x = y := by
 unfold Q9 at *; rw [decide_eq_true_eq] at *
 exact Prod.ext (by omega) (by omega)
theorem A2v (l : List (Nat × Int)) : (M3 l).Pairwise fun a b => Q9 a b = true := List.pairwise_mergeSort B5B B5c l
theorem A8g (l : List (Nat × Int)) : (M3 l).Perm l := List.mergeSort_perm l Q9
theorem B8y (l m : List (Nat × Int)) : (M3 l).merge (M3 m) Q9 = M3 (l ++ m) := by
 refine List.Perm.eq_of_pairwise (fun a b _ _ h1 h2 => C3U a b h1 h2) (List.pairwise_merge B5B B5c _ _ (A2v l) (A2v m)) (A2v _) ?_
 exact (List.merge_perm_append Q9).trans (((A8g l).append (A8g m)).trans (A8g _).symm)
theorem B1v {l : List (Nat × Int)} (h : l.length < 2) : M3 l = l := by
 match l, h with
 | [], _ => simp [M3]
 | [a], _ => simp [M3]
theorem C2E {w : World} {b o : Nat} {xs ys : List Value} (h : L6 w b o (xs ++ ys)) : L6 w b o xs ∧ L6 w b (o + xs.length) ys := by
 refine ⟨fun i hi => ?_, fun i hi => ?_⟩
 ·rw [h i (by simp; omega), List.getElem?_append_left hi]
 ·rw [Nat.add_assoc, h (xs.length + i) (by simp; omega), List.getElem?_append_right (by omega)]; congr 1; omega
def RdC (w : World) (v : Value) (l : List (Nat × Int)) : Prop := D4 w v l.length (l.flatMap E0) ∧ ∃ a c, v = .slice a l.length c ∧ l.length ≤ c
theorem RdC.ks {w w' : World} {v : Value} {l : List (Nat × Int)} (h : RdC w v l) (hk : KS false [] w w') : RdC w' v l := ⟨h.1.ks hk (by simp), h.2⟩
theorem C2k {w : World} {H : List Res} {K : Value → WP} {v : Value} {l : List (Nat × Int)}
  (hf : ∀ w', LW false [] w H w' → Fn PR B7 111 #[v] w' (Rn [] w' (fun r u => u = if l.length < 2 then v else r) fun r => if l.length < 2 then [] else [A3F r (M3 l)]))
  (hv : ∀ w', LW false [] w H w' → D4 w' v l.length (l.flatMap E0)) (hK : ∀ u H', H.Sublist H' → G0 false [] w H' u (M3 l).length ((M3 l).flatMap E0) → TW false [] w H' (K u)) : TW false [] w H (B2 PR B7 111 [v] K) := by
 refine F3 A0c (fun w' hw' => hf w' hw') ?_
 rintro r _ rfl
 by_cases c : l.length < 2
 ·rw [if_pos c, if_pos c]
  exact hK v H (List.Sublist.refl _) (by rw [B1v c]; exact hv)
 ·rw [if_neg c, if_neg c]
  exact hK r _ (List.sublist_append_right _ _) (G0.own A1)
theorem C1A : ∀ (n : Nat) (w : World) (v : Value) (l : List (Nat × Int)), l.length ≤ n → n ≤ 1000000 → RdC w v l →
  Fn PR B7 111 #[v] w (Rn [] w (fun r u => u = if l.length < 2 then v else r) fun r => if l.length < 2 then [] else [A3F r (M3 l)]) := by
 intro n
 induction n with
 | zero =>
  intro w v l hl hn hv
  obtain ⟨h1, a, c, rfl, hc⟩ := hv
  refine A1M (TW.go (κ := false) (S := []) ?_)
  unfold l4
  have c1 : (l.length : Int) < 2 := by omega
  have c1n : l.length < 2 := by omega
  (have zz:=trivial;repeat((first|clear zz|with_reducible first|refine A3 ?_|refine A4 fun _=>?_|refine A5 fun _=>?_);try simp(disch:=first|omega|assumption|((repeat(first|exact A1|exact uH|apply A2|apply uT));first|done|fail)|(simp;first|done|omega|fail))[c1, c1n]))
  exact C0 .nilIface (by simp [c1n]) Sels.nil
 | succ n ih =>
  intro w v l hl hn hv
  obtain ⟨h1, a, c, rfl, hc⟩ := hv
  refine A1M (TW.go (κ := false) (S := []) ?_)
  unfold l4
  by_cases c1n : l.length < 2
  ·have c1 : (l.length : Int) < 2 := by omega
   (have zz:=trivial;repeat((first|clear zz|with_reducible first|refine A3 ?_|refine A4 fun _=>?_|refine A5 fun _=>?_);try simp(disch:=first|omega|assumption|((repeat(first|exact A1|exact uH|apply A2|apply uT));first|done|fail)|(simp;first|done|omega|fail))[c1, c1n]))
   exact C0 .nilIface (by simp [c1n]) Sels.nil
  have c1 : ¬ (l.length : Int) < 2 := by omega
  obtain ⟨h, hh⟩ : ∃ h, h = l.length / 2 := ⟨_, rfl⟩
  have e1 : IntKind.i64.wrap ((l.length : Int).tdiv 2) = (h : Nat) := by rw [Int.tdiv_eq_ediv_of_nonneg (by omega), P8 (by omega) (by omega)]; omega
  have hrow := h1.form
  obtain ⟨a', c', hve, hr⟩ := hrow
  cases hve
  obtain ⟨b, o, rfl, hrow⟩ := hr (by omega)
  have hlt : (l.take h).length = h := by rw [List.length_take]; omega
  have hld : (l.drop h).length = l.length - h := by rw [List.length_drop]
  have hsp : l.flatMap E0 = (l.take h).flatMap E0 ++ (l.drop h).flatMap E0 := by rw [← List.flatMap_append, List.take_append_drop]
  rw [hsp] at hrow
  obtain ⟨r1, r2⟩ := C2E hrow
  have hl1 : ((l.take h).flatMap E0).length = h * 2 := by rw [L5 (k := 2) fun _ => rfl, hlt]
  rw [hl1] at r2
  have rd1 : RdC w (.slice (some ⟨b, o, none⟩) h c) (l.take h) := ⟨Or.inr ⟨b, o, c, by rw [hlt], r1⟩, some ⟨b, o, none⟩, c, by rw [hlt], by omega⟩
  have rd2 : RdC w (.slice (some ⟨b, o + h * 2, none⟩) (l.length - h) (c - h)) (l.drop h) := ⟨Or.inr ⟨b, o + h * 2, c - h, by rw [hld], r2⟩, some ⟨b, o + h * 2, none⟩, c - h, by rw [hld], by omega⟩
  have e2 : ¬ c = h := by omega
  have e3 : ¬ c = 0 := by omega
  have e4 : (h : Int) ≤ (c : Int) := by omega
  have e5 : (h : Int) ≤ (l.length : Int) := by omega
  have e6 : ((l.length : Int) / 2).toNat = h := by omega
  have e7 : slc (some ⟨b, o, none⟩) h l.length c 2 = .slice (some ⟨b, o + h * 2, none⟩) (l.length - h) (c - h) := by simp [slc, e2, j4]
  have e8 : slc (some ⟨b, o, none⟩) 0 h c 2 = .slice (some ⟨b, o, none⟩) h c := by simp [slc, e3, j4]
  (have zz:=trivial;repeat((first|clear zz|with_reducible first|refine A3 ?_|refine A4 fun _=>?_|refine A5 fun _=>?_);try simp(disch:=first|omega|assumption|((repeat(first|exact A1|exact uH|apply A2|apply uT));first|done|fail)|(simp;first|done|omega|fail))[c1, W4]))
  simp only [e6, e7, e8]
  refine C2k (l := l.take h) (fun w' hw' => ih w' _ _ (by rw [hlt]; omega) (by omega) (rd1.ks hw'.ks)) (fun w' hw' => (rd1.ks hw'.ks).1) fun u1 H1 hs1 hu1 => ?_
  refine C2k (l := l.drop h) (fun w' hw' => ih w' _ _ (by rw [hld]; omega) (by omega) (rd2.ks hw'.ks)) (fun w' hw' => (rd2.ks hw'.ks).1) fun u2 H2 hs2 hu2 => ?_
  refine F3 A4p (fun w' hw' => C0z w' u1 u2 (M3 (l.take h)) (M3 (l.drop h)) (by rw [Z9]; omega) (by rw [Z9]; omega) (hu1.mono hs2 w' hw') (hu2 w' hw')) ?_
  intro _ r hr
  subst hr
  rw [B8y, List.take_append_drop]
  refine C0 r (by simp [c1n]) ?_
  simp only [c1n, if_false]
  exact Sels.cons Sel.here Sels.nil
theorem C1x {p : List G2} {i : Nat} {b : G2} (h : p[i]? = some b) : G4 (p.take (i + 1)) = G4 (p.take i) ++ A0M b := by
 unfold G4; rw [List.take_add_one, h]; simp [List.flatMap_append]
theorem C2N {b : G2} {j : Nat} (h : j < n9 b) : (A0M b).take (j + 1) = (A0M b).take j ++ [(A4M b.1 j, b.1)] := by
 unfold A0M
 rw [List.take_add_one, List.getElem?_map, List.getElem?_range h]; rfl
theorem B9a (b : G2) : n9 b ≤ 128 := by unfold n9; omega
theorem B2n (b : G2) : (A0M b).length = n9 b := by simp [A0M]
theorem B2r (p : List G2) : (G4 p).length ≤ p.length * 128 := by
 induction p with
 | nil => simp [G4]
 | cons b p ih =>
  unfold G4 at *
  have := B9a b
  rw [List.flatMap_cons, List.length_append, B2n, List.length_cons]; omega
theorem C5k (w : World) (v : Value) (p : List G2) (hn : p.length ≤ 1000) (hv : D4 w v p.length (p.flatMap E7)) :
  Fn PR B7 86 #[v] w (Rn [] w (fun r u => u = r) fun r => [A3F r (M3 (G4 p))]) := by
 refine A9J (TW.go (κ := false) (S := []) ?_)
 unfold A2l
 obtain ⟨a, c, rfl, hr⟩ := hv.form
 (have zz:=trivial;repeat((first|clear zz|with_reducible first|refine A3 ?_|refine A4 fun _=>?_|refine A5 fun _=>?_);try simp(disch:=first|omega|assumption|((repeat(first|exact A1|exact uH|apply A2|apply uT));first|done|fail)|(simp;first|done|omega|fail))[]))
 refine r4 179 2 ?_
 refine H4 p.length (fun i (r : Value) => r) (fun i r => [A3F r (G4 (p.take i))]) (fun i r => True) (.slice none 0 0) trivial ?_ (by simp [G4])
 rintro i r hi _ L hL
 by_cases hlt : i < p.length
 ·have hx : p[i]? = some p[i] := List.getElem?_eq_getElem hlt
  obtain ⟨b, o, rfl, hrow⟩ := hr (by omega)
  have h1 := hrow.cellAt (f := E7) (k := 2) (j := 0) (fun _ => rfl) hx rfl
  have h2 := hrow.cellAt (f := E7) (k := 2) (j := 1) (fun _ => rfl) hx rfl
  have hnx := C1x hx
  have hle := B2r (p.take i)
  rw [List.length_take] at hle
  rw [hnx] at hL
  generalize p[i] = y at *
  have hwl := B9a y
  have e1 : IntKind.i64.wrap (8 * max 0 (min y.2 16)) = (n9 y : Int) := by unfold n9; rw [P8 (by omega) (by omega)]; omega
  (have zz:=trivial;repeat((first|clear zz|with_reducible first|refine A3 ?_|refine A4 fun _=>?_|refine A5 fun _=>?_);try simp(disch:=first|omega|assumption|((repeat(first|exact A1|exact uH|apply A2|apply uT));first|done|fail)|(simp;first|done|omega|fail))[hlt]))
  refine H4 (n9 y) (fun j (r : Value) => r) (fun j r => [A3F r (G4 (p.take i) ++ (A0M y).take j)]) (fun j r => True) r trivial ?_ (by simp)
  rintro j r2 hj _ L2 hL2
  by_cases hjl : j < n9 y
  ·have hjl' : (j : Int) < (n9 y : Int) := by omega
   have hbn := C2N hjl
   have hlj : ((A0M y).take j).length = j := by rw [List.length_take, B2n]; omega
   rw [hbn, ← List.append_assoc] at hL2
   refine Y3 (by (repeat constructor)) fun ra rc hra => ?_
   subst hra
   generalize hacc : G4 (p.take i) ++ (A0M y).take j = acc at *
   have hal : acc.length ≤ 200000 := by rw [← hacc, List.length_append, hlj]; omega
   (have zz:=trivial;repeat((first|clear zz|with_reducible first|refine A3 ?_|refine A4 fun _=>?_|refine A5 fun _=>?_);try simp(disch:=first|omega|assumption|((repeat(first|exact A1|exact uH|apply A2|apply uT));first|done|fail)|(simp;first|done|omega|fail))[hlt, h1, h2, e1, hjl']))
   refine B8 A5c (fun w' _ => C2F w' y.1 j (by omega)) ?_
   (have zz:=trivial;repeat((first|clear zz|with_reducible first|refine A3 ?_|refine A4 fun _=>?_|refine A5 fun _=>?_|refine E2 fun _=>?_|refine E5 (hK:=fun _=>?_)|refine E6 (hK:=fun _=>?_)|refine E3 (hK:=fun _=>?_)|refine E1 (hK:=fun _=>?_)|refine E4 (hK:=fun _=>?_));try simp(disch:=first|omega|assumption|((repeat(first|exact A1|exact uH|apply A2|apply uT));first|done|fail)|(simp;first|done|omega|fail))[hlt, h1, h2]))
   refine V6 (e := 179) (k := 2) (q := acc.length) (r := 1) (xs := acc.flatMap E0) (news := E0 (A4M y.1 j, y.1)) (by (repeat constructor)) (G0.own (by (repeat constructor))) (by decide) rfl (by simp [E0]) (by simp only [maxLen]; omega) (by omega) fun a' c' => ?_
   (have zz:=trivial;repeat((first|clear zz|with_reducible first|refine A3 ?_|refine A4 fun _=>?_|refine A5 fun _=>?_);try simp(disch:=first|omega|assumption|((repeat(first|exact A1|exact uH|apply A2|apply uT));first|done|fail)|(simp;first|done|omega|fail))[]))
   have h := hL2 hjl (.slice a' (acc.length + 1) c') trivial
   simp only [A3F, List.length_append, List.length_singleton, List.flatMap_append, show [(A4M y.1 j, y.1)].flatMap E0 = E0 (A4M y.1 j, y.1) by simp] at h
   exact Sels.tw (by (repeat' constructor)) h
  ·obtain rfl : j = n9 y := by omega
   have hjl' : ¬ ((n9 y : Nat) : Int) < (n9 y : Int) := by omega
   have htk : (A0M y).take (n9 y) = A0M y := List.take_of_length_le (by rw [B2n]; omega)
   rw [htk]
   (have zz:=trivial;repeat((first|clear zz|with_reducible first|refine A3 ?_|refine A4 fun _=>?_|refine A5 fun _=>?_);try simp(disch:=first|omega|assumption|((repeat(first|exact A1|exact uH|apply A2|apply uT));first|done|fail)|(simp;first|done|omega|fail))[hlt, h1, h2, e1, hjl']))
   exact Sels.tw (by (repeat' constructor)) (hL hlt r2 trivial)
 ·obtain rfl : i = p.length := by omega
  rw [List.take_length]
  have hle := B2r p
  refine Y3 (by (repeat constructor)) fun ra rc hra => ?_
  subst hra
  refine C8n (by (repeat constructor)) fun hcap => ?_
  (have zz:=trivial;repeat((first|clear zz|with_reducible first|refine A3 ?_|refine A4 fun _=>?_|refine A5 fun _=>?_);try simp(disch:=first|omega|assumption|((repeat(first|exact A1|exact uH|apply A2|apply uT));first|done|fail)|(simp;first|done|omega|fail))[]))
  refine F3 A0c (fun w' hw' => C1A (G4 p).length w' _ (G4 p) (Nat.le_refl _) (by omega) ⟨G0.own A1 w' hw', _, _, rfl, hcap⟩) ?_
  rintro r2 _ rfl
  by_cases c1 : (G4 p).length < 2
  ·simp only [c1, if_true]
   rw [B1v c1]
   exact C0 _ rfl (Sels.cons Sel.here Sels.nil)
  ·simp only [c1, if_false]
   exact C0 r2 rfl (Sels.cons Sel.here Sels.nil)
theorem A9P {f : Nat → Bool} {i j r : Nat} (h0 : i ≤ r) (h1 : r ≤ j) (h2 : ∀ q, i ≤ q → q < r → f q = false) (h3 : ∀ q, r ≤ q → q < j → f q = true) : H5 f i j = r := by
 induction i, j using H5.induct f with
 | case1 i j hij hf ih =>
  rw [H5, if_pos hij, if_pos hf]
  have : r ≤ (i + j) / 2 := by
   apply Classical.byContradiction
   intro hc
   have := h2 ((i + j) / 2) (by omega) (by omega)
   rw [hf] at this; cases this
  exact ih h0 this h2 fun q hq hq2 => h3 q hq (by omega)
 | case2 i j hij hf ih =>
  rw [H5, if_pos hij, if_neg hf]
  have : (i + j) / 2 < r := by
   apply Classical.byContradiction
   intro hc
   exact hf (h3 ((i + j) / 2) (by omega) (by omega))
  exact ih (by omega) h1 (fun q hq hq2 => h2 q (by omega) hq2) h3
 | case3 i j hij => rw [H5, if_neg hij]; omega
theorem B5M {l : List (Nat × Int)} {h q : Nat} (hq : q < l.length) : geP l h q = false ↔ l[q].1 < h := by
 unfold geP
 rw [decide_eq_false_iff_not, List.getD_eq_getElem?_getD, List.getElem?_eq_getElem hq]
 simp
theorem C3S {l : List (Nat × Int)} {h q : Nat} (hq : q < l.length) : geP l h q = true ↔ h ≤ l[q].1 := by
 unfold geP
 rw [decide_eq_true_eq, List.getD_eq_getElem?_getD, List.getElem?_eq_getElem hq]
 simp
theorem C4Y {l : List (Nat × Int)} {h i : Nat} (hs : l.Pairwise fun a b => Q9 a b = true) (hi : i < l.length) (hh : h ≤ l[i].1) (hp : ∀ j (hj : j < i), (l[j]'(by omega)).1 < h) : A2U l h = l[i].2 := by
 have e : H5 (geP l h) 0 l.length = i := by
  refine A9P (by omega) (by omega) (fun q _ hq => (B5M (by omega)).2 (hp q hq)) fun q hq hql => (C3S hql).2 ?_
  by_cases c : i = q
  ·subst c; exact hh
  ·have := List.pairwise_iff_getElem.1 hs i q hi hql (by omega)
   unfold Q9 at this
   rw [decide_eq_true_eq] at this
   omega
 unfold A2U
 rw [if_neg (by omega), e, Nat.mod_eq_of_lt hi, List.getD_eq_getElem?_getD, List.getElem?_eq_getElem hi]; rfl
theorem B9r {l : List (Nat × Int)} {h : Nat} (h0 : 0 < l.length) (hp : ∀ j (hj : j < l.length), l[j].1 < h) : A2U l h = l[0].2 := by
 have e : H5 (geP l h) 0 l.length = l.length := A9P (by omega) (Nat.le_refl _) (fun q _ hq => (B5M hq).2 (hp q hq)) fun q hq hql => by omega
 unfold A2U
 rw [if_neg (by omega), e, Nat.mod_self, List.getD_eq_getElem?_getD, List.getElem?_eq_getElem h0]; rfl
theorem C1Q (w : World) (v : Value) (l : List (Nat × Int)) (h : Nat) (hs : l.Pairwise fun a b => Q9 a b = true) (hn : l.length ≤ 1000000) (hv : D4 w v l.length (l.flatMap E0)) :
  Fn PR B7 85 #[v, .int .u64 (h : Int)] w (fun r w' => r = .int .i64 (A2U l h) ∧ C6 [] w w') := by
 refine Fn.pure (A7c (TW.go (κ := false) (S := []) ?_))
 unfold A1C
 obtain ⟨a, c, rfl, hr⟩ := hv.form
 (have zz:=trivial;repeat((first|clear zz|with_reducible first|refine A3 ?_|refine A4 fun _=>?_|refine A5 fun _=>?_);try simp(disch:=first|omega|assumption|((repeat(first|exact A1|exact uH|apply A2|apply uT));first|done|fail)|(simp;first|done|omega|fail))[]))
 refine H4 (α := Unit) l.length (fun _ _ => .int .i64 0) (fun _ _ => []) (fun i _ => ∀ j (hj : j < l.length), j < i → l[j].1 < h) () (by intros; omega) ?_
 rintro i _ hi hpre L hL
 by_cases hlt : i < l.length
 ·have hx : l[i]? = some l[i] := List.getElem?_eq_getElem hlt
  obtain ⟨b, o, rfl, hrow⟩ := hr (by omega)
  have h1 := hrow.cellAt (f := E0) (k := 2) (j := 0) (fun _ => rfl) hx rfl
  have h2 := hrow.cellAt (f := E0) (k := 2) (j := 1) (fun _ => rfl) hx rfl
  by_cases c1 : h ≤ l[i].1
  ·have c1' : (h : Int) ≤ (l[i].1 : Int) := by omega
   (have zz:=trivial;repeat((first|clear zz|with_reducible first|refine A3 ?_|refine A4 fun _=>?_|refine A5 fun _=>?_);try simp(disch:=first|omega|assumption|((repeat(first|exact A1|exact uH|apply A2|apply uT));first|done|fail)|(simp;first|done|omega|fail))[hlt, h1, h2, c1, c1']))
   exact A9 (by rw [C4Y hs hlt c1 fun j hj => hpre j (by omega) hj])
  ·have c1' : ¬ (h : Int) ≤ (l[i].1 : Int) := by omega
   (have zz:=trivial;repeat((first|clear zz|with_reducible first|refine A3 ?_|refine A4 fun _=>?_|refine A5 fun _=>?_);try simp(disch:=first|omega|assumption|((repeat(first|exact A1|exact uH|apply A2|apply uT));first|done|fail)|(simp;first|done|omega|fail))[hlt, h1, h2, c1, c1']))
   refine hL hlt () fun j hj hji => ?_
   by_cases e : j = i
   ·subst e; omega
   ·exact hpre j hj (by omega)
 ·obtain rfl : i = l.length := by omega
  by_cases h0 : l.length = 0
  ·(have zz:=trivial;repeat((first|clear zz|with_reducible first|refine A3 ?_|refine A4 fun _=>?_|refine A5 fun _=>?_);try simp(disch:=first|omega|assumption|((repeat(first|exact A1|exact uH|apply A2|apply uT));first|done|fail)|(simp;first|done|omega|fail))[h0]))
   exact A9 (by unfold A2U; rw [if_pos h0])
  ·have hx : l[0]? = some (l[0]'(by omega)) := List.getElem?_eq_getElem (by omega)
   obtain ⟨b, o, rfl, hrow⟩ := hr (by omega)
   have h2 := hrow.cellAt (f := E0) (k := 2) (j := 1) (fun _ => rfl) hx rfl
   simp only [Nat.zero_mul, Nat.add_zero] at h2
   have h0' : (0 : Int) < (l.length : Int) := by omega
   have h0'' : ¬ (l.length : Int) = 0 := by omega
   (have zz:=trivial;repeat((first|clear zz|with_reducible first|refine A3 ?_|refine A4 fun _=>?_|refine A5 fun _=>?_);try simp(disch:=first|omega|assumption|((repeat(first|exact A1|exact uH|apply A2|apply uT));first|done|fail)|(simp;first|done|omega|fail))[h0, h0', h0'', h2]))
   exact A9 (by rw [B9r (by omega) fun j hj => hpre j hj hj])
theorem C1H (w : World) (v : Value) (p : List G2) (h : Nat) (hn : p.length ≤ 1000) (hv : D4 w v p.length (p.flatMap E7)) :
  Fn PR B7 62 #[v, .int .u64 (h : Int)] w (fun r w' => r = .int .i64 (B24 p h) ∧ C6 [] w w') := by
 refine Fn.pure (A7Q (TW.go (κ := false) (S := []) ?_))
 unfold A1e
 refine F3 A7q (fun w' hw' => C5k w' v p hn (hv.ks hw'.ks (by simp))) ?_
 intro _ r hr
 subst hr
 have hle := B2r p
 (have zz:=trivial;repeat((first|clear zz|with_reducible first|refine A3 ?_|refine A4 fun _=>?_|refine A5 fun _=>?_);try simp(disch:=first|omega|assumption|((repeat(first|exact A1|exact uH|apply A2|apply uT));first|done|fail)|(simp;first|done|omega|fail))[]))
 refine B8 A5u (fun w' hw' => C1Q w' r (M3 (G4 p)) h (A2v _) (by rw [Z9]; omega) (G0.own A1 w' hw')) ?_
 exact A9 rfl
end Go.Proofs.YtlplkjgcfjdinaaGreat
namespace Go.Proofs.YtlplkjgcfjdinaaGreat
open Go
theorem C0r {l : List EnV} {p : List G2} {key : ByteArray} {now : Int} (h : (H8 l p key now).2 = true) : 0 ≤ D3 l key ∧ now ≤ (e9 l key).dl ∧ 0 ≤ Z1 p (e9 l key).bk ∧ (H8 l p key now).1 = (e9 l key).bk := by
 unfold H8 at *
 split at h
 ·cases h
 ·rename_i c
  rw [if_neg c]
  refine ⟨by omega, by omega, by omega, rfl⟩
theorem B7B (l : List EnV) (p : List G2) (key : ByteArray) (closing : Bool) (now idle : Int) :
  ((H8 l p key now).2 = false ∧ p = [] ∧ D6 l p key closing now idle = (l, ⟨11, 0, false, 0⟩, false)) ∨
  (¬ ((H8 l p key now).2 = false ∧ p = []) ∧ closing = true ∧ D6 l p key closing now idle = (A1v l key, ⟨0, S2 l p key now, false, 0⟩, (U7 l key).isSome)) ∨
  (¬ ((H8 l p key now).2 = false ∧ p = []) ∧ closing = false ∧ D3 l key < 0 ∧ D6 l p key closing now idle = (l, ⟨12, 0, false, 0⟩, false)) ∨
  (¬ ((H8 l p key now).2 = false ∧ p = []) ∧ closing = false ∧ ∃ u, F6 l (A7M l p key now idle) = some u ∧ D6 l p key closing now idle = (u, ⟨0, S2 l p key now, !(H8 l p key now).2, 0⟩, true)) := by
 unfold D6
 by_cases h : (H8 l p key now).2 = false ∧ p = []
 ·left; exact ⟨h.1, h.2, if_pos h⟩
 right
 rw [if_neg h]
 cases closing with
 | true => left; exact ⟨h, rfl, rfl⟩
 | false =>
  right
  cases hp : F6 l (A7M l p key now idle) with
  | none => left; exact ⟨h, rfl, C1f hp, rfl⟩
  | some u => right; exact ⟨h, rfl, u, rfl, rfl⟩
end Go.Proofs.YtlplkjgcfjdinaaGreat
namespace Go.Proofs.YtlplkjgcfjdinaaGreat
open Go
theorem B5g (w : World) (v : Value) (l : List G2) (id : Int) (hn : l.length ≤ 1000000) (hv : D4 w v l.length (l.flatMap E7)) :
  Fn PR B7 61 #[v, .int .i64 id] w (fun r w' => r = .int .i64 (Z1 l id) ∧ C6 [] w w') := by
 refine Fn.pure (A6z (TW.go (κ := false) (S := []) ?_))
 unfold A1F
 obtain ⟨a, c, rfl, hr⟩ := hv.form
 (have zz:=trivial;repeat((first|clear zz|with_reducible first|refine A3 ?_|refine A4 fun _=>?_|refine A5 fun _=>?_);try simp(disch:=first|omega|assumption|((repeat(first|exact A1|exact uH|apply A2|apply uT));first|done|fail)|(simp;first|done|omega|fail))[]))
 refine H4 (α := Unit) l.length (fun _ _ => .int .i64 0) (fun _ _ => []) (fun i _ => ∀ j y, j < i → l[j]? = some y → decide (y.1 = id) = false) () (by intro j _ hj; omega) ?_
 rintro i _ hi hpre L hL
 by_cases hlt : i < l.length
 ·obtain ⟨b, o, rfl, hrow⟩ := hr (by omega)
  have hx : l[i]? = some l[i] := List.getElem?_eq_getElem hlt
  have h1 := hrow.cellAt (f := E7) (k := 2) (j := 0) (fun _ => rfl) hx rfl
  by_cases c1 : l[i].1 = id
  ·(have zz:=trivial;repeat((first|clear zz|with_reducible first|refine A3 ?_|refine A4 fun _=>?_|refine A5 fun _=>?_);try simp(disch:=first|omega|assumption|((repeat(first|exact A1|exact uH|apply A2|apply uT));first|done|fail)|(simp;first|done|omega|fail))[hlt, h1, c1]))
   exact A9 (by rw [Z1, A58 hx (by simpa using c1) hpre])
  ·(have zz:=trivial;repeat((first|clear zz|with_reducible first|refine A3 ?_|refine A4 fun _=>?_|refine A5 fun _=>?_);try simp(disch:=first|omega|assumption|((repeat(first|exact A1|exact uH|apply A2|apply uT));first|done|fail)|(simp;first|done|omega|fail))[hlt, h1, c1]))
   refine hL hlt () fun j y hj hy => ?_
   by_cases hji : j = i
   ·subst hji; rw [hx] at hy; cases hy; simpa using c1
   ·exact hpre j y (by omega) hy
 ·obtain rfl : i = l.length := by omega
  (have zz:=trivial;repeat((first|clear zz|with_reducible first|refine A3 ?_|refine A4 fun _=>?_|refine A5 fun _=>?_);try simp(disch:=first|omega|assumption|((repeat(first|exact A1|exact uH|apply A2|apply uT));first|done|fail)|(simp;first|done|omega|fail))[]))
  exact A9 (by rw [Z1, B0d fun j y hy => hpre j y (List.getElem?_eq_some_iff.1 hy).1 hy])
theorem C0j (w : World) (key : ByteArray) (n : Int) (hk : key.size < 2 ^ 60) (hn : n < 2 ^ 63) : Fn PR B7 58 #[.string key, .int .i64 n] w (fun v w' => v = .int .i64 (N6 key n : Nat) ∧ C6 [] w w') := by
 refine Fn.pure (A5d (TW.go (κ := false) (S := []) ?_))
 unfold A0p
 by_cases c1 : n < 1
 ·(have zz:=trivial;repeat((first|clear zz|with_reducible first|refine A3 ?_|refine A4 fun _=>?_|refine A5 fun _=>?_);try simp(disch:=first|omega|assumption|((repeat(first|exact A1|exact uH|apply A2|apply uT));first|done|fail)|(simp;first|done|omega|fail))[c1]))
  exact A9 (by simp [N6, c1])
 (have zz:=trivial;repeat((first|clear zz|with_reducible first|refine A3 ?_|refine A4 fun _=>?_|refine A5 fun _=>?_);try simp(disch:=first|omega|assumption|((repeat(first|exact A1|exact uH|apply A2|apply uT));first|done|fail)|(simp;first|done|omega|fail))[c1]))
 refine B8 V5 (fun w' _ => B1G w' key hk) ?_
 obtain ⟨m, rfl⟩ : ∃ m : Nat, n = m := ⟨n.toNat, by omega⟩
 have hl := A8W key
 have hm : S1 key / 4294967296 % m < m := Nat.mod_lt _ (by omega)
 have e0 : ((S1 key : Nat) : Int).tdiv 4294967296 = (S1 key / 4294967296 : Nat) := by rw [Int.tdiv_eq_ediv_of_nonneg (by omega)]; omega
 have e1 : ((S1 key / 4294967296 : Nat) : Int).tmod m = (S1 key / 4294967296 % m : Nat) := by rw [Int.tmod_eq_emod_of_nonneg (by omega), Int.natCast_emod]
 have e2 : N6 key m = S1 key / 4294967296 % m := by simp only [N6, if_neg c1, Int.toNat_natCast]
 have hnz : ¬ (m : Int) = 0 := by omega
 rw [e2]
 (have zz:=trivial;repeat((first|clear zz|with_reducible first|refine A3 ?_|refine A4 fun _=>?_|refine A5 fun _=>?_);try simp(disch:=first|omega|assumption|((repeat(first|exact A1|exact uH|apply A2|apply uT));first|done|fail)|(simp;first|done|omega|fail))[hnz, e0, W4, N7]))
 have e3 : (((S1 key : Nat) : Int) / 4294967296).tmod m = (S1 key / 4294967296 % m : Nat) := by rw [← e1]; congr 1
 rw [e3, P8 (n := ((S1 key / 4294967296 % m : Nat) : Int)) (by omega) (by omega)]
 exact A9 (by simp)
abbrev B27 (w : World) (v : Value) (l : List EnV) (p : List G2) (key : ByteArray) (closing : Bool) (now idle : Int) : Value → WP :=
 Rn [] w (fun r x => x = .tuple #[if (D6 l p key closing now idle).2.2 then r else v, (D6 l p key closing now idle).2.1.val]) fun r => if (D6 l p key closing now idle).2.2 then [E8 r (D6 l p key closing now idle).1] else []
theorem B54 (w : World) (v u : Value) (l : List EnV) (p : List G2) (key : ByteArray) (closing : Bool) (now idle : Int) (ba : Nat) (kn : Bool) (hkn : (H8 l p key now).2 = kn) (hk : key.size < 2 ^ 60) (hks : H7 l) (hn : l.length ≤ 1000000) (hp : p.length ≤ 1000) (hv : D4 w v l.length (l.flatMap D5)) (hu : D4 w u p.length (p.flatMap E7)) (R : Value → WP) (hR : R = B27 w v l p key closing now idle) :
  TW false [] w [.pt ba (.cells #[.int .i64 0, .int .i64 0, .bool false, .int .i64 0] 44)] (
  B2 PR B7 63 [(.string key)] fun t49 =>
  B2 PR B7 62 [u, t49] fun t50 =>
  jn (n := 2) (fun t16 t12 =>
  jn (n := 1) (fun t12_1 =>
  A0 PR (binOp .add 3 (.int .i64 now) (.int .i64 idle)) fun t78 =>
  B2 PR B7 65 [v, (.string key), t16, t78] fun t79 =>
  A0 PR (Instr.extract t79 0) fun t80 =>
  A0 PR (Instr.extract t79 1) fun t81 =>
  jn (n := 1) (fun t12_2 =>
  A0 PR (Op.unary .not (.bool kn)) fun t90 =>
  A0 PR (Instr.build 44 #[(1, t16), (2, t90)]) fun t91 =>
  B6 PR B7 (Instr.storeAt 44 (.pointer (some ⟨ba, 0, none⟩)) t91) <|
  A6 PR (D0 [.v t80, .c 44 (.pointer (some ⟨ba, 0, none⟩))]) R) fun J1 =>
  A0 PR (binOp .neq 42 t81 (.int .i64 0)) fun t83 =>
  B3 t83 (
  A0 PR (Instr.build 44 #[(0, t81)]) fun t86 =>
  B6 PR B7 (Instr.storeAt 44 (.pointer (some ⟨ba, 0, none⟩)) t86) <|
  A6 PR (D0 [.v v, .c 44 (.pointer (some ⟨ba, 0, none⟩))]) R) (
  J1 t12_1)) fun J2 =>
  B3 (.bool closing) (
  B2 PR B7 64 [v, (.string key)] fun t66 =>
  A0 PR (Instr.extract t66 0) fun t67 =>
  A0 PR (Instr.extract t66 1) fun t68 =>
  A0 PR (Instr.build 44 #[(1, t16)]) fun t71 =>
  B6 PR B7 (Instr.storeAt 44 (.pointer (some ⟨ba, 0, none⟩)) t71) <|
  A6 PR (D0 [.v t67, .c 44 (.pointer (some ⟨ba, 0, none⟩))]) R) (
  J2 t12)) fun J3 =>
  B3 (.bool kn) (
  A0 PR (Instr.indexAt 79 v (.int .i64 (D3 l key))) fun t54 =>
  A0 PR (Instr.fieldAt 119 t54 2) fun t55 =>
  A6 PR (Instr.loadAt 3 t55) fun t56 =>
  J3 t56 (.slice none 0 0)) (
  A0 PR (A7 .len #[50] 0 [u]) fun t58 =>
  A0 PR (binOp .eql 3 t58 (.int .i64 0)) fun t59 =>
  B3 t59 (
  A0 PR (Instr.build 44 #[(0, (.int .i64 11))]) fun t61 =>
  B6 PR B7 (Instr.storeAt 44 (.pointer (some ⟨ba, 0, none⟩)) t61) <|
  A6 PR (D0 [.v v, .c 44 (.pointer (some ⟨ba, 0, none⟩))]) R) (
  J3 t50 (.slice none 0 0)))) := by
 subst hR
 obtain ⟨a, c, rfl, hr⟩ := hv.form
 obtain ⟨pa, pc, rfl, _⟩ := hu.form
 refine B8 V5 (fun w' _ => B1G w' key hk) ?_
 refine B8 A5z (fun w' hw' => C1H w' _ p _ hp (hu.ks hw'.ks (by simp))) ?_
 by_cases hne : (H8 l p key now).2 = false ∧ p = []
 ·obtain ⟨h1, hp0⟩ := hne
  have hd : D6 l p key closing now idle = (l, ⟨11, 0, false, 0⟩, false) := by unfold D6; rw [if_pos ⟨h1, hp0⟩]
  rw [h1] at hkn
  subst hkn hp0
  simp only [B27, hd]
  (have zz:=trivial;repeat((first|clear zz|with_reducible first|refine A3 ?_|refine A4 fun _=>?_|refine A5 fun _=>?_);try simp(disch:=first|omega|assumption|((repeat(first|exact A1|exact uH|apply A2|apply uT));first|done|fail)|(simp;first|done|omega|fail))[]))
  exact C0 .nilIface (by simp [AnsV.val]) Sels.nil
 refine C5D (Hj := [.pt ba (.cells #[.int .i64 0, .int .i64 0, .bool false, .int .i64 0] 44)]) (.int .i64 (S2 l p key now)) (.slice none 0 0) ?_ ?_
 case refine_2 =>
  intro J hJ
  cases kn with
  | true =>
   obtain ⟨k1, k2, k3, k4⟩ := C0r hkn
   have e : S2 l p key now = (e9 l key).bk := by unfold S2; rw [hkn, if_pos rfl, k4]
   have hlt := A0L k1
   obtain ⟨b, o, rfl, hrow⟩ := hr (by omega)
   have hx := (A3S k1).1
   have h3 := hrow.cellAt (f := D5) (k := 4) (j := 2) (fun _ => rfl) hx rfl
   rw [e] at hJ
   generalize D3 l key = q at *
   obtain ⟨j, rfl⟩ : ∃ j : Nat, q = j := ⟨q.toNat, by omega⟩
   have hlt' : j < l.length := by omega
   simp only [Int.toNat_natCast] at h3
   (have zz:=trivial;repeat((first|clear zz|with_reducible first|refine A3 ?_|refine A4 fun _=>?_|refine A5 fun _=>?_);try simp(disch:=first|omega|assumption|((repeat(first|exact A1|exact uH|apply A2|apply uT));first|done|fail)|(simp;first|done|omega|fail))[hlt', h3]))
   exact hJ
  | false =>
   have e : S2 l p key now = B24 p (S1 key) := by unfold S2; rw [hkn]; rfl
   have hp0 : ¬ p = [] := fun h => hne ⟨hkn, h⟩
   have hp1 : ¬ (p.length : Int) = 0 := by have := List.length_pos_iff.2 hp0; omega
   rw [e] at hJ
   (have zz:=trivial;repeat((first|clear zz|with_reducible first|refine A3 ?_|refine A4 fun _=>?_|refine A5 fun _=>?_);try simp(disch:=first|omega|assumption|((repeat(first|exact A1|exact uH|apply A2|apply uT));first|done|fail)|(simp;first|done|omega|fail))[hp0, hp1]))
   exact hJ
 rcases B7B l p key closing now idle with ⟨h1, hp0, hd⟩ | ⟨_, rfl, hd⟩ | ⟨_, rfl, hf0, hd⟩ | ⟨_, rfl, q, hpu, hd⟩
 ·exact absurd ⟨h1, hp0⟩ hne
 ·simp only [B27, hd]
  (have zz:=trivial;repeat((first|clear zz|with_reducible first|refine A3 ?_|refine A4 fun _=>?_|refine A5 fun _=>?_);try simp(disch:=first|omega|assumption|((repeat(first|exact A1|exact uH|apply A2|apply uT));first|done|fail)|(simp;first|done|omega|fail))[]))
  refine F3 A4T (fun w' hw' => B88 w' _ l key hk hks hn (hv.ks hw'.ks (by simp))) ?_
  rintro r _ rfl
  cases h2 : (U7 l key).isSome with
  | true =>
   (have zz:=trivial;repeat((first|clear zz|with_reducible first|refine A3 ?_|refine A4 fun _=>?_|refine A5 fun _=>?_);try simp(disch:=first|omega|assumption|((repeat(first|exact A1|exact uH|apply A2|apply uT));first|done|fail)|(simp;first|done|omega|fail))[]))
   exact C0 r (by simp [AnsV.val]) (by (repeat' constructor))
  | false =>
   (have zz:=trivial;repeat((first|clear zz|with_reducible first|refine A3 ?_|refine A4 fun _=>?_|refine A5 fun _=>?_);try simp(disch:=first|omega|assumption|((repeat(first|exact A1|exact uH|apply A2|apply uT));first|done|fail)|(simp;first|done|omega|fail))[]))
   exact C0 r (by simp [AnsV.val]) Sels.nil
 ·simp only [B27, hd]
  have hpn : F6 l (A7M l p key now idle) = none := by
   cases hq : F6 l (A7M l p key now idle) with
   | none => rfl
   | some u =>
    have : D6 l p key false now idle = (u, ⟨0, S2 l p key now, !(H8 l p key now).2, 0⟩, true) := by unfold D6; rw [if_neg hne, hq]; rfl
    rw [this] at hd; cases hd
  have hpn' : F6 l ⟨1, key, S2 l p key now, IntKind.i64.wrap (now + idle)⟩ = none := hpn
  (have zz:=trivial;repeat((first|clear zz|with_reducible first|refine A3 ?_|refine A4 fun _=>?_|refine A5 fun _=>?_);try simp(disch:=first|omega|assumption|((repeat(first|exact A1|exact uH|apply A2|apply uT));first|done|fail)|(simp;first|done|omega|fail))[]))
  refine F3 l5 (fun w' hw' => B2J w' _ l key (S2 l p key now) (IntKind.i64.wrap (now + idle)) hk hn (hv.ks hw'.ks (by simp))) ?_
  rintro r _ rfl
  simp only [hpn']
  (have zz:=trivial;repeat((first|clear zz|with_reducible first|refine A3 ?_|refine A4 fun _=>?_|refine A5 fun _=>?_);try simp(disch:=first|omega|assumption|((repeat(first|exact A1|exact uH|apply A2|apply uT));first|done|fail)|(simp;first|done|omega|fail))[]))
  exact C0 r (by simp [AnsV.val]) Sels.nil
 ·simp only [B27, hd]
  have hpn' : F6 l ⟨1, key, S2 l p key now, IntKind.i64.wrap (now + idle)⟩ = some q := hpu
  (have zz:=trivial;repeat((first|clear zz|with_reducible first|refine A3 ?_|refine A4 fun _=>?_|refine A5 fun _=>?_);try simp(disch:=first|omega|assumption|((repeat(first|exact A1|exact uH|apply A2|apply uT));first|done|fail)|(simp;first|done|omega|fail))[]))
  refine F3 l5 (fun w' hw' => B2J w' _ l key (S2 l p key now) (IntKind.i64.wrap (now + idle)) hk hn (hv.ks hw'.ks (by simp))) ?_
  rintro r _ rfl
  simp only [hpn']
  (have zz:=trivial;repeat((first|clear zz|with_reducible first|refine A3 ?_|refine A4 fun _=>?_|refine A5 fun _=>?_);try simp(disch:=first|omega|assumption|((repeat(first|exact A1|exact uH|apply A2|apply uT));first|done|fail)|(simp;first|done|omega|fail))[]))
  exact C0 r (by simp [AnsV.val, hkn]) (by (repeat' constructor))
theorem B84 (w : World) (v u : Value) (l : List EnV) (p : List G2) (key : ByteArray) (closing : Bool) (now idle : Int) (hk : key.size < 2 ^ 60) (hks : H7 l) (hn : l.length ≤ 1000000) (hp : p.length ≤ 1000) (hv : D4 w v l.length (l.flatMap D5)) (hu : D4 w u p.length (p.flatMap E7)) :
  Fn PR B7 46 #[v, u, .string key, .bool closing, .int .i64 now, .int .i64 idle] w
   (Rn [] w (fun r x => x = .tuple #[if (D6 l p key closing now idle).2.2 then r else v, (D6 l p key closing now idle).2.1.val]) fun r => if (D6 l p key closing now idle).2.2 then [E8 r (D6 l p key closing now idle).1] else []) := by
 refine A4f (TW.go (κ := false) (S := []) ?_)
 unfold A0G
 obtain ⟨a, c, rfl, hr⟩ := hv.form
 obtain ⟨pa, pc, rfl, _⟩ := hu.form
 (have zz:=trivial;repeat((first|clear zz|with_reducible first|refine A3 ?_|refine A4 fun _=>?_|refine A5 fun _=>?_);try simp(disch:=first|omega|assumption|((repeat(first|exact A1|exact uH|apply A2|apply uT));first|done|fail)|(simp;first|done|omega|fail))[]))
 rename_i ba
 refine B8 V1 (fun w' hw' => A57 w' _ l key hk hn (hv.ks hw'.ks (by simp))) ?_
 have tail := fun kn hkn => B54 w (.slice a l.length c) (.slice pa p.length pc) l p key closing now idle ba kn hkn hk hks hn hp hv hu _ rfl
 by_cases c1 : D3 l key < 0
 ·have hkn : (H8 l p key now).2 = false := B3c c1
  have c1' : ¬ 0 ≤ D3 l key := by omega
  (have zz:=trivial;repeat((first|clear zz|with_reducible first|refine A3 ?_|refine A4 fun _=>?_|refine A5 fun _=>?_);try simp(disch:=first|omega|assumption|((repeat(first|exact A1|exact uH|apply A2|apply uT));first|done|fail)|(simp;first|done|omega|fail))[c1, c1']))
  exact tail false hkn
 have k1 : 0 ≤ D3 l key := by omega
 have hlt := A0L k1
 obtain ⟨b, o, rfl, hrow⟩ := hr (by omega)
 have hx := (A3S k1).1
 have h2 := hrow.cellAt (f := D5) (k := 4) (j := 2) (fun _ => rfl) hx rfl
 have h3 := hrow.cellAt (f := D5) (k := 4) (j := 3) (fun _ => rfl) hx rfl
 obtain ⟨j, hj⟩ : ∃ j : Nat, D3 l key = j := ⟨(D3 l key).toNat, by omega⟩
 rw [hj] at k1 hlt h2 h3
 rw [hj] at tail
 simp only [Int.toNat_natCast] at h2 h3 hlt
 rw [hj]
 have hkv : (H8 l p key now).2 = !(decide ((e9 l key).dl < now) || decide (Z1 p (e9 l key).bk < 0)) := by
  unfold H8
  by_cases d1 : (e9 l key).dl < now
  ·rw [if_pos (Or.inr (Or.inl d1))]; simp [d1]
  ·by_cases d2 : Z1 p (e9 l key).bk < 0
   ·rw [if_pos (Or.inr (Or.inr d2))]; simp [d2]
   ·rw [if_neg (by omega)]; simp [d1, d2]
 by_cases c2 : now ≤ (e9 l key).dl
 ·have d1 : ¬ (e9 l key).dl < now := by omega
  (have zz:=trivial;repeat((first|clear zz|with_reducible first|refine A3 ?_|refine A4 fun _=>?_|refine A5 fun _=>?_);try simp(disch:=first|omega|assumption|((repeat(first|exact A1|exact uH|apply A2|apply uT));first|done|fail)|(simp;first|done|omega|fail))[k1, hlt, h2, h3, c2]))
  refine B8 A0s (fun w' hw' => B5g w' _ p _ (by omega) (hu.ks hw'.ks (by simp))) ?_
  by_cases c3 : 0 ≤ Z1 p (e9 l key).bk
  ·have d2 : ¬ Z1 p (e9 l key).bk < 0 := by omega
   (have zz:=trivial;repeat((first|clear zz|with_reducible first|refine A3 ?_|refine A4 fun _=>?_|refine A5 fun _=>?_);try simp(disch:=first|omega|assumption|((repeat(first|exact A1|exact uH|apply A2|apply uT));first|done|fail)|(simp;first|done|omega|fail))[k1, hlt, h2, h3, c2, c3]))
   exact tail true (by rw [hkv]; simp [d1, d2])
  ·have d2 : Z1 p (e9 l key).bk < 0 := by omega
   (have zz:=trivial;repeat((first|clear zz|with_reducible first|refine A3 ?_|refine A4 fun _=>?_|refine A5 fun _=>?_);try simp(disch:=first|omega|assumption|((repeat(first|exact A1|exact uH|apply A2|apply uT));first|done|fail)|(simp;first|done|omega|fail))[k1, hlt, h2, h3, c2, c3]))
   exact tail false (by rw [hkv]; simp [d2])
 ·have d1 : (e9 l key).dl < now := by omega
  (have zz:=trivial;repeat((first|clear zz|with_reducible first|refine A3 ?_|refine A4 fun _=>?_|refine A5 fun _=>?_);try simp(disch:=first|omega|assumption|((repeat(first|exact A1|exact uH|apply A2|apply uT));first|done|fail)|(simp;first|done|omega|fail))[k1, hlt, h2, h3, c2]))
  exact tail false (by rw [hkv]; simp [d1])
end Go.Proofs.YtlplkjgcfjdinaaGreat
namespace Go.Proofs.YtlplkjgcfjdinaaGreat
open Go
def A0m (X : Nat → Prop) (t0 : Value) (R : Value → WP) : WP :=
 B1 PR X (Instr.alloc 110 true (.tuple #[])) fun t2 =>
 jn (n := 1) (fun t3 =>
 B2 PR X 79 [t0] fun t13 =>
 B1 PR X (Instr.alloc 137 true (.tuple #[])) fun t4 =>
 B6 PR X (Instr.storeAt 137 t4 t13) <|
 jn (n := 1) (fun t3_1 =>
 A0 PR (Instr.fieldAt 137 t4 3) fun t21 =>
 A6 PR (Instr.loadAt 3 t21) fun t22 =>
 A0 PR (Instr.fieldAt 137 t4 2) fun t23 =>
 A6 PR (Instr.loadAt 9 t23) fun t24 =>
 B2 PR X 80 [t22, t24] fun t25 =>
 A0 PR (Instr.extract t25 0) fun t26 =>
 A0 PR (Instr.extract t25 1) fun t27 =>
 B1 PR X (Instr.alloc 140 true (.tuple #[])) fun t5 =>
 B6 PR X (Instr.storeAt 140 t5 t26) <|
 jn (n := 1) (fun t3_2 =>
 drw <|
 A0 PR (Instr.index 9 t0 (.int .i64 0)) fun t33 =>
 A0 PR (binOp .quo 5 t33 (.int .u8 16)) fun t34 =>
 A0 PR (convert 5 3 t34) fun t35 =>
 A0 PR (Instr.fieldAt 137 t4 0) fun t36 =>
 A6 PR (Instr.loadAt 9 t36) fun t37 =>
 A0 PR (Instr.fieldAt 137 t4 1) fun t38 =>
 A6 PR (Instr.loadAt 9 t38) fun t39 =>
 A0 PR (Instr.fieldAt 140 t5 0) fun t40 =>
 A6 PR (Instr.loadAt 3 t40) fun t41 =>
 A0 PR (Instr.fieldAt 140 t5 1) fun t42 =>
 A6 PR (Instr.loadAt 3 t42) fun t43 =>
 A0 PR (Instr.fieldAt 137 t4 3) fun t44 =>
 A6 PR (Instr.loadAt 3 t44) fun t45 =>
 A0 PR (Instr.build 108 #[(0, t35), (1, t37), (2, t39), (3, t41), (4, t43), (5, t45)]) fun t46 =>
 B1 PR X (Instr.alloc 108 true (.tuple #[])) fun t7 =>
 watch PR [(none, (Instr.loadAt 3 t44), t45), (none, (Instr.loadAt 3 t42), t43), (none, (Instr.loadAt 3 t40), t41), (none, (Instr.loadAt 9 t38), t39), (none, (Instr.loadAt 9 t36), t37)] <|
 B6 PR X (Instr.storeAt 108 t7 t46) <|
 A6 PR (Instr.loadAt 108 t7) fun t47 =>
 A0 PR (Instr.fieldAt 140 t5 2) fun t48 =>
 A6 PR (Instr.loadAt 3 t48) fun t49 =>
 A0 PR (Instr.build 110 #[(0, t47), (1, t49)]) fun t50 =>
 B6 PR X (Instr.storeAt 110 t2 t50) <|
 A6 PR (D0 [.c 110 t2, .v (.int .i64 0)]) R) fun J1 =>
 A0 PR (binOp .neq 42 t27 (.int .i64 0)) fun t29 =>
 B3 t29 (
 A0 PR (Instr.build 110 #[]) fun t30 =>
 B6 PR X (Instr.storeAt 110 t2 t30) <|
 A6 PR (D0 [.c 110 t2, .v t27]) R) (
 J1 t3_1)) fun J2 =>
 A0 PR (Instr.fieldAt 137 t4 4) fun t14 =>
 A6 PR (Instr.loadAt 42 t14) fun t15 =>
 A0 PR (binOp .neq 42 t15 (.int .i64 0)) fun t16 =>
 B3 t16 (
 drw <|
 A0 PR (Instr.build 110 #[]) fun t17 =>
 A0 PR (Instr.fieldAt 137 t4 4) fun t18 =>
 A6 PR (Instr.loadAt 42 t18) fun t19 =>
 B6 PR X (Instr.storeAt 110 t2 t17) <|
 watch PR [(none, (Instr.loadAt 42 t18), t19)] <|
 A6 PR (D0 [.c 110 t2, .v t19]) R) (
 J2 t3)) fun J3 =>
 A0 PR (A7 .len #[9] 0 [t0]) fun t9 =>
 A0 PR (binOp .eql 3 t9 (.int .i64 0)) fun t10 =>
 B3 t10 (
 A0 PR (Instr.build 110 #[]) fun t11 =>
 B6 PR X (Instr.storeAt 110 t2 t11) <|
 A6 PR (D0 [.c 110 t2, .v (.int .i64 2)]) R) (
 J3 (.int .i64 0))
theorem A4v : B0 PR 56 := A8 Tryz.func56 (by kernel_rfl) rfl
theorem A5V {X : Nat → Prop} {t0 : Value} {R : Value → WP} {w : World} (h : A0m X t0 R w) : Fn PR X 56 #[t0] w R := C7 (args := [t0]) mixed Tryz.func56 (by kernel_rfl) h
def A0k (X : Nat → Prop) (t0 : Value) (R : Value → WP) : WP :=
 B1 PR X (Instr.box 108 t0) fun t1 =>
 jn (n := 2) (fun t2 t3 =>
 drw <|
 A0 PR (Instr.fieldAt 108 t1 0) fun t9 =>
 A6 PR (Instr.loadAt 3 t9) fun t10 =>
 A0 PR (convert 3 122 t10) fun t11 =>
 A0 PR (Instr.fieldAt 108 t1 5) fun t13 =>
 A6 PR (Instr.loadAt 3 t13) fun t14 =>
 A0 PR (convert 3 122 t14) fun t15 =>
 B2 PR X 82 [t11, (.int .i64 1)] fun t12 =>
 watch PR [(none, (Instr.loadAt 3 t13), t14)] <|
 B2 PR X 82 [t15, (.int .i64 1)] fun t16 =>
 A0 PR (binOp .add 9 t12 t16) fun t17 =>
 drw <|
 A0 PR (Instr.fieldAt 108 t1 3) fun t18 =>
 A6 PR (Instr.loadAt 3 t18) fun t19 =>
 A0 PR (convert 3 122 t19) fun t20 =>
 A0 PR (Instr.fieldAt 108 t1 4) fun t22 =>
 A6 PR (Instr.loadAt 3 t22) fun t23 =>
 A0 PR (convert 3 122 t23) fun t24 =>
 B2 PR X 82 [t20, (.int .i64 2)] fun t21 =>
 watch PR [(none, (Instr.loadAt 3 t22), t23)] <|
 B2 PR X 82 [t24, (.int .i64 2)] fun t25 =>
 A0 PR (binOp .add 9 t21 t25) fun t26 =>
 drw <|
 A0 PR (binOp .add 9 t17 t26) fun t29 =>
 A0 PR (Instr.fieldAt 108 t1 1) fun t30 =>
 A6 PR (Instr.loadAt 9 t30) fun t31 =>
 A0 PR (Instr.fieldAt 108 t1 2) fun t34 =>
 A6 PR (Instr.loadAt 9 t34) fun t35 =>
 B2 PR X 83 [t31] fun t32 =>
 watch PR [(none, (Instr.loadAt 9 t34), t35)] <|
 A0 PR (binOp .add 9 t29 t32) fun t33 =>
 B2 PR X 83 [t35] fun t36 =>
 A0 PR (binOp .add 9 t33 t36) fun t37 =>
 R (.tuple #[t37, (.bool true)])) fun J1 =>
 A6 PR (Instr.loadAt 108 t1) fun t6 =>
 B2 PR X 81 [t6] fun t7 =>
 A0 PR (Op.unary .not t7) fun t8 =>
 B3 t8 (
 R (.tuple #[(.string (ByteArray.mk #[])), (.bool false)])) (
 J1 (.string (ByteArray.mk #[])) (.bool false))
theorem A5F : B0 PR 57 := A8 Tryz.func57 (by kernel_rfl) rfl
theorem A5Z {X : Nat → Prop} {t0 : Value} {R : Value → WP} {w : World} (h : A0k X t0 R w) : Fn PR X 57 #[t0] w R := C7 (args := [t0]) mixed Tryz.func57 (by kernel_rfl) h
def y0 (X : Nat → Prop) (t0 : Value) (R : Value → WP) : WP :=
 B1 PR X (Instr.box 110 t0) fun t1 =>
 A0 PR (Instr.fieldAt 110 t1 0) fun t3 =>
 A0 PR (Instr.fieldAt 108 t3 5) fun t4 =>
 A6 PR (Instr.loadAt 3 t4) fun t5 =>
 A0 PR (binOp .eql 3 t5 (.int .i64 6)) fun t6 =>
 gj t6 true (fun J => A0 PR (Instr.fieldAt 110 t1 1) J) fun t8 =>
 gj t6 true (fun J => A6 PR (Instr.loadAt 3 t8) J) fun t9 =>
 gj t6 true (fun J => A0 PR (binOp .and 3 t9 (.int .i64 1)) J) fun t10 =>
 gj t6 true (fun J => A0 PR (binOp .eql 3 t10 (.int .i64 1)) J) fun t11 =>
 gj t6 true (fun J => J t11) fun t12 =>
 gj t12 false (fun J => A0 PR (Instr.fieldAt 110 t1 1) J) fun t13 =>
 gj t12 false (fun J => A6 PR (Instr.loadAt 3 t13) J) fun t14 =>
 gj t12 false (fun J => A0 PR (binOp .and 3 t14 (.int .i64 4)) J) fun t15 =>
 gj t12 false (fun J => A0 PR (binOp .eql 3 t15 (.int .i64 4)) J) fun t16 =>
 gj t6 true (fun J => A0 PR (do pure (if ← asBool t12 then (.bool true) else t16)) J) fun t17 =>
 A0 PR (do pure (if ← asBool t6 then t17 else (.bool false))) fun t18 =>
 R t18
theorem A3z : B0 PR 59 := A8 Tryz.func59 (by kernel_rfl) rfl
theorem A4J {X : Nat → Prop} {t0 : Value} {R : Value → WP} {w : World} (h : y0 X t0 R w) : Fn PR X 59 #[t0] w R := C7 (args := [t0]) mixed Tryz.func59 (by kernel_rfl) h
def A1A (X : Nat → Prop) (t0 : Value) (R : Value → WP) : WP :=
 B1 PR X (Instr.alloc 137 true (.tuple #[])) fun t2 =>
 jn (n := 0) (
 jn (n := 0) (
 A0 PR (Instr.build 137 #[(4, (.int .i64 3))]) fun t47 =>
 B6 PR X (Instr.storeAt 137 t2 t47) <|
 A6 PR (D0 [.c 137 t2]) R) fun J1 =>
 A0 PR (Instr.index 9 t0 (.int .i64 0)) fun t29 =>
 A0 PR (binOp .quo 5 t29 (.int .u8 16)) fun t30 =>
 A0 PR (binOp .eql 5 t30 (.int .u8 6)) fun t31 =>
 B3 t31 (
 B2 PR X 108 [t0] fun t34 =>
 A0 PR (Instr.extract t34 0) fun t35 =>
 A0 PR (Instr.extract t34 1) fun t36 =>
 A0 PR (Instr.extract t34 2) fun t37 =>
 B1 PR X (Instr.alloc 175 true (.tuple #[])) fun t6 =>
 B6 PR X (Instr.storeAt 175 t6 t35) <|
 A0 PR (Instr.fieldAt 175 t6 0) fun t38 =>
 A6 PR (Instr.loadAt 9 t38) fun t39 =>
 A0 PR (Instr.fieldAt 175 t6 1) fun t40 =>
 A6 PR (Instr.loadAt 9 t40) fun t41 =>
 A0 PR (Instr.fieldAt 175 t6 2) fun t43 =>
 A6 PR (Instr.loadAt 3 t43) fun t44 =>
 A0 PR (Instr.build 137 #[(0, t39), (1, t41), (2, t36), (3, t44), (4, t37)]) fun t46 =>
 B6 PR X (Instr.storeAt 137 t2 t46) <|
 A6 PR (D0 [.c 137 t2]) R) (
 J1)) fun J2 =>
 A0 PR (Instr.index 9 t0 (.int .i64 0)) fun t10 =>
 A0 PR (binOp .quo 5 t10 (.int .u8 16)) fun t11 =>
 A0 PR (binOp .eql 5 t11 (.int .u8 4)) fun t12 =>
 B3 t12 (
 B2 PR X 107 [t0] fun t15 =>
 A0 PR (Instr.extract t15 0) fun t16 =>
 A0 PR (Instr.extract t15 1) fun t17 =>
 A0 PR (Instr.extract t15 2) fun t18 =>
 B1 PR X (Instr.alloc 172 true (.tuple #[])) fun t3 =>
 B6 PR X (Instr.storeAt 172 t3 t16) <|
 A0 PR (Instr.fieldAt 172 t3 0) fun t19 =>
 A6 PR (Instr.loadAt 9 t19) fun t20 =>
 A0 PR (Instr.fieldAt 172 t3 1) fun t21 =>
 A6 PR (Instr.loadAt 9 t21) fun t22 =>
 A0 PR (Instr.fieldAt 172 t3 2) fun t24 =>
 A6 PR (Instr.loadAt 3 t24) fun t25 =>
 A0 PR (Instr.build 137 #[(0, t20), (1, t22), (2, t17), (3, t25), (4, t18)]) fun t27 =>
 B6 PR X (Instr.storeAt 137 t2 t27) <|
 A6 PR (D0 [.c 137 t2]) R) (
 J2)
theorem A5n : B0 PR 79 := A8 Tryz.func79 (by kernel_rfl) rfl
theorem A61 {X : Nat → Prop} {t0 : Value} {R : Value → WP} {w : World} (h : A1A X t0 R w) : Fn PR X 79 #[t0] w R := C7 (args := [t0]) mixed Tryz.func79 (by kernel_rfl) h
def A0j (X : Nat → Prop) (t0 : Value) (R : Value → WP) : WP :=
 B1 PR X (Instr.box 108 t0) fun t1 =>
 A0 PR (Instr.fieldAt 108 t1 0) fun t6 =>
 A6 PR (Instr.loadAt 3 t6) fun t7 =>
 A0 PR (binOp .eql 3 t7 (.int .i64 4)) fun t8 =>
 gj t8 true (fun J => A0 PR (Instr.fieldAt 108 t1 1) J) fun t10 =>
 gj t8 true (fun J => A6 PR (Instr.loadAt 9 t10) J) fun t11 =>
 gj t8 true (fun J => A0 PR (A7 .len #[9] 0 [t11]) J) fun t12 =>
 gj t8 true (fun J => A0 PR (binOp .eql 3 t12 (.int .i64 4)) J) fun t13 =>
 A0 PR (do pure (if ← asBool t8 then t13 else (.bool false))) fun t14 =>
 gj t14 true (fun J => A0 PR (Instr.fieldAt 108 t1 2) J) fun t16 =>
 gj t14 true (fun J => A6 PR (Instr.loadAt 9 t16) J) fun t17 =>
 gj t14 true (fun J => A0 PR (A7 .len #[9] 0 [t17]) J) fun t18 =>
 gj t14 true (fun J => A0 PR (binOp .eql 3 t18 (.int .i64 4)) J) fun t19 =>
 A0 PR (do pure (if ← asBool t14 then t19 else (.bool false))) fun t20 =>
 A0 PR (Instr.fieldAt 108 t1 0) fun t21 =>
 A6 PR (Instr.loadAt 3 t21) fun t22 =>
 A0 PR (binOp .eql 3 t22 (.int .i64 6)) fun t23 =>
 gj t23 true (fun J => A0 PR (Instr.fieldAt 108 t1 1) J) fun t25 =>
 gj t23 true (fun J => A6 PR (Instr.loadAt 9 t25) J) fun t26 =>
 gj t23 true (fun J => A0 PR (A7 .len #[9] 0 [t26]) J) fun t27 =>
 gj t23 true (fun J => A0 PR (binOp .eql 3 t27 (.int .i64 16)) J) fun t28 =>
 A0 PR (do pure (if ← asBool t23 then t28 else (.bool false))) fun t29 =>
 gj t29 true (fun J => A0 PR (Instr.fieldAt 108 t1 2) J) fun t31 =>
 gj t29 true (fun J => A6 PR (Instr.loadAt 9 t31) J) fun t32 =>
 gj t29 true (fun J => A0 PR (A7 .len #[9] 0 [t32]) J) fun t33 =>
 gj t29 true (fun J => A0 PR (binOp .eql 3 t33 (.int .i64 16)) J) fun t34 =>
 A0 PR (do pure (if ← asBool t29 then t34 else (.bool false))) fun t35 =>
 A0 PR (Instr.fieldAt 108 t1 3) fun t36 =>
 A6 PR (Instr.loadAt 3 t36) fun t37 =>
 A0 PR (binOp .geq 3 t37 (.int .i64 0)) fun t38 =>
 gj t38 true (fun J => A0 PR (Instr.fieldAt 108 t1 3) J) fun t40 =>
 gj t38 true (fun J => A6 PR (Instr.loadAt 3 t40) J) fun t41 =>
 gj t38 true (fun J => A0 PR (binOp .leq 3 t41 (.int .i64 65535)) J) fun t42 =>
 A0 PR (do pure (if ← asBool t38 then t42 else (.bool false))) fun t43 =>
 gj t43 true (fun J => A0 PR (Instr.fieldAt 108 t1 4) J) fun t45 =>
 gj t43 true (fun J => A6 PR (Instr.loadAt 3 t45) J) fun t46 =>
 gj t43 true (fun J => A0 PR (binOp .geq 3 t46 (.int .i64 0)) J) fun t47 =>
 A0 PR (do pure (if ← asBool t43 then t47 else (.bool false))) fun t48 =>
 gj t48 true (fun J => A0 PR (Instr.fieldAt 108 t1 4) J) fun t50 =>
 gj t48 true (fun J => A6 PR (Instr.loadAt 3 t50) J) fun t51 =>
 gj t48 true (fun J => A0 PR (binOp .leq 3 t51 (.int .i64 65535)) J) fun t52 =>
 A0 PR (do pure (if ← asBool t48 then t52 else (.bool false))) fun t53 =>
 gj t20 false (fun J => J t35) fun t56 =>
 A0 PR (do pure (if ← asBool t20 then (.bool true) else t56)) fun t57 =>
 gj t57 true (fun J => J t53) fun t59 =>
 A0 PR (do pure (if ← asBool t57 then t59 else (.bool false))) fun t60 =>
 gj t60 true (fun J => A0 PR (Instr.fieldAt 108 t1 5) J) fun t62 =>
 gj t60 true (fun J => A6 PR (Instr.loadAt 3 t62) J) fun t63 =>
 gj t60 true (fun J => A0 PR (binOp .eql 3 t63 (.int .i64 6)) J) fun t64 =>
 gj t60 true (fun J => J t64) fun t65 =>
 gj t65 false (fun J => A0 PR (Instr.fieldAt 108 t1 5) J) fun t66 =>
 gj t65 false (fun J => A6 PR (Instr.loadAt 3 t66) J) fun t67 =>
 gj t65 false (fun J => A0 PR (binOp .eql 3 t67 (.int .i64 17)) J) fun t68 =>
 gj t60 true (fun J => A0 PR (do pure (if ← asBool t65 then (.bool true) else t68)) J) fun t69 =>
 A0 PR (do pure (if ← asBool t60 then t69 else (.bool false))) fun t70 =>
 R t70
theorem A4r : B0 PR 81 := A8 Tryz.func81 (by kernel_rfl) rfl
theorem A5b {X : Nat → Prop} {t0 : Value} {R : Value → WP} {w : World} (h : A0j X t0 R w) : Fn PR X 81 #[t0] w R := C7 (args := [t0]) mixed Tryz.func81 (by kernel_rfl) h
def A1d (X : Nat → Prop) (t0 : Value) (R : Value → WP) : WP :=
 jn (n := 1) (fun t0_1 =>
 R t0_1) fun J1 =>
 lp (n := 1) (fun L2 t0_2 =>
 jn (n := 0) (
 A0 PR (binOp .add 9 t0_2 (.string (ByteArray.mk #[0]))) fun t7 =>
 L2 t7) fun J3 =>
 A0 PR (A7 .len #[9] 0 [t0_2]) fun t4 =>
 A0 PR (binOp .lss 3 t4 (.int .i64 16)) fun t5 =>
 B3 t5 (
 J3) (
 J1 t0_2)) t0
theorem A00 : B0 PR 83 := A8 Tryz.func83 (by kernel_rfl) rfl
theorem A67 {X : Nat → Prop} {t0 : Value} {R : Value → WP} {w : World} (h : A1d X t0 R w) : Fn PR X 83 #[t0] w R := C7 (args := [t0]) mixed Tryz.func83 (by kernel_rfl) h
end Go.Proofs.YtlplkjgcfjdinaaGreat
namespace Go.Proofs.YtlplkjgcfjdinaaGreat
open Go
def A0w (X : Nat → Prop) (t0 : Value) (R : Value → WP) : WP :=
 B1 PR X (Instr.alloc 175 true (.tuple #[])) fun t2 =>
 jn (n := 2) (fun t3 t4 =>
 jn (n := 2) (fun t3_1 t4_1 =>
 B2 PR X 109 [t0, (.int .i64 4)] fun t16 =>
 jn (n := 2) (fun t3_2 t4_2 =>
 drw <|
 A0 PR (Instr.sliceAt 9 t0 (some (.int .i64 8)) (some (.int .i64 24)) none) fun t24 =>
 A0 PR (Instr.sliceAt 9 t0 (some (.int .i64 24)) (some (.int .i64 40)) none) fun t26 =>
 A0 PR (Instr.index 9 t0 (.int .i64 6)) fun t28 =>
 A0 PR (convert 5 3 t28) fun t29 =>
 A0 PR (Instr.build 175 #[(0, t24), (1, t26), (2, t29)]) fun t30 =>
 A0 PR (binOp .add 3 (.int .i64 40) t16) fun t33 =>
 A0 PR (Instr.sliceAt 9 t0 (some (.int .i64 40)) (some t33) none) fun t34 =>
 B6 PR X (Instr.storeAt 175 t2 t30) <|
 A6 PR (D0 [.c 175 t2, .v t34, .v (.int .i64 0)]) R) fun J1 =>
 A0 PR (A7 .len #[9] 0 [t0]) fun t19 =>
 A0 PR (binOp .sub 3 t19 (.int .i64 40)) fun t20 =>
 A0 PR (binOp .gtr 3 t16 t20) fun t21 =>
 B3 t21 (
 A0 PR (Instr.build 175 #[]) fun t22 =>
 B6 PR X (Instr.storeAt 175 t2 t22) <|
 A6 PR (D0 [.c 175 t2, .v (.string (ByteArray.mk #[])), .v (.int .i64 4)]) R) (
 J1 t3_1 t4_1)) fun J2 =>
 A0 PR (Instr.index 9 t0 (.int .i64 0)) fun t11 =>
 A0 PR (binOp .quo 5 t11 (.int .u8 16)) fun t12 =>
 A0 PR (binOp .neq 5 t12 (.int .u8 6)) fun t13 =>
 B3 t13 (
 A0 PR (Instr.build 175 #[]) fun t14 =>
 B6 PR X (Instr.storeAt 175 t2 t14) <|
 A6 PR (D0 [.c 175 t2, .v (.string (ByteArray.mk #[])), .v (.int .i64 3)]) R) (
 J2 t3 t4)) fun J3 =>
 A0 PR (A7 .len #[9] 0 [t0]) fun t7 =>
 A0 PR (binOp .lss 3 t7 (.int .i64 40)) fun t8 =>
 B3 t8 (
 A0 PR (Instr.build 175 #[]) fun t9 =>
 B6 PR X (Instr.storeAt 175 t2 t9) <|
 A6 PR (D0 [.c 175 t2, .v (.string (ByteArray.mk #[])), .v (.int .i64 2)]) R) (
 J3 (.string (ByteArray.mk #[])) (.int .i64 0))
theorem A40 : B0 PR 108 := A8 Tryz.func108 (by kernel_rfl) rfl
theorem A5x {X : Nat → Prop} {t0 : Value} {R : Value → WP} {w : World} (h : A0w X t0 R w) : Fn PR X 108 #[t0] w R := C7 (args := [t0]) mixed Tryz.func108 (by kernel_rfl) h
end Go.Proofs.YtlplkjgcfjdinaaGreat
namespace Go.Proofs.YtlplkjgcfjdinaaGreat
open Go
def A04 (X : Nat → Prop) (t0 t1 : Value) (R : Value → WP) : WP :=
 B1 PR X (Instr.alloc 140 true (.tuple #[])) fun t4 =>
 jn (n := 1) (fun t5 =>
 jn (n := 1) (fun t5_1 =>
 B2 PR X 109 [t1, (.int .i64 0)] fun t30 =>
 B2 PR X 109 [t1, (.int .i64 2)] fun t32 =>
 A0 PR (Instr.build 140 #[(0, t30), (1, t32)]) fun t33 =>
 B1 PR X (Instr.alloc 140 true (.tuple #[])) fun t6 =>
 B6 PR X (Instr.storeAt 140 t6 t33) <|
 jn (n := 1) (fun t5_2 =>
 A0 PR (Instr.index 9 t1 (.int .i64 12)) fun t49 =>
 A0 PR (binOp .quo 5 t49 (.int .u8 16)) fun t50 =>
 A0 PR (convert 5 3 t50) fun t51 =>
 A0 PR (binOp .mul 3 t51 (.int .i64 4)) fun t52 =>
 jn (n := 1) (fun t5_3 =>
 A0 PR (Instr.index 9 t1 (.int .i64 13)) fun t63 =>
 A0 PR (convert 5 3 t63) fun t64 =>
 A0 PR (Instr.fieldAt 140 t6 2) fun t65 =>
 B6 PR X (Instr.storeAt 3 t65 t64) <|
 A6 PR (Instr.loadAt 140 t6) fun t66 =>
 B6 PR X (Instr.storeAt 140 t4 t66) <|
 A6 PR (D0 [.c 140 t4, .v (.int .i64 0)]) R) fun J1 =>
 A0 PR (binOp .lss 3 t52 (.int .i64 20)) fun t54 =>
 gj t54 false (fun J => J t52) fun t56 =>
 gj t54 false (fun J => J t1) fun t57 =>
 gj t54 false (fun J => A0 PR (A7 .len #[9] 0 [t57]) J) fun t58 =>
 gj t54 false (fun J => A0 PR (binOp .gtr 3 t56 t58) J) fun t59 =>
 A0 PR (do pure (if ← asBool t54 then (.bool true) else t59)) fun t60 =>
 B3 t60 (
 A0 PR (Instr.build 140 #[]) fun t61 =>
 B6 PR X (Instr.storeAt 140 t4 t61) <|
 A6 PR (D0 [.c 140 t4, .v (.int .i64 8)]) R) (
 J1 t5_2)) fun J2 =>
 A0 PR (binOp .eql 3 t0 (.int .i64 17)) fun t35 =>
 B3 t35 (
 B2 PR X 109 [t1, (.int .i64 4)] fun t37 =>
 jn (n := 1) (fun t5_4 =>
 A6 PR (Instr.loadAt 140 t6) fun t47 =>
 B6 PR X (Instr.storeAt 140 t4 t47) <|
 A6 PR (D0 [.c 140 t4, .v (.int .i64 0)]) R) fun J3 =>
 A0 PR (binOp .lss 3 t37 (.int .i64 8)) fun t39 =>
 gj t39 false (fun J => J t37) fun t41 =>
 gj t39 false (fun J => J t1) fun t42 =>
 gj t39 false (fun J => A0 PR (A7 .len #[9] 0 [t42]) J) fun t43 =>
 gj t39 false (fun J => A0 PR (binOp .gtr 3 t41 t43) J) fun t44 =>
 A0 PR (do pure (if ← asBool t39 then (.bool true) else t44)) fun t45 =>
 B3 t45 (
 A0 PR (Instr.build 140 #[]) fun t46 =>
 B6 PR X (Instr.storeAt 140 t4 t46) <|
 A6 PR (D0 [.c 140 t4, .v (.int .i64 4)]) R) (
 J3 t5_1)) (
 J2 t5_1)) fun J4 =>
 A0 PR (binOp .eql 3 t0 (.int .i64 6)) fun t17 =>
 gj t17 true (fun J => J t1) fun t19 =>
 gj t17 true (fun J => A0 PR (A7 .len #[9] 0 [t19]) J) fun t20 =>
 gj t17 true (fun J => A0 PR (binOp .lss 3 t20 (.int .i64 20)) J) fun t21 =>
 A0 PR (do pure (if ← asBool t17 then t21 else (.bool false))) fun t22 =>
 gj t22 false (fun J => J t1) fun t24 =>
 gj t22 false (fun J => A0 PR (A7 .len #[9] 0 [t24]) J) fun t25 =>
 gj t22 false (fun J => A0 PR (binOp .lss 3 t25 (.int .i64 8)) J) fun t26 =>
 A0 PR (do pure (if ← asBool t22 then (.bool true) else t26)) fun t27 =>
 B3 t27 (
 A0 PR (Instr.build 140 #[]) fun t28 =>
 B6 PR X (Instr.storeAt 140 t4 t28) <|
 A6 PR (D0 [.c 140 t4, .v (.int .i64 2)]) R) (
 J4 t5)) fun J5 =>
 A0 PR (binOp .neq 3 t0 (.int .i64 6)) fun t10 =>
 gj t10 true (fun J => J t0) fun t12 =>
 gj t10 true (fun J => A0 PR (binOp .neq 3 t12 (.int .i64 17)) J) fun t13 =>
 A0 PR (do pure (if ← asBool t10 then t13 else (.bool false))) fun t14 =>
 B3 t14 (
 A0 PR (Instr.build 140 #[]) fun t15 =>
 B6 PR X (Instr.storeAt 140 t4 t15) <|
 A6 PR (D0 [.c 140 t4, .v (.int .i64 7)]) R) (
 J5 (.int .i64 0))
theorem A5D : B0 PR 80 := A8 Tryz.func80 (by kernel_rfl) rfl
theorem A5v {X : Nat → Prop} {t0 t1 : Value} {R : Value → WP} {w : World} (h : A04 X t0 t1 R w) : Fn PR X 80 #[t0, t1] w R := C7 (args := [t0, t1]) mixed Tryz.func80 (by kernel_rfl) h
end Go.Proofs.YtlplkjgcfjdinaaGreat
namespace Go.Proofs.YtlplkjgcfjdinaaGreat
open Go
def A1W (X : Nat → Prop) (t0 : Value) (R : Value → WP) : WP :=
 B2 PR X 163 [t0] fun t4 =>
 A0 PR (binOp .eql 3 t4 (.int .i64 65535)) fun t5 =>
 R t5
theorem A5w : B0 PR 138 := A8 Tryz.func138 (by kernel_rfl) rfl
theorem A7U {X : Nat → Prop} {t0 : Value} {R : Value → WP} {w : World} (h : A1W X t0 R w) : Fn PR X 138 #[t0] w R := C7 (args := [t0]) mixed Tryz.func138 (by kernel_rfl) h
def A1g (X : Nat → Prop) (t0 : Value) (R : Value → WP) : WP :=
 jn (n := 2) (fun t3 t4 =>
 R t3) fun J1 =>
 lp (n := 2) (fun L2 t3_1 t4_1 =>
 jn (n := 0) (
 jn (n := 1) (fun t3_2 =>
 A0 PR (binOp .add 3 t4_1 (.int .i64 2)) fun t10 =>
 L2 t3_2 t10) fun J3 =>
 A0 PR (Instr.index 9 t0 t4_1) fun t14 =>
 A0 PR (convert 5 3 t14) fun t15 =>
 A0 PR (binOp .mul 3 t15 (.int .i64 256)) fun t16 =>
 A0 PR (binOp .add 3 t3_1 t16) fun t17 =>
 jn (n := 1) (fun t3_3 =>
 A0 PR (binOp .gtr 3 t3_3 (.int .i64 65535)) fun t31 =>
 B3 t31 (
 A0 PR (binOp .rem 3 t3_3 (.int .i64 65536)) fun t33 =>
 A0 PR (binOp .add 3 t33 (.int .i64 1)) fun t34 =>
 J3 t34) (
 J3 t3_3)) fun J4 =>
 A0 PR (binOp .add 3 t4_1 (.int .i64 1)) fun t19 =>
 A0 PR (A7 .len #[9] 0 [t0]) fun t21 =>
 A0 PR (binOp .lss 3 t19 t21) fun t22 =>
 B3 t22 (
 A0 PR (binOp .add 3 t4_1 (.int .i64 1)) fun t26 =>
 A0 PR (Instr.index 9 t0 t26) fun t27 =>
 A0 PR (convert 5 3 t27) fun t28 =>
 A0 PR (binOp .add 3 t17 t28) fun t29 =>
 J4 t29) (
 J4 t17)) fun J5 =>
 A0 PR (A7 .len #[9] 0 [t0]) fun t7 =>
 A0 PR (binOp .lss 3 t4_1 t7) fun t8 =>
 B3 t8 (
 J5) (
 J1 t3_1 t4_1)) (.int .i64 0) (.int .i64 0)
theorem A51 : B0 PR 163 := A8 Tryz.func163 (by kernel_rfl) rfl
theorem A6r {X : Nat → Prop} {t0 : Value} {R : Value → WP} {w : World} (h : A1g X t0 R w) : Fn PR X 163 #[t0] w R := C7 (args := [t0]) mixed Tryz.func163 (by kernel_rfl) h
end Go.Proofs.YtlplkjgcfjdinaaGreat
namespace Go.Proofs.YtlplkjgcfjdinaaGreat
open Go
def A0d (X : Nat → Prop) (t0 : Value) (R : Value → WP) : WP :=
 B1 PR X (Instr.alloc 172 true (.tuple #[])) fun t2 =>
 jn (n := 2) (fun t3 t4 =>
 jn (n := 2) (fun t3_1 t4_1 =>
 A0 PR (Instr.index 9 t0 (.int .i64 0)) fun t17 =>
 A0 PR (binOp .rem 5 t17 (.int .u8 16)) fun t18 =>
 A0 PR (convert 5 3 t18) fun t19 =>
 A0 PR (binOp .mul 3 t19 (.int .i64 4)) fun t20 =>
 B2 PR X 109 [t0, (.int .i64 2)] fun t22 =>
 jn (n := 2) (fun t3_2 t4_2 =>
 jn (n := 2) (fun t3_3 t4_3 =>
 jn (n := 2) (fun t3_4 t4_4 =>
 drw <|
 A0 PR (Instr.sliceAt 9 t0 (some (.int .i64 12)) (some (.int .i64 16)) none) fun t55 =>
 A0 PR (Instr.sliceAt 9 t0 (some (.int .i64 16)) (some (.int .i64 20)) none) fun t57 =>
 A0 PR (Instr.index 9 t0 (.int .i64 9)) fun t59 =>
 A0 PR (convert 5 3 t59) fun t60 =>
 A0 PR (Instr.build 172 #[(0, t55), (1, t57), (2, t60)]) fun t61 =>
 A0 PR (Instr.sliceAt 9 t0 (some t20) (some t22) none) fun t65 =>
 B6 PR X (Instr.storeAt 172 t2 t61) <|
 A6 PR (D0 [.c 172 t2, .v t65, .v (.int .i64 0)]) R) fun J1 =>
 B2 PR X 109 [t0, (.int .i64 6)] fun t50 =>
 A0 PR (binOp .rem 3 t50 (.int .i64 16384)) fun t51 =>
 A0 PR (binOp .neq 3 t51 (.int .i64 0)) fun t52 =>
 B3 t52 (
 A0 PR (Instr.build 172 #[]) fun t53 =>
 B6 PR X (Instr.storeAt 172 t2 t53) <|
 A6 PR (D0 [.c 172 t2, .v (.string (ByteArray.mk #[])), .v (.int .i64 6)]) R) (
 J1 t3_3 t4_3)) fun J2 =>
 A0 PR (Instr.sliceAt 9 t0 none (some t20) none) fun t45 =>
 B2 PR X 138 [t45] fun t46 =>
 A0 PR (Op.unary .not t46) fun t47 =>
 B3 t47 (
 A0 PR (Instr.build 172 #[]) fun t48 =>
 B6 PR X (Instr.storeAt 172 t2 t48) <|
 A6 PR (D0 [.c 172 t2, .v (.string (ByteArray.mk #[])), .v (.int .i64 5)]) R) (
 J2 t3_2 t4_2)) fun J3 =>
 A0 PR (binOp .lss 3 t20 (.int .i64 20)) fun t24 =>
 gj t24 false (fun J => J t20) fun t26 =>
 gj t24 false (fun J => J t0) fun t27 =>
 gj t24 false (fun J => A0 PR (A7 .len #[9] 0 [t27]) J) fun t28 =>
 gj t24 false (fun J => A0 PR (binOp .gtr 3 t26 t28) J) fun t29 =>
 A0 PR (do pure (if ← asBool t24 then (.bool true) else t29)) fun t30 =>
 gj t30 false (fun J => J t22) fun t32 =>
 gj t30 false (fun J => J t20) fun t33 =>
 gj t30 false (fun J => A0 PR (binOp .lss 3 t32 t33) J) fun t34 =>
 A0 PR (do pure (if ← asBool t30 then (.bool true) else t34)) fun t35 =>
 gj t35 false (fun J => J t22) fun t37 =>
 gj t35 false (fun J => J t0) fun t38 =>
 gj t35 false (fun J => A0 PR (A7 .len #[9] 0 [t38]) J) fun t39 =>
 gj t35 false (fun J => A0 PR (binOp .gtr 3 t37 t39) J) fun t40 =>
 A0 PR (do pure (if ← asBool t35 then (.bool true) else t40)) fun t41 =>
 B3 t41 (
 A0 PR (Instr.build 172 #[]) fun t42 =>
 B6 PR X (Instr.storeAt 172 t2 t42) <|
 A6 PR (D0 [.c 172 t2, .v (.string (ByteArray.mk #[])), .v (.int .i64 4)]) R) (
 J3 t3_1 t4_1)) fun J4 =>
 A0 PR (Instr.index 9 t0 (.int .i64 0)) fun t12 =>
 A0 PR (binOp .quo 5 t12 (.int .u8 16)) fun t13 =>
 A0 PR (binOp .neq 5 t13 (.int .u8 4)) fun t14 =>
 B3 t14 (
 A0 PR (Instr.build 172 #[]) fun t15 =>
 B6 PR X (Instr.storeAt 172 t2 t15) <|
 A6 PR (D0 [.c 172 t2, .v (.string (ByteArray.mk #[])), .v (.int .i64 3)]) R) (
 J4 t3 t4)) fun J5 =>
 A0 PR (A7 .len #[9] 0 [t0]) fun t8 =>
 A0 PR (binOp .lss 3 t8 (.int .i64 20)) fun t9 =>
 B3 t9 (
 A0 PR (Instr.build 172 #[]) fun t10 =>
 B6 PR X (Instr.storeAt 172 t2 t10) <|
 A6 PR (D0 [.c 172 t2, .v (.string (ByteArray.mk #[])), .v (.int .i64 2)]) R) (
 J5 (.string (ByteArray.mk #[])) (.int .i64 0))
theorem A47 : B0 PR 107 := A8 Tryz.func107 (by kernel_rfl) rfl
theorem A5U {X : Nat → Prop} {t0 : Value} {R : Value → WP} {w : World} (h : A0d X t0 R w) : Fn PR X 107 #[t0] w R := C7 (args := [t0]) mixed Tryz.func107 (by kernel_rfl) h
def A1b (X : Nat → Prop) (t0 t1 : Value) (R : Value → WP) : WP :=
 B2 PR X 139 [t0, t1, (.int .i64 2)] fun t10 =>
 A0 PR (Instr.extract t10 0) fun t11 =>
 A0 PR (Instr.extract t10 1) fun t12 =>
 A0 PR (convert 122 3 t11) fun t14 =>
 R t14
theorem G9 : B0 PR 109 := A8 Tryz.func109 (by kernel_rfl) rfl
theorem A65 {X : Nat → Prop} {t0 t1 : Value} {R : Value → WP} {w : World} (h : A1b X t0 t1 R w) : Fn PR X 109 #[t0, t1] w R := C7 (args := [t0, t1]) mixed Tryz.func109 (by kernel_rfl) h
end Go.Proofs.YtlplkjgcfjdinaaGreat
namespace Go.Proofs.YtlplkjgcfjdinaaGreat
open Go
theorem A5E {s : ByteArray} {x : Int} (h0 : 0 ≤ x) (h1 : x.toNat < s.size) (K : Value → WP) : A0 PR (Instr.index 9 (.string s) (.int .i64 x)) K = K (.int .u8 (C8 s x.toNat : Nat)) := by
 obtain ⟨b, hb, e⟩ := s6 h1
 rw [← e]; exact Z0 h0 hb K
theorem C5p (w : World) (s : ByteArray) (hs : s.size < 2 ^ 62) (a n : Int) :
  Fn PR B7 139 #[.string s, .int .i64 a, .int .i64 n] w (fun v w' => v = .tuple #[.int .u64 (A2Z s a n), .bool (s8 s a n)] ∧ C6 [] w w') := by
 refine Fn.pure (A8A (TW.go (κ := false) (S := []) ?_))
 unfold A2J
 by_cases hok : s8 s a n = true
 case neg =>
  have hv : A2Z s a n = 0 := if_neg hok
  have hok' : s8 s a n = false := by simpa using hok
  rw [hv, hok']
  have hc : n < 1 ∨ 8 < n ∨ a < 0 ∨ (s.size : Int) - n < a := by
   simp only [s8, decide_eq_true_eq] at hok; omega
  by_cases h1 : n < 1
  ·(have zz:=trivial;repeat((first|clear zz|with_reducible first|refine A3 ?_|refine A4 fun _=>?_|refine A5 fun _=>?_);try simp(disch:=first|omega|assumption|((repeat(first|exact A1|exact uH|apply A2|apply uT));first|done|fail)|(simp;first|done|omega|fail))[h1])); exact A9 rfl
  by_cases h2 : 8 < n
  ·(have zz:=trivial;repeat((first|clear zz|with_reducible first|refine A3 ?_|refine A4 fun _=>?_|refine A5 fun _=>?_);try simp(disch:=first|omega|assumption|((repeat(first|exact A1|exact uH|apply A2|apply uT));first|done|fail)|(simp;first|done|omega|fail))[h1, h2])); exact A9 rfl
  by_cases h3 : a < 0
  ·(have zz:=trivial;repeat((first|clear zz|with_reducible first|refine A3 ?_|refine A4 fun _=>?_|refine A5 fun _=>?_);try simp(disch:=first|omega|assumption|((repeat(first|exact A1|exact uH|apply A2|apply uT));first|done|fail)|(simp;first|done|omega|fail))[h1, h2, h3])); exact A9 rfl
  by_cases h4 : (s.size : Int) < a
  ·(have zz:=trivial;repeat((first|clear zz|with_reducible first|refine A3 ?_|refine A4 fun _=>?_|refine A5 fun _=>?_);try simp(disch:=first|omega|assumption|((repeat(first|exact A1|exact uH|apply A2|apply uT));first|done|fail)|(simp;first|done|omega|fail))[h1, h2, h3, h4])); exact A9 rfl
  have h5 : (s.size : Int) - a < n := by omega
  (have zz:=trivial;repeat((first|clear zz|with_reducible first|refine A3 ?_|refine A4 fun _=>?_|refine A5 fun _=>?_);try simp(disch:=first|omega|assumption|((repeat(first|exact A1|exact uH|apply A2|apply uT));first|done|fail)|(simp;first|done|omega|fail))[h1, h2, h3, h4, h5])); exact A9 rfl
 have hv : A2Z s a n = (W8 s a.toNat n.toNat : Nat) := if_pos hok
 rw [hv, hok]
 simp only [s8, decide_eq_true_eq] at hok
 obtain ⟨m, rfl⟩ : ∃ m : Nat, n = m := ⟨n.toNat, by omega⟩
 obtain ⟨k, rfl⟩ : ∃ k : Nat, a = k := ⟨a.toNat, by omega⟩
 have h1 : ¬ (m : Int) < 1 := by omega
 have h2 : ¬ 8 < (m : Int) := by omega
 have h3 : ¬ (s.size : Int) < k := by omega
 have h4 : ¬ (s.size : Int) - k < m := by omega
 have h5 : ¬ (k : Int) < 0 := by omega
 (have zz:=trivial;repeat((first|clear zz|with_reducible first|refine A3 ?_|refine A4 fun _=>?_|refine A5 fun _=>?_);try simp(disch:=first|omega|assumption|((repeat(first|exact A1|exact uH|apply A2|apply uT));first|done|fail)|(simp;first|done|omega|fail))[h1, h2, h3, h4, h5]))
 refine H4 (α := Unit) m (fun i _ => .int .u64 (W8 s k i : Nat)) (fun _ _ => []) (fun _ _ => True) () trivial ?_
 rintro i _ hi _ L hL
 by_cases hlt : i < m
 ·have hlt' : (i : Int) < (m : Int) := by omega
  have hA : W8 s k (i + 1) < 256 ^ (i + 1) := A46 s k (i + 1)
  have h8 : 256 ^ (i + 1) ≤ 2 ^ 64 := by
   rw [show (2 : Nat) ^ 64 = 256 ^ 8 from rfl]
   exact Nat.pow_le_pow_right (by omega) (by omega)
  have e : W8 s k (i + 1) = W8 s k i * 256 + C8 s (k + i) := rfl
  have hx : ((k : Int) + i).toNat = k + i := by omega
  have h := hL hlt () trivial
  rw [e] at h hA
  have hin : ((k : Int) + i).toNat < s.size := by omega
  have hidx := fun K => A5E (s := s) (x := (k : Int) + i) (by omega) hin K
  rw [hx] at hidx
  generalize hb : W8 s k i = q at *
  generalize C8 s (k + i) = r at *
  (have zz:=trivial;repeat((first|clear zz|with_reducible first|refine A3 ?_|refine A4 fun _=>?_|refine A5 fun _=>?_);try simp(disch:=first|omega|assumption|((repeat(first|exact A1|exact uH|apply A2|apply uT));first|done|fail)|(simp;first|done|omega|fail))[hlt', hidx]))
  have e2 : ((q * 256 + r : Nat) : Int) = (q : Int) * 256 + r := by omega
  rw [e2] at h
  exact h
 ·obtain rfl : i = m := by omega
  (have zz:=trivial;repeat((first|clear zz|with_reducible first|refine A3 ?_|refine A4 fun _=>?_|refine A5 fun _=>?_);try simp(disch:=first|omega|assumption|((repeat(first|exact A1|exact uH|apply A2|apply uT));first|done|fail)|(simp;first|done|omega|fail))[]))
  exact A9 (by simp)
theorem A0E (w : World) (s : ByteArray) (hs : s.size < 2 ^ 40) (x : Int) (a : Nat) (hx : x = a) : Fn PR B7 109 #[.string s, .int .i64 x] w (fun v w' => v = .int .i64 (gv s a 2 : Nat) ∧ C6 [] w w') := by
 subst hx
 refine Fn.pure (A65 (TW.go (κ := false) (S := []) ?_))
 unfold A1b
 refine B8 A7S (fun w' _ => C5p w' s (by omega) a 2) ?_
 have e := A4Y s a 2 (by omega) (by omega)
 have hl := n7 s a
 have e' : A2Z s (a : Int) 2 = (gv s a 2 : Nat) := e
 rw [e']
 (have zz:=trivial;repeat((first|clear zz|with_reducible first|refine A3 ?_|refine A4 fun _=>?_|refine A5 fun _=>?_);try simp(disch:=first|omega|assumption|((repeat(first|exact A1|exact uH|apply A2|apply uT));first|done|fail)|(simp;first|done|omega|fail))[]))
 exact A9 rfl
def A9y (s : ByteArray) : Nat → Nat
 | 0 => 0
 | i + 1 => let n := A9y s i + W8 s (2 * i) 2; if 65535 < n then n % 65536 + 1 else n
theorem B7d (s : ByteArray) (i : Nat) : A9y s i = fld (A4w s i) := by
 induction i with
 | zero => rfl
 | succ i ih =>
  have hb : W8 s (2 * i) 2 < 65536 := A46 s (2 * i) 2
  have h1 := C1w (A4w s i)
  simp only [A9y, A4w, ih]
  generalize W8 s (2 * i) 2 = b at *
  generalize A4w s i = n at *
  unfold fld at h1 ⊢
  by_cases h0 : n = 0
  ·subst h0; simp only [if_pos, Nat.zero_add] at h1 ⊢; split <;> split <;> omega
  ·have hne : ¬ n + b = 0 := by omega
   rw [if_neg h0] at h1 ⊢; rw [if_neg hne]; split <;> omega
theorem C4b (w : World) (s : ByteArray) (hs : s.size < 2 ^ 40) : Fn PR B7 163 #[.string s] w (fun v w' => v = .int .i64 (A1q s : Nat) ∧ C6 [] w w') := by
 refine Fn.pure (A6r (TW.go (κ := false) (S := []) ?_))
 unfold A1g
 (have zz:=trivial;repeat((first|clear zz|with_reducible first|refine A3 ?_|refine A4 fun _=>?_|refine A5 fun _=>?_);try simp(disch:=first|omega|assumption|((repeat(first|exact A1|exact uH|apply A2|apply uT));first|done|fail)|(simp;first|done|omega|fail))[]))
 refine A3P (fun _ : Nat => []) (· ≤ S0 s) (fun i => S0 s - i) 0 (fun i => .int .i64 (A9y s i : Nat)) (fun i => .int .i64 ((2 * i : Nat) : Int)) (Nat.zero_le _) ?_
 intro i hi L hL
 have hm : A9y s i ≤ 65535 := by rw [B7d]; exact C1w _
 by_cases hlt : i < S0 s
 ·have h2 : 2 * i < s.size := by unfold S0 at hlt; omega
  have h2' : (2 * (i : Int)) < s.size := by omega
  have hl0 := M5 s (2 * i)
  have hl1 := M5 s (2 * i + 1)
  have h := hL (i + 1) (by omega) (by omega)
  have eb : W8 s (2 * i) 2 = C8 s (2 * i) * 256 + C8 s (2 * i + 1) := by simp [W8]
  simp only [A9y, eb] at h
  have hx0 := fun K => A5E (s := s) (x := 2 * (i : Int)) (by omega) (by omega) K
  rw [show (2 * (i : Int)).toNat = 2 * i by omega] at hx0
  have et : ((2 * (i + 1) : Nat) : Int) = 2 * (i : Int) + 2 := by omega
  rw [et] at h
  by_cases h3 : 2 * i + 1 < s.size
  ·have h3' : 2 * (i : Int) + 1 < s.size := by omega
   have hx1 := fun K => A5E (s := s) (x := 2 * (i : Int) + 1) (by omega) (by omega) K
   rw [show (2 * (i : Int) + 1).toNat = 2 * i + 1 by omega] at hx1
   generalize C8 s (2 * i) = p at *
   generalize C8 s (2 * i + 1) = q at *
   generalize A9y s i = r at *
   by_cases h4 : 65535 < r + (p * 256 + q)
   ·have h4' : (65535 : Int) < r + p * 256 + q := by omega
    have e1 : ((r : Int) + p * 256 + q).tmod 65536 = ((r + (p * 256 + q)) % 65536 : Nat) := by rw [Int.tmod_eq_emod_of_nonneg (by omega)]; omega
    rw [if_pos h4] at h
    have e2 : (((r + (p * 256 + q)) % 65536 + 1 : Nat) : Int) = ((r : Int) + p * 256 + q).tmod 65536 + 1 := by rw [e1]; omega
    have h6 : ((r : Int) + p * 256 + q).tmod 65536 ≤ 65536 := by rw [e1]; omega
    have h7 : 0 ≤ ((r : Int) + p * 256 + q).tmod 65536 := by rw [e1]; omega
    rw [e2] at h
    have e5 : IntKind.i64.wrap (((r : Int) + p * 256 + q).tmod 65536 + 1) = ((r : Int) + p * 256 + q).tmod 65536 + 1 := P8 (by omega) (by omega)
    (have zz:=trivial;repeat((first|clear zz|with_reducible first|refine A3 ?_|refine A4 fun _=>?_|refine A5 fun _=>?_);try simp(disch:=first|omega|assumption|((repeat(first|exact A1|exact uH|apply A2|apply uT));first|done|fail)|(simp;first|done|omega|fail))[h2', h3', hx0, hx1, h4', N7]))
    exact h
   ·have h4' : ¬ (65535 : Int) < r + p * 256 + q := by omega
    rw [if_neg h4] at h
    (have zz:=trivial;repeat((first|clear zz|with_reducible first|refine A3 ?_|refine A4 fun _=>?_|refine A5 fun _=>?_);try simp(disch:=first|omega|assumption|((repeat(first|exact A1|exact uH|apply A2|apply uT));first|done|fail)|(simp;first|done|omega|fail))[h2', h3', hx0, hx1, h4']))
    rw [show ((r + (p * 256 + q) : Nat) : Int) = (r : Int) + p * 256 + q by omega] at h
    exact h
  ·have h3' : ¬ 2 * (i : Int) + 1 < s.size := by omega
   have e0 : C8 s (2 * i + 1) = 0 := by unfold C8; rw [Array.getD_eq_getD_getElem?, Array.getElem?_eq_none (by show s.size ≤ _; omega)]; rfl
   rw [e0] at h
   generalize C8 s (2 * i) = p at *
   generalize A9y s i = r at *
   by_cases h4 : 65535 < r + (p * 256 + 0)
   ·have h4' : (65535 : Int) < r + p * 256 := by omega
    have e1 : ((r : Int) + p * 256).tmod 65536 = ((r + (p * 256 + 0)) % 65536 : Nat) := by rw [Int.tmod_eq_emod_of_nonneg (by omega)]; omega
    rw [if_pos h4] at h
    have e2 : (((r + (p * 256 + 0)) % 65536 + 1 : Nat) : Int) = ((r : Int) + p * 256).tmod 65536 + 1 := by rw [e1]; omega
    have h6 : ((r : Int) + p * 256).tmod 65536 ≤ 65536 := by rw [e1]; omega
    have h7 : 0 ≤ ((r : Int) + p * 256).tmod 65536 := by rw [e1]; omega
    rw [e2] at h
    have e5 : IntKind.i64.wrap (((r : Int) + p * 256).tmod 65536 + 1) = ((r : Int) + p * 256).tmod 65536 + 1 := P8 (by omega) (by omega)
    (have zz:=trivial;repeat((first|clear zz|with_reducible first|refine A3 ?_|refine A4 fun _=>?_|refine A5 fun _=>?_);try simp(disch:=first|omega|assumption|((repeat(first|exact A1|exact uH|apply A2|apply uT));first|done|fail)|(simp;first|done|omega|fail))[h2', h3', hx0, h4', N7]))
    exact h
   ·have h4' : ¬ (65535 : Int) < r + p * 256 := by omega
    rw [if_neg h4] at h
    (have zz:=trivial;repeat((first|clear zz|with_reducible first|refine A3 ?_|refine A4 fun _=>?_|refine A5 fun _=>?_);try simp(disch:=first|omega|assumption|((repeat(first|exact A1|exact uH|apply A2|apply uT));first|done|fail)|(simp;first|done|omega|fail))[h2', h3', hx0, h4']))
    rw [show ((r + (p * 256 + 0) : Nat) : Int) = (r : Int) + p * 256 by omega] at h
    exact h
 ·obtain rfl : i = S0 s := by omega
  have h2' : ¬ (2 * (S0 s : Int)) < s.size := by unfold S0; omega
  (have zz:=trivial;repeat((first|clear zz|with_reducible first|refine A3 ?_|refine A4 fun _=>?_|refine A5 fun _=>?_);try simp(disch:=first|omega|assumption|((repeat(first|exact A1|exact uH|apply A2|apply uT));first|done|fail)|(simp;first|done|omega|fail))[h2']))
  exact A9 (by rw [B7d]; rfl)
theorem C32 (w : World) (s : ByteArray) (hs : s.size < 2 ^ 40) : Fn PR B7 138 #[.string s] w (fun v w' => v = .bool (decide (A1q s = 65535)) ∧ C6 [] w w') := by
 refine Fn.pure (A7U (TW.go (κ := false) (S := []) ?_))
 unfold A1W
 refine B8 A51 (fun w' _ => C4b w' s hs) ?_
 (have zz:=trivial;repeat((first|clear zz|with_reducible first|refine A3 ?_|refine A4 fun _=>?_|refine A5 fun _=>?_);try simp(disch:=first|omega|assumption|((repeat(first|exact A1|exact uH|apply A2|apply uT));first|done|fail)|(simp;first|done|omega|fail))[]))
 exact A9 (by simp; omega)
end Go.Proofs.YtlplkjgcfjdinaaGreat
namespace Go.Proofs.YtlplkjgcfjdinaaGreat
open Go
theorem Q5 {x k : Int} (h : 0 ≤ x) : x.tdiv k = x / k := Int.tdiv_eq_ediv_of_nonneg h
theorem q7 {x k : Int} (h : 0 ≤ x) : x.tmod k = x % k := Int.tmod_eq_emod_of_nonneg h
theorem C23 (w : World) (s : ByteArray) (hs : s.size < 2 ^ 40) : Fn PR B7 107 #[.string s] w (fun v w' => v = (Q2 s).val ∧ C6 [] w w') := by
 refine Fn.pure (A5U (TW.go (κ := false) (S := []) ?_))
 unfold A0d
 by_cases c1 : s.size < 20
 ·have c1' : (s.size : Int) < 20 := by omega
  have hv : Q2 s = .err 2 := by simp [Q2, A5Q, c1]
  rw [hv]
  (have zz:=trivial;repeat((first|clear zz|with_reducible first|refine A3 ?_|refine A4 fun _=>?_|refine A5 fun _=>?_);try simp(disch:=first|omega|assumption|((repeat(first|exact A1|exact uH|apply A2|apply uT));first|done|fail)|(simp;first|done|omega|fail))[c1, c1']))
  exact A9 rfl
 have c1' : ¬ (s.size : Int) < 20 := by omega
 have hx0 := fun K => A5E (s := s) (x := 0) (by omega) (by simp; omega) K
 rw [show (0 : Int).toNat = 0 from rfl] at hx0
 have hl0 := M5 s 0
 have hg : gv s 0 1 = C8 s 0 := A8G (by omega)
 have hg9 : gv s 9 1 = C8 s 9 := A8G (by omega)
 have hL : K7 s = C8 s 0 % 16 * 4 := by unfold K7; rw [hg]
 by_cases c2 : C8 s 0 / 16 = 4
 case neg =>
  have hv : Q2 s = .err 3 := by simp [Q2, A5Q, c1, hg, c2]
  rw [hv]
  have c2' : ¬ (C8 s 0 : Int) / 16 = 4 := by omega
  generalize C8 s 0 = b at *
  (have zz:=trivial;repeat((first|clear zz|with_reducible first|refine A3 ?_|refine A4 fun _=>?_|refine A5 fun _=>?_);try simp(disch:=first|omega|assumption|((repeat(first|exact A1|exact uH|apply A2|apply uT));first|done|fail)|(simp;first|done|omega|fail))[c1, c1', hx0, W4, Q5, c2, c2']))
  exact A9 rfl
 have c2' : (C8 s 0 : Int) / 16 = 4 := by omega
 (have zz:=trivial;repeat((first|clear zz|with_reducible first|refine A3 ?_|refine A4 fun _=>?_|refine A5 fun _=>?_);try simp(disch:=first|omega|assumption|((repeat(first|exact A1|exact uH|apply A2|apply uT));first|done|fail)|(simp;first|done|omega|fail))[c1, c1', hx0, W4, Q5, N7, q7, c2, c2']))
 refine B8 G9 (fun w' _ => A0E w' s hs 2 2 rfl) ?_
 have hw2 := n7 s 2
 have hw6 := n7 s 6
 have eL : ((C8 s 0 : Nat) : Int) % 16 * 4 = (K7 s : Nat) := by rw [hL]; omega
 have hLl : K7 s < 100 := by omega
 have hE : A5Q s = if K7 s < 20 ∨ s.size < K7 s ∨ gv s 2 2 < K7 s ∨ s.size < gv s 2 2 then 4 else if A1q (s.extract 0 (K7 s)) ≠ 65535 then 5 else if gv s 6 2 % 16384 ≠ 0 then 6 else 0 := by
  unfold A5Q; rw [if_neg c1, hg, if_neg (by simp [c2])]
 generalize hG : gv s 2 2 = g at *
 generalize hLe : K7 s = m at *
 by_cases c3 : m < 20 ∨ s.size < m ∨ g < m ∨ s.size < g
 ·have hv : Q2 s = .err 4 := by rw [if_pos c3] at hE; simp [Q2, hE]
  rw [hv]
  by_cases d1 : m < 20
  ·have d1' : (m : Int) < 20 := by omega
   (have zz:=trivial;repeat((first|clear zz|with_reducible first|refine A3 ?_|refine A4 fun _=>?_|refine A5 fun _=>?_);try simp(disch:=first|omega|assumption|((repeat(first|exact A1|exact uH|apply A2|apply uT));first|done|fail)|(simp;first|done|omega|fail))[c1, c1', hx0, W4, Q5, N7, q7, c2, c2', eL, d1, d1']))
   exact A9 rfl
  have d1' : ¬ (m : Int) < 20 := by omega
  by_cases d2 : s.size < m
  ·have d2' : (s.size : Int) < m := by omega
   (have zz:=trivial;repeat((first|clear zz|with_reducible first|refine A3 ?_|refine A4 fun _=>?_|refine A5 fun _=>?_);try simp(disch:=first|omega|assumption|((repeat(first|exact A1|exact uH|apply A2|apply uT));first|done|fail)|(simp;first|done|omega|fail))[c1, c1', hx0, W4, Q5, N7, q7, c2, c2', eL, d1, d1', d2, d2']))
   exact A9 rfl
  have d2' : ¬ (s.size : Int) < m := by omega
  by_cases d3 : g < m
  ·have d3' : (g : Int) < m := by omega
   (have zz:=trivial;repeat((first|clear zz|with_reducible first|refine A3 ?_|refine A4 fun _=>?_|refine A5 fun _=>?_);try simp(disch:=first|omega|assumption|((repeat(first|exact A1|exact uH|apply A2|apply uT));first|done|fail)|(simp;first|done|omega|fail))[c1, c1', hx0, W4, Q5, N7, q7, c2, c2', eL, d1, d1', d2, d2', d3, d3']))
   exact A9 rfl
  have d3' : ¬ (g : Int) < m := by omega
  have d4 : s.size < g := by omega
  have d4' : (s.size : Int) < g := by omega
  (have zz:=trivial;repeat((first|clear zz|with_reducible first|refine A3 ?_|refine A4 fun _=>?_|refine A5 fun _=>?_);try simp(disch:=first|omega|assumption|((repeat(first|exact A1|exact uH|apply A2|apply uT));first|done|fail)|(simp;first|done|omega|fail))[c1, c1', hx0, W4, Q5, N7, q7, c2, c2', eL, d1, d1', d2, d2', d3, d3', d4, d4']))
  exact A9 rfl
 rw [if_neg c3] at hE
 have d1 : ¬ m < 20 := by omega
 have d1' : ¬ (m : Int) < 20 := by omega
 have d2 : ¬ s.size < m := by omega
 have d2' : ¬ (s.size : Int) < m := by omega
 have d3 : ¬ g < m := by omega
 have d3' : ¬ (g : Int) < m := by omega
 have d4 : ¬ s.size < g := by omega
 have d4' : ¬ (s.size : Int) < g := by omega
 (have zz:=trivial;repeat((first|clear zz|with_reducible first|refine A3 ?_|refine A4 fun _=>?_|refine A5 fun _=>?_);try simp(disch:=first|omega|assumption|((repeat(first|exact A1|exact uH|apply A2|apply uT));first|done|fail)|(simp;first|done|omega|fail))[c1, c1', hx0, W4, Q5, N7, q7, c2, c2', eL, d1, d1', d2, d2', d3, d3', d4, d4']))
 refine B8 A5w (fun w' _ => C32 w' (s.extract 0 m) (by simp; omega)) ?_
 by_cases c4 : A1q (s.extract 0 m) = 65535
 case neg =>
  have hv : Q2 s = .err 5 := by rw [if_pos c4] at hE; simp [Q2, hE]
  rw [hv]
  (have zz:=trivial;repeat((first|clear zz|with_reducible first|refine A3 ?_|refine A4 fun _=>?_|refine A5 fun _=>?_);try simp(disch:=first|omega|assumption|((repeat(first|exact A1|exact uH|apply A2|apply uT));first|done|fail)|(simp;first|done|omega|fail))[c4]))
  exact A9 rfl
 rw [if_neg (by simp [c4])] at hE
 (have zz:=trivial;repeat((first|clear zz|with_reducible first|refine A3 ?_|refine A4 fun _=>?_|refine A5 fun _=>?_);try simp(disch:=first|omega|assumption|((repeat(first|exact A1|exact uH|apply A2|apply uT));first|done|fail)|(simp;first|done|omega|fail))[c4]))
 refine B8 G9 (fun w' _ => A0E w' s hs 6 6 rfl) ?_
 by_cases c5 : gv s 6 2 % 16384 = 0
 case neg =>
  have hv : Q2 s = .err 6 := by rw [if_pos c5] at hE; simp [Q2, hE]
  rw [hv]
  have c5' : ¬ (gv s 6 2 : Int) % 16384 = 0 := by omega
  generalize gv s 6 2 = z at *
  (have zz:=trivial;repeat((first|clear zz|with_reducible first|refine A3 ?_|refine A4 fun _=>?_|refine A5 fun _=>?_);try simp(disch:=first|omega|assumption|((repeat(first|exact A1|exact uH|apply A2|apply uT));first|done|fail)|(simp;first|done|omega|fail))[N7, q7, c5, c5']))
  exact A9 rfl
 rw [if_neg (by simp [c5])] at hE
 have hv : Q2 s = ⟨s.extract 12 16, s.extract 16 20, C8 s 9, s.extract m g, 0⟩ := by unfold Q2; rw [if_pos hE, hG, hLe, hg9]
 rw [hv]
 have c5' : (gv s 6 2 : Int) % 16384 = 0 := by omega
 have hx9 := fun K => A5E (s := s) (x := 9) (by omega) (by simp; omega) K
 rw [show (9 : Int).toNat = 9 from rfl] at hx9
 have hl9 := M5 s 9
 generalize gv s 6 2 = z at *
 (have zz:=trivial;repeat((first|clear zz|with_reducible first|refine A3 ?_|refine A4 fun _=>?_|refine A5 fun _=>?_);try simp(disch:=first|omega|assumption|((repeat(first|exact A1|exact uH|apply A2|apply uT));first|done|fail)|(simp;first|done|omega|fail))[N7, q7, c5, c5', hx9]))
 exact A9 (by simp [HeadV.val, eL])
theorem C1y (w : World) (s : ByteArray) (hs : s.size < 2 ^ 40) : Fn PR B7 108 #[.string s] w (fun v w' => v = (S4 s).val ∧ C6 [] w w') := by
 refine Fn.pure (A5x (TW.go (κ := false) (S := []) ?_))
 unfold A0w
 by_cases c1 : s.size < 40
 ·have c1' : (s.size : Int) < 40 := by omega
  have hv : S4 s = .err 2 := by simp [S4, A68, c1]
  rw [hv]
  (have zz:=trivial;repeat((first|clear zz|with_reducible first|refine A3 ?_|refine A4 fun _=>?_|refine A5 fun _=>?_);try simp(disch:=first|omega|assumption|((repeat(first|exact A1|exact uH|apply A2|apply uT));first|done|fail)|(simp;first|done|omega|fail))[c1, c1']))
  exact A9 rfl
 have c1' : ¬ (s.size : Int) < 40 := by omega
 have hx0 := fun K => A5E (s := s) (x := 0) (by omega) (by simp; omega) K
 rw [show (0 : Int).toNat = 0 from rfl] at hx0
 have hl0 := M5 s 0
 have hg : gv s 0 1 = C8 s 0 := A8G (by omega)
 have hg6 : gv s 6 1 = C8 s 6 := A8G (by omega)
 by_cases c2 : C8 s 0 / 16 = 6
 case neg =>
  have hv : S4 s = .err 3 := by simp [S4, A68, c1, hg, c2]
  rw [hv]
  have c2' : ¬ (C8 s 0 : Int) / 16 = 6 := by omega
  generalize C8 s 0 = b at *
  (have zz:=trivial;repeat((first|clear zz|with_reducible first|refine A3 ?_|refine A4 fun _=>?_|refine A5 fun _=>?_);try simp(disch:=first|omega|assumption|((repeat(first|exact A1|exact uH|apply A2|apply uT));first|done|fail)|(simp;first|done|omega|fail))[c1, c1', hx0, W4, Q5, c2, c2']))
  exact A9 rfl
 have c2' : (C8 s 0 : Int) / 16 = 6 := by omega
 (have zz:=trivial;repeat((first|clear zz|with_reducible first|refine A3 ?_|refine A4 fun _=>?_|refine A5 fun _=>?_);try simp(disch:=first|omega|assumption|((repeat(first|exact A1|exact uH|apply A2|apply uT));first|done|fail)|(simp;first|done|omega|fail))[c1, c1', hx0, W4, Q5, N7, q7, c2, c2']))
 refine B8 G9 (fun w' _ => A0E w' s hs 4 4 rfl) ?_
 have hw4 := n7 s 4
 have hE : A68 s = if s.size - 40 < gv s 4 2 then 4 else 0 := by
  unfold A68; rw [if_neg c1, hg, if_neg (by simp [c2])]
 generalize hG : gv s 4 2 = g at *
 by_cases c3 : s.size - 40 < g
 ·have hv : S4 s = .err 4 := by rw [if_pos c3] at hE; simp [S4, hE]
  rw [hv]
  have c3' : (s.size : Int) - 40 < g := by omega
  (have zz:=trivial;repeat((first|clear zz|with_reducible first|refine A3 ?_|refine A4 fun _=>?_|refine A5 fun _=>?_);try simp(disch:=first|omega|assumption|((repeat(first|exact A1|exact uH|apply A2|apply uT));first|done|fail)|(simp;first|done|omega|fail))[c1', c3, c3']))
  exact A9 rfl
 rw [if_neg c3] at hE
 have hv : S4 s = ⟨s.extract 8 24, s.extract 24 40, C8 s 6, s.extract 40 (40 + g), 0⟩ := by unfold S4; rw [if_pos hE, hG, hg6]
 rw [hv]
 have c3' : ¬ (s.size : Int) - 40 < g := by omega
 have hx6 := fun K => A5E (s := s) (x := 6) (by omega) (by simp; omega) K
 rw [show (6 : Int).toNat = 6 from rfl] at hx6
 have hl6 := M5 s 6
 have e : (40 + (g : Int)).toNat = 40 + g := by omega
 (have zz:=trivial;repeat((first|clear zz|with_reducible first|refine A3 ?_|refine A4 fun _=>?_|refine A5 fun _=>?_);try simp(disch:=first|omega|assumption|((repeat(first|exact A1|exact uH|apply A2|apply uT));first|done|fail)|(simp;first|done|omega|fail))[c1', c3, c3', hx6]))
 exact A9 (by simp [HeadV.val, e])
theorem C11 (w : World) (s : ByteArray) (hs : s.size < 2 ^ 40) (n : Int) : Fn PR B7 80 #[.int .i64 n, .string s] w (fun v w' => v = K6.val (K6 n s) ∧ C6 [] w w') := by
 refine Fn.pure (A5v (TW.go (κ := false) (S := []) ?_))
 unfold A04
 by_cases c0 : n = 6 ∨ n = 17
 case neg =>
  have c6 : ¬ n = 6 := by omega
  have c7 : ¬ n = 17 := by omega
  have hv : K6 n s = (0, 0, 0, 7) := by simp [K6, z7, c6, c7]
  rw [hv]
  (have zz:=trivial;repeat((first|clear zz|with_reducible first|refine A3 ?_|refine A4 fun _=>?_|refine A5 fun _=>?_);try simp(disch:=first|omega|assumption|((repeat(first|exact A1|exact uH|apply A2|apply uT));first|done|fail)|(simp;first|done|omega|fail))[c6, c7]))
  exact A9 rfl
 have hw0 := n7 s 0
 have hw2 := n7 s 2
 by_cases c6 : n = 6
 ·subst c6
  have hp : z7 6 s = A1w s := rfl
  by_cases c1 : s.size < 20
  ·have c1' : (s.size : Int) < 20 := by omega
   have hv : K6 6 s = (0, 0, 0, 2) := by unfold K6; rw [hp]; simp [A1w, c1]
   rw [hv]
   (have zz:=trivial;repeat((first|clear zz|with_reducible first|refine A3 ?_|refine A4 fun _=>?_|refine A5 fun _=>?_);try simp(disch:=first|omega|assumption|((repeat(first|exact A1|exact uH|apply A2|apply uT));first|done|fail)|(simp;first|done|omega|fail))[c1, c1']))
   exact A9 rfl
  have c1' : ¬ (s.size : Int) < 20 := by omega
  have c2' : ¬ (s.size : Int) < 8 := by omega
  have hx12 := fun K => A5E (s := s) (x := 12) (by omega) (by simp; omega) K
  rw [show (12 : Int).toNat = 12 from rfl] at hx12
  have hl12 := M5 s 12
  have hx13 := fun K => A5E (s := s) (x := 13) (by omega) (by simp; omega) K
  rw [show (13 : Int).toNat = 13 from rfl] at hx13
  have hl13 := M5 s 13
  (have zz:=trivial;repeat((first|clear zz|with_reducible first|refine A3 ?_|refine A4 fun _=>?_|refine A5 fun _=>?_);try simp(disch:=first|omega|assumption|((repeat(first|exact A1|exact uH|apply A2|apply uT));first|done|fail)|(simp;first|done|omega|fail))[c1', c2']))
  refine B8 G9 (fun w' _ => A0E w' s hs 0 0 rfl) ?_
  (have zz:=trivial;repeat((first|clear zz|with_reducible first|refine A3 ?_|refine A4 fun _=>?_|refine A5 fun _=>?_);try simp(disch:=first|omega|assumption|((repeat(first|exact A1|exact uH|apply A2|apply uT));first|done|fail)|(simp;first|done|omega|fail))[]))
  refine B8 G9 (fun w' _ => A0E w' s hs 2 2 rfl) ?_
  have ht : A1w s = if C8 s 12 / 16 * 4 < 20 ∨ s.size < C8 s 12 / 16 * 4 then (0, 8) else (C8 s 13, 0) := by unfold A1w; rw [if_neg c1]
  have hv0 : K6 6 s = if (A1w s).2 ≠ 0 then (0, 0, 0, (A1w s).2) else (gv s 0 2, gv s 2 2, (A1w s).1, 0) := by unfold K6; rw [hp]
  rw [ht] at hv0
  generalize gv s 0 2 = g0 at *
  generalize gv s 2 2 = g2 at *
  generalize C8 s 12 = b at *
  generalize C8 s 13 = f at *
  by_cases c3 : b / 16 * 4 < 20
  ·rw [if_pos (Or.inl c3)] at hv0
   rw [hv0]
   have c3' : (b : Int) / 16 * 4 < 20 := by omega
   (have zz:=trivial;repeat((first|clear zz|with_reducible first|refine A3 ?_|refine A4 fun _=>?_|refine A5 fun _=>?_);try simp(disch:=first|omega|assumption|((repeat(first|exact A1|exact uH|apply A2|apply uT));first|done|fail)|(simp;first|done|omega|fail))[hx12, W4, Q5, c3, c3']))
   exact A9 rfl
  have c3' : ¬ (b : Int) / 16 * 4 < 20 := by omega
  by_cases c4 : s.size < b / 16 * 4
  ·rw [if_pos (Or.inr c4)] at hv0
   rw [hv0]
   have c4' : (s.size : Int) < (b : Int) / 16 * 4 := by omega
   (have zz:=trivial;repeat((first|clear zz|with_reducible first|refine A3 ?_|refine A4 fun _=>?_|refine A5 fun _=>?_);try simp(disch:=first|omega|assumption|((repeat(first|exact A1|exact uH|apply A2|apply uT));first|done|fail)|(simp;first|done|omega|fail))[hx12, W4, Q5, c3, c3', c4, c4']))
   exact A9 rfl
  have c4' : ¬ (s.size : Int) < (b : Int) / 16 * 4 := by omega
  have c5 : ¬ (b / 16 * 4 < 20 ∨ s.size < b / 16 * 4) := by omega
  rw [if_neg c5] at hv0
  rw [hv0]
  (have zz:=trivial;repeat((first|clear zz|with_reducible first|refine A3 ?_|refine A4 fun _=>?_|refine A5 fun _=>?_);try simp(disch:=first|omega|assumption|((repeat(first|exact A1|exact uH|apply A2|apply uT));first|done|fail)|(simp;first|done|omega|fail))[hx12, hx13, W4, Q5, c3, c3', c4, c4']))
  exact A9 (by simp [K6.val])
 ·obtain rfl : n = 17 := by omega
  have hp : z7 17 s = A10 s := rfl
  by_cases c1 : s.size < 8
  ·have c1' : (s.size : Int) < 8 := by omega
   have hv : K6 17 s = (0, 0, 0, 2) := by unfold K6; rw [hp]; simp [A10, c1]
   rw [hv]
   (have zz:=trivial;repeat((first|clear zz|with_reducible first|refine A3 ?_|refine A4 fun _=>?_|refine A5 fun _=>?_);try simp(disch:=first|omega|assumption|((repeat(first|exact A1|exact uH|apply A2|apply uT));first|done|fail)|(simp;first|done|omega|fail))[c1, c1']))
   exact A9 rfl
  have c1' : ¬ (s.size : Int) < 8 := by omega
  (have zz:=trivial;repeat((first|clear zz|with_reducible first|refine A3 ?_|refine A4 fun _=>?_|refine A5 fun _=>?_);try simp(disch:=first|omega|assumption|((repeat(first|exact A1|exact uH|apply A2|apply uT));first|done|fail)|(simp;first|done|omega|fail))[c1']))
  refine B8 G9 (fun w' _ => A0E w' s hs 0 0 rfl) ?_
  (have zz:=trivial;repeat((first|clear zz|with_reducible first|refine A3 ?_|refine A4 fun _=>?_|refine A5 fun _=>?_);try simp(disch:=first|omega|assumption|((repeat(first|exact A1|exact uH|apply A2|apply uT));first|done|fail)|(simp;first|done|omega|fail))[]))
  refine B8 G9 (fun w' _ => A0E w' s hs 2 2 rfl) ?_
  (have zz:=trivial;repeat((first|clear zz|with_reducible first|refine A3 ?_|refine A4 fun _=>?_|refine A5 fun _=>?_);try simp(disch:=first|omega|assumption|((repeat(first|exact A1|exact uH|apply A2|apply uT));first|done|fail)|(simp;first|done|omega|fail))[]))
  refine B8 G9 (fun w' _ => A0E w' s hs 4 4 rfl) ?_
  have hw4 := n7 s 4
  have ht : A10 s = if gv s 4 2 < 8 ∨ s.size < gv s 4 2 then (0, 4) else (0, 0) := by unfold A10; rw [if_neg c1]
  have hv0 : K6 17 s = if (A10 s).2 ≠ 0 then (0, 0, 0, (A10 s).2) else (gv s 0 2, gv s 2 2, (A10 s).1, 0) := by unfold K6; rw [hp]
  rw [ht] at hv0
  generalize gv s 0 2 = g0 at *
  generalize gv s 2 2 = g2 at *
  generalize gv s 4 2 = b at *
  by_cases c3 : b < 8
  ·rw [if_pos (Or.inl c3)] at hv0
   rw [hv0]
   have c3' : (b : Int) < 8 := by omega
   (have zz:=trivial;repeat((first|clear zz|with_reducible first|refine A3 ?_|refine A4 fun _=>?_|refine A5 fun _=>?_);try simp(disch:=first|omega|assumption|((repeat(first|exact A1|exact uH|apply A2|apply uT));first|done|fail)|(simp;first|done|omega|fail))[c3, c3']))
   exact A9 rfl
  have c3' : ¬ (b : Int) < 8 := by omega
  by_cases c4 : s.size < b
  ·rw [if_pos (Or.inr c4)] at hv0
   rw [hv0]
   have c4' : (s.size : Int) < (b : Int) := by omega
   (have zz:=trivial;repeat((first|clear zz|with_reducible first|refine A3 ?_|refine A4 fun _=>?_|refine A5 fun _=>?_);try simp(disch:=first|omega|assumption|((repeat(first|exact A1|exact uH|apply A2|apply uT));first|done|fail)|(simp;first|done|omega|fail))[c3, c3', c4, c4']))
   exact A9 rfl
  have c4' : ¬ (s.size : Int) < (b : Int) := by omega
  have c5 : ¬ (b < 8 ∨ s.size < b) := by omega
  rw [if_neg c5] at hv0
  rw [hv0]
  (have zz:=trivial;repeat((first|clear zz|with_reducible first|refine A3 ?_|refine A4 fun _=>?_|refine A5 fun _=>?_);try simp(disch:=first|omega|assumption|((repeat(first|exact A1|exact uH|apply A2|apply uT));first|done|fail)|(simp;first|done|omega|fail))[c3, c3', c4, c4']))
  exact A9 (by simp [K6.val])
end Go.Proofs.YtlplkjgcfjdinaaGreat
namespace Go.Proofs.YtlplkjgcfjdinaaGreat
open Go
def C42 (x : KeyV × ByteArray × Nat) : Value := .agg #[.string x.1.src, .string x.1.dst, .string x.2.1, .int .i64 x.1.proto, .int .i64 x.2.2]
theorem C4e (w : World) (s : ByteArray) (hs : s.size < 2 ^ 40) (h0 : 0 < s.size) : Fn PR B7 79 #[.string s] w (fun v w' => v = C42 (N0 s) ∧ C6 [] w w') := by
 refine Fn.pure (A61 (TW.go (κ := false) (S := []) ?_))
 unfold A1A
 have hx0 := fun K => A5E (s := s) (x := 0) (by omega) (by simp; omega) K
 rw [show (0 : Int).toNat = 0 from rfl] at hx0
 have hl0 := M5 s 0
 have hv : N0 s = if C8 s 0 / 16 = 4 then (⟨4, (Q2 s).src, (Q2 s).dst, 0, 0, (Q2 s).proto⟩, (Q2 s).rest, (Q2 s).e)
  else if C8 s 0 / 16 = 6 then (⟨6, (S4 s).src, (S4 s).dst, 0, 0, (S4 s).proto⟩, (S4 s).rest, (S4 s).e) else (noK, W2, 3) := by unfold N0; rw [if_neg (by omega)]
 generalize C8 s 0 = b at *
 by_cases c4 : b / 16 = 4
 ·rw [hv, if_pos c4]
  have c4' : (b : Int) / 16 = 4 := by omega
  (have zz:=trivial;repeat((first|clear zz|with_reducible first|refine A3 ?_|refine A4 fun _=>?_|refine A5 fun _=>?_);try simp(disch:=first|omega|assumption|((repeat(first|exact A1|exact uH|apply A2|apply uT));first|done|fail)|(simp;first|done|omega|fail))[hx0, W4, Q5, c4, c4']))
  refine B8 A47 (fun w' _ => C23 w' s hs) ?_
  (have zz:=trivial;repeat((first|clear zz|with_reducible first|refine A3 ?_|refine A4 fun _=>?_|refine A5 fun _=>?_);try simp(disch:=first|omega|assumption|((repeat(first|exact A1|exact uH|apply A2|apply uT));first|done|fail)|(simp;first|done|omega|fail))[HeadV.val]))
  exact A9 rfl
 have c4' : ¬ (b : Int) / 16 = 4 := by omega
 by_cases c6 : b / 16 = 6
 ·rw [hv, if_neg c4, if_pos c6]
  have c6' : (b : Int) / 16 = 6 := by omega
  (have zz:=trivial;repeat((first|clear zz|with_reducible first|refine A3 ?_|refine A4 fun _=>?_|refine A5 fun _=>?_);try simp(disch:=first|omega|assumption|((repeat(first|exact A1|exact uH|apply A2|apply uT));first|done|fail)|(simp;first|done|omega|fail))[hx0, W4, Q5, c4, c4', c6, c6']))
  refine B8 A40 (fun w' _ => C1y w' s hs) ?_
  (have zz:=trivial;repeat((first|clear zz|with_reducible first|refine A3 ?_|refine A4 fun _=>?_|refine A5 fun _=>?_);try simp(disch:=first|omega|assumption|((repeat(first|exact A1|exact uH|apply A2|apply uT));first|done|fail)|(simp;first|done|omega|fail))[HeadV.val]))
  exact A9 rfl
 ·rw [hv, if_neg c4, if_neg c6]
  have c6' : ¬ (b : Int) / 16 = 6 := by omega
  (have zz:=trivial;repeat((first|clear zz|with_reducible first|refine A3 ?_|refine A4 fun _=>?_|refine A5 fun _=>?_);try simp(disch:=first|omega|assumption|((repeat(first|exact A1|exact uH|apply A2|apply uT));first|done|fail)|(simp;first|done|omega|fail))[hx0, W4, Q5, c4, c4', c6, c6']))
  exact A9 rfl
theorem C3w {s : ByteArray} (h0 : 0 < s.size) (he : (N0 s).2.2 = 0) : (N0 s).1.v = (C8 s 0 / 16 : Nat) := by
 unfold N0 at he ⊢
 rw [if_neg (by omega)] at he ⊢
 by_cases c4 : C8 s 0 / 16 = 4
 ·rw [if_pos c4, c4]; rfl
 rw [if_neg c4] at he ⊢
 by_cases c6 : C8 s 0 / 16 = 6
 ·rw [if_pos c6, c6]; rfl
 ·rw [if_neg c6] at he; simp at he
theorem C1G (w : World) (s : ByteArray) (hs : s.size < 2 ^ 40) : Fn PR B7 56 #[.string s] w (fun u w' => u = packet.val (C9 s) ∧ C6 [] w w') := by
 refine Fn.pure (A5V (TW.go (κ := false) (S := []) ?_))
 unfold A0m
 by_cases c0 : s.size = 0
 ·have c0' : (s.size : Int) = 0 := by omega
  have hv : C9 s = (noK, 0, 2) := by unfold C9 N0; rw [if_pos c0]; rfl
  rw [hv]
  (have zz:=trivial;repeat((first|clear zz|with_reducible first|refine A3 ?_|refine A4 fun _=>?_|refine A5 fun _=>?_);try simp(disch:=first|omega|assumption|((repeat(first|exact A1|exact uH|apply A2|apply uT));first|done|fail)|(simp;first|done|omega|fail))[c0, c0']))
  exact A9 rfl
 have c0' : ¬ (s.size : Int) = 0 := by omega
 (have zz:=trivial;repeat((first|clear zz|with_reducible first|refine A3 ?_|refine A4 fun _=>?_|refine A5 fun _=>?_);try simp(disch:=first|omega|assumption|((repeat(first|exact A1|exact uH|apply A2|apply uT));first|done|fail)|(simp;first|done|omega|fail))[c0, c0']))
 refine B8 A5n (fun w' _ => C4e w' s hs (by omega)) ?_
 have hr := B1w s
 by_cases c1 : (N0 s).2.2 = 0
 case neg =>
  have hv : C9 s = (noK, 0, (N0 s).2.2) := by unfold C9; simp only; rw [if_pos c1]
  rw [hv]
  generalize N0 s = x at *
  obtain ⟨⟨v, src, dst, fr, tp, pr⟩, rest, e⟩ := x
  simp only at c1 hr
  (have zz:=trivial;repeat((first|clear zz|with_reducible first|refine A3 ?_|refine A4 fun _=>?_|refine A5 fun _=>?_);try simp(disch:=first|omega|assumption|((repeat(first|exact A1|exact uH|apply A2|apply uT));first|done|fail)|(simp;first|done|omega|fail))[C42, c1]))
  exact A9 rfl
 have hx0 := fun K => A5E (s := s) (x := 0) (by omega) (by simp; omega) K
 rw [show (0 : Int).toNat = 0 from rfl] at hx0
 have hl0 := M5 s 0
 have hvv := C3w (by omega) c1
 have hv : C9 s = let y := K6 (N0 s).1.proto (N0 s).2.1; if y.2.2.2 ≠ 0 then (noK, 0, y.2.2.2) else ({ (N0 s).1 with fr := y.1, tp := y.2.1 }, y.2.2.1, 0) := by unfold C9; simp only; rw [if_neg (by simp [c1])]
 rw [hv]
 generalize N0 s = x at *
 generalize C8 s 0 = b at *
 obtain ⟨⟨v, src, dst, fr, tp, pr⟩, rest, e⟩ := x
 simp only at c1 hr hvv ⊢
 subst c1 hvv
 (have zz:=trivial;repeat((first|clear zz|with_reducible first|refine A3 ?_|refine A4 fun _=>?_|refine A5 fun _=>?_);try simp(disch:=first|omega|assumption|((repeat(first|exact A1|exact uH|apply A2|apply uT));first|done|fail)|(simp;first|done|omega|fail))[C42]))
 refine B8 A5D (fun w' _ => C11 w' rest (by omega) pr) ?_
 generalize K6 pr rest = y
 obtain ⟨y1, y2, y3, y4⟩ := y
 by_cases c2 : y4 = 0
 case neg =>
  simp only [if_pos c2]
  (have zz:=trivial;repeat((first|clear zz|with_reducible first|refine A3 ?_|refine A4 fun _=>?_|refine A5 fun _=>?_);try simp(disch:=first|omega|assumption|((repeat(first|exact A1|exact uH|apply A2|apply uT));first|done|fail)|(simp;first|done|omega|fail))[K6.val, c2]))
  exact A9 rfl
 ·subst c2
  (have zz:=trivial;repeat((first|clear zz|with_reducible first|refine A3 ?_|refine A4 fun _=>?_|refine A5 fun _=>?_);try simp(disch:=first|omega|assumption|((repeat(first|exact A1|exact uH|apply A2|apply uT));first|done|fail)|(simp;first|done|omega|fail))[K6.val, hx0, W4, Q5]))
  exact A9 (by simp [packet.val, U3])
theorem C21 (q c : Nat) (hc : c < 8) : q &&& c = q % 8 &&& c := by
 have h : (q &&& c) % 2 ^ 3 = q % 2 ^ 3 &&& c % 2 ^ 3 := Nat.and_mod_two_pow
 have h1 : q &&& c ≤ c := Nat.and_le_right
 rw [Nat.mod_eq_of_lt (by omega : q &&& c < 2 ^ 3), Nat.mod_eq_of_lt (by omega : c < 2 ^ 3)] at h
 exact h
theorem B8u (w : World) (k : KeyV) (f : Int) : Fn PR B7 59 #[U3 k f] w (fun u w' => u = .bool (T8 k f) ∧ C6 [] w w') := by
 refine Fn.pure (A4J (TW.go (κ := false) (S := []) ?_))
 unfold y0 U3 T8
 by_cases c0 : k.proto = 6
 case neg =>
  (have zz:=trivial;repeat((first|clear zz|with_reducible first|refine A3 ?_|refine A4 fun _=>?_|refine A5 fun _=>?_);try simp(disch:=first|omega|assumption|((repeat(first|exact A1|exact uH|apply A2|apply uT));first|done|fail)|(simp;first|done|omega|fail))[c0]))
  exact A9 (by simp)
 generalize hq : (f % 2 ^ IntKind.i64.bits).toNat = q
 have w0 : ∀ c, c < 8 → IntKind.i64.wrap ((q &&& c % 2 ^ IntKind.i64.bits : Nat) : Int) = (q % 8 &&& c : Nat) := fun c hc => by
  rw [show c % 2 ^ IntKind.i64.bits = c from Nat.mod_eq_of_lt (by show c < 2 ^ 64; omega), C21 q c hc]
  have h1 : q % 8 &&& c ≤ c := Nat.and_le_right
  exact P8 (by omega) (by omega)
 have w1 := w0 1 (by omega)
 have w4 := w0 4 (by omega)
 have w5 := w0 5 (by omega)
 have hall : ∀ r < 8, ((r &&& 1 = 1 ∨ r &&& 4 = 4) ↔ ¬ r &&& 5 = 0) := by decide
 have hr := hall (q % 8) (by omega)
 rw [w5]
 generalize q % 8 &&& 1 = x1 at *
 generalize q % 8 &&& 4 = x4 at *
 generalize q % 8 &&& 5 = x5 at *
 by_cases d1 : x1 = 1
 ·have d1' : (x1 : Int) = 1 := by omega
  have d5 : ¬ (x5 : Int) = 0 := by have := hr.1 (Or.inl d1); omega
  (have zz:=trivial;repeat((first|clear zz|with_reducible first|refine A3 ?_|refine A4 fun _=>?_|refine A5 fun _=>?_);try simp(disch:=first|omega|assumption|((repeat(first|exact A1|exact uH|apply A2|apply uT));first|done|fail)|(simp;first|done|omega|fail))[c0, hq, w1, w4, d1, d1', d5]))
  exact A9 (by simp; omega)
 have d1' : ¬ (x1 : Int) = 1 := by omega
 by_cases d4 : x4 = 4
 ·have d4' : (x4 : Int) = 4 := by omega
  have d5 : ¬ (x5 : Int) = 0 := by have := hr.1 (Or.inr d4); omega
  (have zz:=trivial;repeat((first|clear zz|with_reducible first|refine A3 ?_|refine A4 fun _=>?_|refine A5 fun _=>?_);try simp(disch:=first|omega|assumption|((repeat(first|exact A1|exact uH|apply A2|apply uT));first|done|fail)|(simp;first|done|omega|fail))[c0, hq, w1, w4, d1, d1', d4, d4', d5]))
  exact A9 (by simp; omega)
 have d4' : ¬ (x4 : Int) = 4 := by omega
 have d5 : (x5 : Int) = 0 := by omega
 (have zz:=trivial;repeat((first|clear zz|with_reducible first|refine A3 ?_|refine A4 fun _=>?_|refine A5 fun _=>?_);try simp(disch:=first|omega|assumption|((repeat(first|exact A1|exact uH|apply A2|apply uT));first|done|fail)|(simp;first|done|omega|fail))[c0, hq, w1, w4, d1, d1', d4, d4', d5]))
 exact A9 (by simp [d5])
theorem C0D (l : List UInt8) (a b : Nat) : Lib.repeatL l (a + b) = Lib.repeatL l a ++ Lib.repeatL l b := by
 induction a with
 | zero => simp [Lib.repeatL]
 | succ a ih => rw [Nat.succ_add]; simp only [Lib.repeatL, ih, List.append_assoc]
theorem B2p (a b : Nat) : Q1 z1 (a + b) = Q1 z1 a ++ Q1 z1 b := by
 apply ByteArray.ext
 rw [ByteArray.data_append]
 simp only [Q1, C0D]
 simp
theorem C3y : Q1 z1 1 = ByteArray.mk #[0] := rfl
theorem C1r : Q1 z1 0 = W2 := rfl
def A6L (s : ByteArray) : ByteArray := s ++ Q1 z1 (16 - s.size)
theorem B7x (w : World) (s : ByteArray) (hs : s.size ≤ 16) : Fn PR B7 83 #[.string s] w (fun u w' => u = .string (A6L s) ∧ C6 [] w w') := by
 refine Fn.pure (A67 (TW.go (κ := false) (S := []) ?_))
 unfold A1d
 (have zz:=trivial;repeat((first|clear zz|with_reducible first|refine A3 ?_|refine A4 fun _=>?_|refine A5 fun _=>?_);try simp(disch:=first|omega|assumption|((repeat(first|exact A1|exact uH|apply A2|apply uT));first|done|fail)|(simp;first|done|omega|fail))[]))
 rw [show (Value.string s) = .string (s ++ Q1 z1 0) by rw [C1r, w7]]
 refine A6p (fun _ : Nat => []) (· ≤ 16 - s.size) (fun i => 16 - s.size - i) 0 (fun i => .string (s ++ Q1 z1 i)) (Nat.zero_le _) ?_
 intro i hi L hL
 have hz := V8 i
 by_cases c1 : s.size + i < 16
 ·have c1' : (s.size : Int) + i < 16 := by omega
  have h := hL (i + 1) (by omega) (by omega)
  have hsz : (s ++ Q1 z1 i).size + (ByteArray.mk #[0]).size ≤ maxLen := by
   rw [ByteArray.size_append, hz]; show s.size + i + 1 ≤ maxLen; simp only [maxLen]; omega
  rw [B2p, C3y, ← ByteArray.append_assoc] at h
  (have zz:=trivial;repeat((first|clear zz|with_reducible first|refine A3 ?_|refine A4 fun _=>?_|refine A5 fun _=>?_);try simp(disch:=first|omega|assumption|((repeat(first|exact A1|exact uH|apply A2|apply uT));first|done|fail)|(simp;first|done|omega|fail))[hz, c1, c1', T6 hsz]))
  exact h
 ·have c1' : ¬ (s.size : Int) + i < 16 := by omega
  have e : i = 16 - s.size := by omega
  (have zz:=trivial;repeat((first|clear zz|with_reducible first|refine A3 ?_|refine A4 fun _=>?_|refine A5 fun _=>?_);try simp(disch:=first|omega|assumption|((repeat(first|exact A1|exact uH|apply A2|apply uT));first|done|fail)|(simp;first|done|omega|fail))[hz, c1, c1']))
  exact A9 (by rw [e]; rfl)
theorem A97 (a t : ByteArray) (m : Nat) (h : t.size ≤ m) : Y6 (a ++ Q1 z1 m) a.size t = a ++ t ++ Q1 z1 (m - t.size) := by
 have e : Q1 z1 m = Q1 z1 t.size ++ Q1 z1 (m - t.size) := by rw [← B2p]; congr 1; omega
 have hz := V8 t.size
 have hz2 := V8 (m - t.size)
 rw [e]
 unfold Y6
 apply ByteArray.ext
 apply Array.toList_inj.1
 have h1 : (Q1 z1 t.size).data.toList.length = t.size := hz
 have h2 : (Q1 z1 (m - t.size)).data.toList.length = m - t.size := hz2
 have h3 : a.data.toList.length = a.size := rfl
 simp only [ByteArray.data_append, ByteArray.data_extract, Array.toList_append, Array.toList_extract, ByteArray.size_append]
 rw [hz, hz2]
 generalize Q1 z1 t.size = u at *
 generalize Q1 z1 (m - t.size) = v at *
 have h4 : (a.data ++ (u.data ++ v.data)).toList = a.data.toList ++ (u.data.toList ++ v.data.toList) := by simp
 have h5 : t.size + (m - t.size) = m := by omega
 rw [h4, h5, ← h3, List.extract_eq_take_drop, List.extract_eq_take_drop, List.drop_zero, Nat.sub_zero, List.take_left, List.drop_append, List.drop_eq_nil_of_le (by omega), List.nil_append,
  show a.data.toList.length + t.size - a.data.toList.length = u.data.toList.length by rw [h1]; omega, List.drop_left, List.take_of_length_le (by omega)]
theorem C0C (k : KeyV) (hv : k.v = 4 ∨ k.v = 6) (hs : k.src.size = U0 k.v) (hd : k.dst.size = U0 k.v) (hp : k.proto = 6 ∨ k.proto = 17) :
  A1S k = F7 k.v 1 ++ F7 k.proto 1 ++ (F7 k.fr 2 ++ F7 k.tp 2) ++ A6L k.src ++ A6L k.dst := by
 have h2 : F7 (k.v * 256 + k.proto) 2 = F7 k.v 1 ++ F7 k.proto 1 := by
  rcases hv with h | h <;> rcases hp with h' | h' <;> rw [h, h'] <;> rfl
 have hl : U0 k.v ≤ 16 := by rcases hv with h | h <;> rw [h] <;> decide
 unfold A1S A6L
 rw [h2]
 have hH : (F7 k.v 1 ++ F7 k.proto 1 ++ F7 k.fr 2 ++ F7 k.tp 2).size = 6 := by simp
 generalize hx : F7 k.v 1 ++ F7 k.proto 1 ++ F7 k.fr 2 ++ F7 k.tp 2 = x at *
 have e1 : Y6 z38 0 x = x ++ Q1 z1 32 := by
  have := A97 W2 x 38 (by omega)
  rw [m6, m6, hH] at this; exact this
 have e2 : Y6 (x ++ Q1 z1 32) 6 k.src = x ++ k.src ++ Q1 z1 (16 - k.src.size) ++ Q1 z1 16 := by
  have := A97 x k.src 32 (by omega)
  rw [hH] at this; rw [this, ByteArray.append_assoc (c := Q1 z1 16), ← B2p]; congr 2; omega
 have e3 : (x ++ k.src ++ Q1 z1 (16 - k.src.size)).size = 22 := by rw [ByteArray.size_append, ByteArray.size_append, V8]; omega
 have e4 := A97 (x ++ k.src ++ Q1 z1 (16 - k.src.size)) k.dst 16 (by omega)
 rw [e3] at e4
 rw [e1, e2, e4, ← hx]
 simp only [ByteArray.append_assoc]
theorem C6u {n x y : Int} : (q8 n x y 0).2 = 0 ↔ (n = 6 ∨ n = 17) ∧ G8 x y = true := by
 constructor
 ·exact B39
 ·rintro ⟨h1, h2⟩
  have h3 : (A4g n 0).2 = 0 := by rcases h1 with rfl | rfl <;> rfl
  unfold q8
  rw [if_neg (by omega), if_neg (by rw [h2, h3]; simp)]
theorem B92 (k : KeyV) : Q8 k = (((decide (k.v = 4 ∧ k.src.size = 4 ∧ k.dst.size = 4) || decide (k.v = 6 ∧ k.src.size = 16 ∧ k.dst.size = 16)) && G8 k.fr k.tp) && decide (k.proto = 6 ∨ k.proto = 17)) := by
 unfold Q8
 rw [Bool.eq_iff_iff]
 simp only [decide_eq_true_eq, Bool.and_eq_true, Bool.or_eq_true, C6u]
 unfold U0
 by_cases h4 : k.v = 4
 ·rw [if_pos h4, h4]; simp; constructor
  ·rintro ⟨h1, h2, h3, h4⟩; exact ⟨⟨⟨h1, h2⟩, h4⟩, h3⟩
  ·rintro ⟨⟨⟨h1, h2⟩, h4⟩, h3⟩; exact ⟨h1, h2, h3, h4⟩
 rw [if_neg h4]
 by_cases h6 : k.v = 6
 ·rw [if_pos h6, h6]; simp; constructor
  ·rintro ⟨h1, h2, h3, h4⟩; exact ⟨⟨⟨h1, h2⟩, h4⟩, h3⟩
  ·rintro ⟨⟨⟨h1, h2⟩, h4⟩, h3⟩; exact ⟨h1, h2, h3, h4⟩
 rw [if_neg h6]; simp [h4, h6]
def B07 (ba : Nat) (t20 t35 : Value) (R : Value → WP) : WP :=
 A0 PR (Instr.fieldAt 108 (.pointer (some ⟨ba, 0, none⟩)) 3) fun t36 =>
 A6 PR (Instr.loadAt 3 t36) fun t37 =>
 A0 PR (binOp .geq 3 t37 (.int .i64 0)) fun t38 =>
 gj t38 true (fun J => A0 PR (Instr.fieldAt 108 (.pointer (some ⟨ba, 0, none⟩)) 3) J) fun t40 =>
 gj t38 true (fun J => A6 PR (Instr.loadAt 3 t40) J) fun t41 =>
 gj t38 true (fun J => A0 PR (binOp .leq 3 t41 (.int .i64 65535)) J) fun t42 =>
 A0 PR (do pure (if ← asBool t38 then t42 else (.bool false))) fun t43 =>
 gj t43 true (fun J => A0 PR (Instr.fieldAt 108 (.pointer (some ⟨ba, 0, none⟩)) 4) J) fun t45 =>
 gj t43 true (fun J => A6 PR (Instr.loadAt 3 t45) J) fun t46 =>
 gj t43 true (fun J => A0 PR (binOp .geq 3 t46 (.int .i64 0)) J) fun t47 =>
 A0 PR (do pure (if ← asBool t43 then t47 else (.bool false))) fun t48 =>
 gj t48 true (fun J => A0 PR (Instr.fieldAt 108 (.pointer (some ⟨ba, 0, none⟩)) 4) J) fun t50 =>
 gj t48 true (fun J => A6 PR (Instr.loadAt 3 t50) J) fun t51 =>
 gj t48 true (fun J => A0 PR (binOp .leq 3 t51 (.int .i64 65535)) J) fun t52 =>
 A0 PR (do pure (if ← asBool t48 then t52 else (.bool false))) fun t53 =>
 gj t20 false (fun J => J t35) fun t56 =>
 A0 PR (do pure (if ← asBool t20 then (.bool true) else t56)) fun t57 =>
 gj t57 true (fun J => J t53) fun t59 =>
 A0 PR (do pure (if ← asBool t57 then t59 else (.bool false))) fun t60 =>
 gj t60 true (fun J => A0 PR (Instr.fieldAt 108 (.pointer (some ⟨ba, 0, none⟩)) 5) J) fun t62 =>
 gj t60 true (fun J => A6 PR (Instr.loadAt 3 t62) J) fun t63 =>
 gj t60 true (fun J => A0 PR (binOp .eql 3 t63 (.int .i64 6)) J) fun t64 =>
 gj t60 true (fun J => J t64) fun t65 =>
 gj t65 false (fun J => A0 PR (Instr.fieldAt 108 (.pointer (some ⟨ba, 0, none⟩)) 5) J) fun t66 =>
 gj t65 false (fun J => A6 PR (Instr.loadAt 3 t66) J) fun t67 =>
 gj t65 false (fun J => A0 PR (binOp .eql 3 t67 (.int .i64 17)) J) fun t68 =>
 gj t60 true (fun J => A0 PR (do pure (if ← asBool t65 then (.bool true) else t68)) J) fun t69 =>
 A0 PR (do pure (if ← asBool t60 then t69 else (.bool false))) fun t70 =>
 R t70
theorem B8r (w : World) (k : KeyV) (a b : Bool) (ba : Nat) (R : Value → WP) (hR : R = Rv w (fun u => u = .bool (((a || b) && G8 k.fr k.tp) && decide (k.proto = 6 ∨ k.proto = 17)))) :
  TW false [] w [.pt ba (.cells #[.int .i64 k.v, .string k.src, .string k.dst, .int .i64 k.fr, .int .i64 k.tp, .int .i64 k.proto] 108)] (B07 ba (.bool a) (.bool b) R) := by
 unfold B07
 subst hR
 by_cases p1 : 0 ≤ k.fr
 case neg =>
  have hp : G8 k.fr k.tp = false := by simp [G8]; omega
  rw [hp]
  cases a <;> cases b <;> ((have zz:=trivial;repeat((first|clear zz|with_reducible first|refine A3 ?_|refine A4 fun _=>?_|refine A5 fun _=>?_);try simp(disch:=first|omega|assumption|((repeat(first|exact A1|exact uH|apply A2|apply uT));first|done|fail)|(simp;first|done|omega|fail))[p1])); exact A9 (by simp))
 by_cases p2 : k.fr ≤ 65535
 case neg =>
  have hp : G8 k.fr k.tp = false := by simp [G8]; omega
  rw [hp]
  cases a <;> cases b <;> ((have zz:=trivial;repeat((first|clear zz|with_reducible first|refine A3 ?_|refine A4 fun _=>?_|refine A5 fun _=>?_);try simp(disch:=first|omega|assumption|((repeat(first|exact A1|exact uH|apply A2|apply uT));first|done|fail)|(simp;first|done|omega|fail))[p1, p2])); exact A9 (by simp))
 by_cases p3 : 0 ≤ k.tp
 case neg =>
  have hp : G8 k.fr k.tp = false := by simp [G8]; omega
  rw [hp]
  cases a <;> cases b <;> ((have zz:=trivial;repeat((first|clear zz|with_reducible first|refine A3 ?_|refine A4 fun _=>?_|refine A5 fun _=>?_);try simp(disch:=first|omega|assumption|((repeat(first|exact A1|exact uH|apply A2|apply uT));first|done|fail)|(simp;first|done|omega|fail))[p1, p2, p3])); exact A9 (by simp))
 by_cases p4 : k.tp ≤ 65535
 case neg =>
  have hp : G8 k.fr k.tp = false := by simp [G8]; omega
  rw [hp]
  cases a <;> cases b <;> ((have zz:=trivial;repeat((first|clear zz|with_reducible first|refine A3 ?_|refine A4 fun _=>?_|refine A5 fun _=>?_);try simp(disch:=first|omega|assumption|((repeat(first|exact A1|exact uH|apply A2|apply uT));first|done|fail)|(simp;first|done|omega|fail))[p1, p2, p3, p4])); exact A9 (by simp))
 have hp : G8 k.fr k.tp = true := by simp [G8]; omega
 rw [hp]
 by_cases c6 : k.proto = 6
 ·cases a <;> cases b <;> ((have zz:=trivial;repeat((first|clear zz|with_reducible first|refine A3 ?_|refine A4 fun _=>?_|refine A5 fun _=>?_);try simp(disch:=first|omega|assumption|((repeat(first|exact A1|exact uH|apply A2|apply uT));first|done|fail)|(simp;first|done|omega|fail))[p1, p2, p3, p4, c6])); exact A9 (by simp))
 by_cases c7 : k.proto = 17
 ·cases a <;> cases b <;> ((have zz:=trivial;repeat((first|clear zz|with_reducible first|refine A3 ?_|refine A4 fun _=>?_|refine A5 fun _=>?_);try simp(disch:=first|omega|assumption|((repeat(first|exact A1|exact uH|apply A2|apply uT));first|done|fail)|(simp;first|done|omega|fail))[p1, p2, p3, p4, c6, c7])); exact A9 (by simp))
 ·cases a <;> cases b <;> ((have zz:=trivial;repeat((first|clear zz|with_reducible first|refine A3 ?_|refine A4 fun _=>?_|refine A5 fun _=>?_);try simp(disch:=first|omega|assumption|((repeat(first|exact A1|exact uH|apply A2|apply uT));first|done|fail)|(simp;first|done|omega|fail))[p1, p2, p3, p4, c6, c7])); exact A9 (by simp [c6, c7]))
theorem C15 (w : World) (k : KeyV) : Fn PR B7 81 #[k.val] w (fun u w' => u = .bool (Q8 k) ∧ C6 [] w w') := by
 rw [B92]
 refine Fn.pure (A5b (TW.go (κ := false) (S := []) ?_))
 unfold A0j KeyV.val
 refine A4 fun ba => ?_
 have tail := fun a b => B8r w k a b ba _ rfl
 generalize hF : (fun (a b : Bool) => (Rv w (fun u => u = Value.bool (((a || b) && G8 k.fr k.tp) && decide (k.proto = 6 ∨ k.proto = 17))))) = F
 replace tail : ∀ a b, TW false [] w [.pt ba (.cells #[.int .i64 k.v, .string k.src, .string k.dst, .int .i64 k.fr, .int .i64 k.tp, .int .i64 k.proto] 108)] (B07 ba (.bool a) (.bool b) (F a b)) := by subst hF; exact tail
 have goal : ∀ a b, decide (k.v = 4 ∧ k.src.size = 4 ∧ k.dst.size = 4) = a → decide (k.v = 6 ∧ k.src.size = 16 ∧ k.dst.size = 16) = b → ∀ R, R = F a b → TW false [] w [.pt ba (.cells #[.int .i64 k.v, .string k.src, .string k.dst, .int .i64 k.fr, .int .i64 k.tp, .int .i64 k.proto] 108)] (
 A0 PR (Instr.fieldAt 108 (.pointer (some ⟨ba, 0, none⟩)) 0) fun t6 =>
 A6 PR (Instr.loadAt 3 t6) fun t7 =>
 A0 PR (binOp .eql 3 t7 (.int .i64 4)) fun t8 =>
 gj t8 true (fun J => A0 PR (Instr.fieldAt 108 (.pointer (some ⟨ba, 0, none⟩)) 1) J) fun t10 =>
 gj t8 true (fun J => A6 PR (Instr.loadAt 9 t10) J) fun t11 =>
 gj t8 true (fun J => A0 PR (A7 .len #[9] 0 [t11]) J) fun t12 =>
 gj t8 true (fun J => A0 PR (binOp .eql 3 t12 (.int .i64 4)) J) fun t13 =>
 A0 PR (do pure (if ← asBool t8 then t13 else (.bool false))) fun t14 =>
 gj t14 true (fun J => A0 PR (Instr.fieldAt 108 (.pointer (some ⟨ba, 0, none⟩)) 2) J) fun t16 =>
 gj t14 true (fun J => A6 PR (Instr.loadAt 9 t16) J) fun t17 =>
 gj t14 true (fun J => A0 PR (A7 .len #[9] 0 [t17]) J) fun t18 =>
 gj t14 true (fun J => A0 PR (binOp .eql 3 t18 (.int .i64 4)) J) fun t19 =>
 A0 PR (do pure (if ← asBool t14 then t19 else (.bool false))) fun t20 =>
 A0 PR (Instr.fieldAt 108 (.pointer (some ⟨ba, 0, none⟩)) 0) fun t21 =>
 A6 PR (Instr.loadAt 3 t21) fun t22 =>
 A0 PR (binOp .eql 3 t22 (.int .i64 6)) fun t23 =>
 gj t23 true (fun J => A0 PR (Instr.fieldAt 108 (.pointer (some ⟨ba, 0, none⟩)) 1) J) fun t25 =>
 gj t23 true (fun J => A6 PR (Instr.loadAt 9 t25) J) fun t26 =>
 gj t23 true (fun J => A0 PR (A7 .len #[9] 0 [t26]) J) fun t27 =>
 gj t23 true (fun J => A0 PR (binOp .eql 3 t27 (.int .i64 16)) J) fun t28 =>
 A0 PR (do pure (if ← asBool t23 then t28 else (.bool false))) fun t29 =>
 gj t29 true (fun J => A0 PR (Instr.fieldAt 108 (.pointer (some ⟨ba, 0, none⟩)) 2) J) fun t31 =>
 gj t29 true (fun J => A6 PR (Instr.loadAt 9 t31) J) fun t32 =>
 gj t29 true (fun J => A0 PR (A7 .len #[9] 0 [t32]) J) fun t33 =>
 gj t29 true (fun J => A0 PR (binOp .eql 3 t33 (.int .i64 16)) J) fun t34 =>
 A0 PR (do pure (if ← asBool t29 then t34 else (.bool false))) fun t35 =>
  B07 ba t20 t35 R) := by
  intro a b h4 h6 R hR
  subst hR
  by_cases v4 : k.v = 4
  ·have v6 : ¬ k.v = 6 := by omega
   obtain rfl : b = false := by rw [← h6]; simp [v6]
   by_cases s4 : k.src.size = 4
   case neg =>
    have s4' : ¬ (k.src.size : Int) = 4 := by omega
    obtain rfl : a = false := by rw [← h4]; simp [s4]
    simp(disch:=first|omega|assumption|((repeat(first|exact A1|exact uH|apply A2|apply uT));first|done|fail)|(simp;first|done|omega|fail))[v4, v6, s4, s4']
    rw [← v4]; exact tail false false
   by_cases d4 : k.dst.size = 4
   case neg =>
    have d4' : ¬ (k.dst.size : Int) = 4 := by omega
    obtain rfl : a = false := by rw [← h4]; simp [d4]
    simp(disch:=first|omega|assumption|((repeat(first|exact A1|exact uH|apply A2|apply uT));first|done|fail)|(simp;first|done|omega|fail))[v4, v6, s4, d4, d4']
    rw [← v4]; exact tail false false
   obtain rfl : a = true := by rw [← h4]; simp [v4, s4, d4]
   simp(disch:=first|omega|assumption|((repeat(first|exact A1|exact uH|apply A2|apply uT));first|done|fail)|(simp;first|done|omega|fail))[v4, v6, s4, d4]
   rw [← v4]; exact tail true false
  obtain rfl : a = false := by rw [← h4]; simp [v4]
  by_cases v6 : k.v = 6
  ·by_cases s4 : k.src.size = 16
   case neg =>
    have s4' : ¬ (k.src.size : Int) = 16 := by omega
    obtain rfl : b = false := by rw [← h6]; simp [s4]
    simp(disch:=first|omega|assumption|((repeat(first|exact A1|exact uH|apply A2|apply uT));first|done|fail)|(simp;first|done|omega|fail))[v4, v6, s4, s4']
    rw [← v6]; exact tail false false
   by_cases d4 : k.dst.size = 16
   case neg =>
    have d4' : ¬ (k.dst.size : Int) = 16 := by omega
    obtain rfl : b = false := by rw [← h6]; simp [d4]
    simp(disch:=first|omega|assumption|((repeat(first|exact A1|exact uH|apply A2|apply uT));first|done|fail)|(simp;first|done|omega|fail))[v4, v6, s4, d4, d4']
    rw [← v6]; exact tail false false
   obtain rfl : b = true := by rw [← h6]; simp [v6, s4, d4]
   simp(disch:=first|omega|assumption|((repeat(first|exact A1|exact uH|apply A2|apply uT));first|done|fail)|(simp;first|done|omega|fail))[v4, v6, s4, d4]
   rw [← v6]; exact tail false true
  obtain rfl : b = false := by rw [← h6]; simp [v6]
  simp(disch:=first|omega|assumption|((repeat(first|exact A1|exact uH|apply A2|apply uT));first|done|fail)|(simp;first|done|omega|fail))[v4, v6]
  exact tail false false
 exact goal _ _ rfl rfl _ (by subst hF; rfl)
theorem A9A (w : World) (v n : Int) (h0 : 0 ≤ v) (h1 : v < 2 ^ 64) : Fn PR B7 82 #[.int .u64 v, .int .i64 n] w (fun u w' => u = .string (F7 v n) ∧ C6 [] w w') := by
 obtain ⟨m, rfl⟩ : ∃ m : Nat, v = m := ⟨v.toNat, by omega⟩
 exact B4x w m n (by omega)
theorem C1c (w : World) (k : KeyV) : Fn PR B7 57 #[k.val] w (fun u w' => u = z8 k ∧ C6 [] w w') := by
 refine Fn.pure (A5Z (TW.go (κ := false) (S := []) ?_))
 unfold A0k KeyV.val
 (have zz:=trivial;repeat((first|clear zz|with_reducible first|refine A3 ?_|refine A4 fun _=>?_|refine A5 fun _=>?_);try simp(disch:=first|omega|assumption|((repeat(first|exact A1|exact uH|apply A2|apply uT));first|done|fail)|(simp;first|done|omega|fail))[]))
 refine B8 A4r (fun w' _ => C15 w' k) ?_
 cases hb : Q8 k with
 | false =>
  (have zz:=trivial;repeat((first|clear zz|with_reducible first|refine A3 ?_|refine A4 fun _=>?_|refine A5 fun _=>?_);try simp(disch:=first|omega|assumption|((repeat(first|exact A1|exact uH|apply A2|apply uT));first|done|fail)|(simp;first|done|omega|fail))[]))
  exact A9 (by simp [z8, hb])
 | true =>
  have hb' := hb
  simp only [Q8, decide_eq_true_eq] at hb'
  obtain ⟨b1, b2, b3, b4⟩ := hb'
  obtain ⟨hp, hq⟩ := B39 b4
  simp only [G8, decide_eq_true_eq] at hq
  have hv : k.v = 4 ∨ k.v = 6 := by unfold U0 at b1; split at b1 <;> (try split at b1) <;> omega
  have hval := C0C k hv b2 b3 hp
  have hl : U0 k.v ≤ 16 := by rcases hv with h | h <;> rw [h] <;> decide
  have hw1 : (A6L k.src).size ≤ 16 := by unfold A6L; rw [ByteArray.size_append, V8]; omega
  have hw2 : (A6L k.dst).size ≤ 16 := by unfold A6L; rw [ByteArray.size_append, V8]; omega
  (have zz:=trivial;repeat((first|clear zz|with_reducible first|refine A3 ?_|refine A4 fun _=>?_|refine A5 fun _=>?_);try simp(disch:=first|omega|assumption|((repeat(first|exact A1|exact uH|apply A2|apply uT));first|done|fail)|(simp;first|done|omega|fail))[]))
  refine B8 N4 (fun w' _ => A9A w' k.v 1 (by omega) (by omega)) ?_
  (have zz:=trivial;repeat((first|clear zz|with_reducible first|refine A3 ?_|refine A4 fun _=>?_|refine A5 fun _=>?_);try simp(disch:=first|omega|assumption|((repeat(first|exact A1|exact uH|apply A2|apply uT));first|done|fail)|(simp;first|done|omega|fail))[]))
  refine B8 N4 (fun w' _ => A9A w' _ 1 (by omega) (by omega)) ?_
  (have zz:=trivial;repeat((first|clear zz|with_reducible first|refine A3 ?_|refine A4 fun _=>?_|refine A5 fun _=>?_);try simp(disch:=first|omega|assumption|((repeat(first|exact A1|exact uH|apply A2|apply uT));first|done|fail)|(simp;first|done|omega|fail))[T6]))
  refine B8 N4 (fun w' _ => A9A w' _ 2 (by omega) (by omega)) ?_
  (have zz:=trivial;repeat((first|clear zz|with_reducible first|refine A3 ?_|refine A4 fun _=>?_|refine A5 fun _=>?_);try simp(disch:=first|omega|assumption|((repeat(first|exact A1|exact uH|apply A2|apply uT));first|done|fail)|(simp;first|done|omega|fail))[]))
  refine B8 N4 (fun w' _ => A9A w' _ 2 (by omega) (by omega)) ?_
  (have zz:=trivial;repeat((first|clear zz|with_reducible first|refine A3 ?_|refine A4 fun _=>?_|refine A5 fun _=>?_);try simp(disch:=first|omega|assumption|((repeat(first|exact A1|exact uH|apply A2|apply uT));first|done|fail)|(simp;first|done|omega|fail))[T6]))
  refine B8 A00 (fun w' _ => B7x w' _ (by omega)) ?_
  (have zz:=trivial;repeat((first|clear zz|with_reducible first|refine A3 ?_|refine A4 fun _=>?_|refine A5 fun _=>?_);try simp(disch:=first|omega|assumption|((repeat(first|exact A1|exact uH|apply A2|apply uT));first|done|fail)|(simp;first|done|omega|fail))[T6]))
  refine B8 A00 (fun w' _ => B7x w' _ (by omega)) ?_
  (have zz:=trivial;repeat((first|clear zz|with_reducible first|refine A3 ?_|refine A4 fun _=>?_|refine A5 fun _=>?_);try simp(disch:=first|omega|assumption|((repeat(first|exact A1|exact uH|apply A2|apply uT));first|done|fail)|(simp;first|done|omega|fail))[T6]))
  exact A9 (by simp [z8, hb, hval])
end Go.Proofs.YtlplkjgcfjdinaaGreat
namespace Go.Proofs.YtlplkjgcfjdinaaGreat
open Go
theorem B80 {l : List G2} {i : Nat} {x : G2} (hx : l[i]? = some x) (h : ∀ j y, j < i → l[j]? = some y → y.1 ≠ x.1) : Z1 l x.1 = (i : Nat) := by
 rw [Z1, A58 hx (by simp) fun j y hj hy => by simpa using h j y hj hy]
theorem B5m (l : List G2) : s9 l = true ↔ ∀ i x, l[i]? = some x → A2a x = true ∧ Z1 l x.1 = (i : Nat) := by
 rw [A4N]
 constructor
 ·rintro ⟨h1, h2⟩ i x hx
  exact ⟨h1 x (List.mem_of_getElem? hx), B80 hx fun j y hj hy => C5V h2 hj hy hx⟩
 ·intro h
  refine ⟨fun b hb => ?_, List.pairwise_iff_getElem.2 fun i j hi hj hij e => ?_⟩
  ·obtain ⟨i, hi⟩ := List.getElem?_of_mem hb
   exact (h i b hi).1
  ·have h1 := (h i _ (List.getElem?_eq_getElem hi)).2
   have h2 := (h j _ (List.getElem?_eq_getElem hj)).2
   rw [e, h2] at h1
   omega
theorem C2w (w : World) (v : Value) (l : List G2) (hn : l.length ≤ 1000000) (hv : D4 w v l.length (l.flatMap E7)) :
  Fn PR B7 48 #[v] w (fun r w' => r = .int .i64 (N8 l) ∧ C6 [] w w') := by
 refine Fn.pure (A5e (TW.go (κ := false) (S := []) ?_))
 unfold A0g
 obtain ⟨a, c, rfl, hr⟩ := hv.form
 by_cases c0 : 32 < l.length
 ·have c0' : (32 : Int) < l.length := by omega
  (have zz:=trivial;repeat((first|clear zz|with_reducible first|refine A3 ?_|refine A4 fun _=>?_|refine A5 fun _=>?_);try simp(disch:=first|omega|assumption|((repeat(first|exact A1|exact uH|apply A2|apply uT));first|done|fail)|(simp;first|done|omega|fail))[c0, c0']))
  exact A9 (by simp [N8]; omega)
 have c0' : ¬ (32 : Int) < l.length := by omega
 (have zz:=trivial;repeat((first|clear zz|with_reducible first|refine A3 ?_|refine A4 fun _=>?_|refine A5 fun _=>?_);try simp(disch:=first|omega|assumption|((repeat(first|exact A1|exact uH|apply A2|apply uT));first|done|fail)|(simp;first|done|omega|fail))[c0, c0']))
 refine H4 (α := Unit) l.length (fun _ _ => .int .i64 0) (fun _ _ => []) (fun i _ => ∀ j x, j < i → l[j]? = some x → A2a x = true ∧ Z1 l x.1 = (j : Nat)) () (by intro j x hj; omega) ?_
 rintro i _ hi hpre L hL
 by_cases hlt : i < l.length
 ·obtain ⟨b, o, rfl, hrow⟩ := hr (by omega)
  have hx : l[i]? = some l[i] := List.getElem?_eq_getElem hlt
  generalize l[i] = x at hx
  have h1 := hrow.at (f := E7) (k := 2) (fun _ => rfl) hx
  rw [E7] at h1
  have bad : ¬ (A2a x = true ∧ Z1 l x.1 = (i : Nat)) → N8 l = 10 := fun h => by
   have : s9 l = false := by
    rw [← Bool.not_eq_true, B5m]
    exact fun hh => h (hh i x hx)
   simp [N8, this]
  by_cases c1 : x.1 < 1
  ·rw [bad fun h => by have := h.1; simp [A2a] at this; omega]
   (have zz:=trivial;repeat((first|clear zz|with_reducible first|refine A3 ?_|refine A4 fun _=>?_|refine A5 fun _=>?_);try simp(disch:=first|omega|assumption|((repeat(first|exact A1|exact uH|apply A2|apply uT));first|done|fail)|(simp;first|done|omega|fail))[hlt, h1, c1]))
   exact A9 rfl
  by_cases c2 : 65535 < x.1
  ·rw [bad fun h => by have := h.1; simp [A2a] at this; omega]
   (have zz:=trivial;repeat((first|clear zz|with_reducible first|refine A3 ?_|refine A4 fun _=>?_|refine A5 fun _=>?_);try simp(disch:=first|omega|assumption|((repeat(first|exact A1|exact uH|apply A2|apply uT));first|done|fail)|(simp;first|done|omega|fail))[hlt, h1, c1, c2]))
   exact A9 rfl
  by_cases c3 : x.2 < 1
  ·rw [bad fun h => by have := h.1; simp [A2a] at this; omega]
   (have zz:=trivial;repeat((first|clear zz|with_reducible first|refine A3 ?_|refine A4 fun _=>?_|refine A5 fun _=>?_);try simp(disch:=first|omega|assumption|((repeat(first|exact A1|exact uH|apply A2|apply uT));first|done|fail)|(simp;first|done|omega|fail))[hlt, h1, c1, c2, c3]))
   exact A9 rfl
  by_cases c4 : 16 < x.2
  ·rw [bad fun h => by have := h.1; simp [A2a] at this; omega]
   (have zz:=trivial;repeat((first|clear zz|with_reducible first|refine A3 ?_|refine A4 fun _=>?_|refine A5 fun _=>?_);try simp(disch:=first|omega|assumption|((repeat(first|exact A1|exact uH|apply A2|apply uT));first|done|fail)|(simp;first|done|omega|fail))[hlt, h1, c1, c2, c3, c4]))
   exact A9 rfl
  (have zz:=trivial;repeat((first|clear zz|with_reducible first|refine A3 ?_|refine A4 fun _=>?_|refine A5 fun _=>?_);try simp(disch:=first|omega|assumption|((repeat(first|exact A1|exact uH|apply A2|apply uT));first|done|fail)|(simp;first|done|omega|fail))[hlt, h1, c1, c2, c3, c4]))
  refine B8 A0s (fun w' hw' => B5g w' _ l _ hn (hv.ks hw'.ks (by simp))) ?_
  by_cases c5 : Z1 l x.1 = (i : Nat)
  case neg =>
   rw [bad fun h => c5 h.2]
   (have zz:=trivial;repeat((first|clear zz|with_reducible first|refine A3 ?_|refine A4 fun _=>?_|refine A5 fun _=>?_);try simp(disch:=first|omega|assumption|((repeat(first|exact A1|exact uH|apply A2|apply uT));first|done|fail)|(simp;first|done|omega|fail))[c5]))
   exact A9 rfl
  ·(have zz:=trivial;repeat((first|clear zz|with_reducible first|refine A3 ?_|refine A4 fun _=>?_|refine A5 fun _=>?_);try simp(disch:=first|omega|assumption|((repeat(first|exact A1|exact uH|apply A2|apply uT));first|done|fail)|(simp;first|done|omega|fail))[c5]))
   refine Sels.tw .nil (hL hlt () ?_)
   intro j y hj hy
   by_cases hji : j = i
   ·subst hji
    rw [hx] at hy
    cases hy
    exact ⟨by simp [A2a]; omega, c5⟩
   ·exact hpre j y (by omega) hy
 ·obtain rfl : i = l.length := by omega
  have hok : s9 l = true := (B5m l).2 fun j x hx => hpre j x (List.getElem?_eq_some_iff.1 hx).1 hx
  have hv : N8 l = 0 := by simp [N8, hok]; omega
  rw [hv]
  (have zz:=trivial;repeat((first|clear zz|with_reducible first|refine A3 ?_|refine A4 fun _=>?_|refine A5 fun _=>?_);try simp(disch:=first|omega|assumption|((repeat(first|exact A1|exact uH|apply A2|apply uT));first|done|fail)|(simp;first|done|omega|fail))[]))
  exact A9 rfl
end Go.Proofs.YtlplkjgcfjdinaaGreat
namespace Go.Proofs.YtlplkjgcfjdinaaGreat
open Go
def A1T (X : Nat → Prop) (t0 t1 t2 t3 : Value) (R : Value → WP) : WP :=
 jn (n := 1) (fun t1_1 =>
 A0 PR (A7 .max #[3, 3] 0 [t2, (.int .i64 0)]) fun t23 =>
 A0 PR (A7 .len #[79] 0 [t0]) fun t25 =>
 A0 PR (A7 .min #[3, 3] 0 [t23, t25]) fun t26 =>
 jn (n := 4) (fun t0_1 t12 t1_2 t13 =>
 jn (n := 1) (fun t0_2 =>
 R (.tuple #[t0_2, t1_2, t12])) fun J1 =>
 A0 PR (binOp .gtr 3 t12 (.int .i64 0)) fun t50 =>
 B3 t50 (
 B2 PR X 68 [t0_1] fun t52 =>
 J1 t52) (
 J1 t0_1)) fun J2 =>
 lp (n := 4) (fun L3 t0_3 t12_1 t1_3 t13_1 =>
 jn (n := 0) (
 jn (n := 3) (fun t0_4 t12_2 t1_4 =>
 A0 PR (binOp .add 3 t13_1 (.int .i64 1)) fun t31 =>
 L3 t0_4 t12_2 t1_4 t31) fun J4 =>
 jn (n := 2) (fun t0_5 t12_3 =>
 A0 PR (binOp .add 3 t1_3 (.int .i64 1)) fun t44 =>
 A0 PR (A7 .len #[79] 0 [t0_5]) fun t47 =>
 A0 PR (binOp .eql 3 t44 t47) fun t48 =>
 B3 t48 (
 J4 t0_5 t12_3 (.int .i64 0)) (
 J4 t0_5 t12_3 t44)) fun J5 =>
 A0 PR (Instr.indexAt 79 t0_3 t1_3) fun t34 =>
 A6 PR (Instr.loadAt 119 t34) fun t35 =>
 B2 PR X 66 [t35, t3] fun t37 =>
 B3 t37 (
 B2 PR X 67 [t0_3, t1_3] fun t40 =>
 A0 PR (binOp .add 3 t12_1 (.int .i64 1)) fun t42 =>
 J5 t40 t42) (
 J5 t0_3 t12_1)) fun J6 =>
 A0 PR (binOp .lss 3 t13_1 t26) fun t29 =>
 B3 t29 (
 J6) (
 J2 t0_3 t12_1 t1_3 t13_1)) t0 (.int .i64 0) t1_1 (.int .i64 0)) fun J7 =>
 A0 PR (binOp .lss 3 t1 (.int .i64 0)) fun t15 =>
 gj t15 false (fun J => J t1) fun t17 =>
 gj t15 false (fun J => J t0) fun t18 =>
 gj t15 false (fun J => A0 PR (A7 .len #[79] 0 [t18]) J) fun t19 =>
 gj t15 false (fun J => A0 PR (binOp .geq 3 t17 t19) J) fun t20 =>
 A0 PR (do pure (if ← asBool t15 then (.bool true) else t20)) fun t21 =>
 B3 t21 (
 J7 (.int .i64 0)) (
 J7 t1)
theorem A5k : B0 PR 49 := A8 Tryz.func49 (by kernel_rfl) rfl
theorem A7Z {X : Nat → Prop} {t0 t1 t2 t3 : Value} {R : Value → WP} {w : World} (h : A1T X t0 t1 t2 t3 R w) : Fn PR X 49 #[t0, t1, t2, t3] w R := C7 (args := [t0, t1, t2, t3]) mixed Tryz.func49 (by kernel_rfl) h
def A2M (X : Nat → Prop) (t0 t1 : Value) (R : Value → WP) : WP :=
 B1 PR X (Instr.box 119 t0) fun t2 =>
 A0 PR (Instr.fieldAt 119 t2 0) fun t5 =>
 A6 PR (Instr.loadAt 3 t5) fun t6 =>
 A0 PR (binOp .eql 3 t6 (.int .i64 1)) fun t7 =>
 gj t7 true (fun J => A0 PR (Instr.fieldAt 119 t2 3) J) fun t9 =>
 gj t7 true (fun J => A6 PR (Instr.loadAt 3 t9) J) fun t10 =>
 gj t7 true (fun J => J t1) fun t11 =>
 gj t7 true (fun J => A0 PR (binOp .lss 3 t10 t11) J) fun t12 =>
 A0 PR (do pure (if ← asBool t7 then t12 else (.bool false))) fun t13 =>
 R t13
theorem A6y : B0 PR 66 := A8 Tryz.func66 (by kernel_rfl) rfl
theorem A8F {X : Nat → Prop} {t0 t1 : Value} {R : Value → WP} {w : World} (h : A2M X t0 t1 R w) : Fn PR X 66 #[t0, t1] w R := C7 (args := [t0, t1]) mixed Tryz.func66 (by kernel_rfl) h
end Go.Proofs.YtlplkjgcfjdinaaGreat
