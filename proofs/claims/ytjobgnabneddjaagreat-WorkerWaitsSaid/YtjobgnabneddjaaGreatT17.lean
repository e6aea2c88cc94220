/- The proof of a given statement, a part of it (Atm Cells Cells2 ShEpoch Ep Ep2 ShSlots Slo Slo2 Wor Wor2 Wor3 Con Con2 Con3 Con4 Con5 Con6 Con7 ShL20 Upd Upd2 RunG Job Jw1 Jw2 UpdR BusL CurL Jw3 Jw4 Jw5 LockL LockM JwQ WsN JwK Works19 ShR12 Live WaitL WaitW). No condition but what each lemma says. -/
import Derived.Conc.AtomicLaws2
import Derived.Test.YtjobgnabneddjaaGreatT16
set_option linter.unusedVariables false
set_option linter.unusedSimpArgs false
namespace Go.Proofs.YtjobgnabneddjaaGreat
open Go
theorem B1M {w : World} {b o : Nat} {c : Array Value} {T : TypeId} (v : Value) (hb : bl w b = some (.cells c T (0, 0))) : w.setCell ⟨b, o, none⟩ v = World.putb w b (.cells (c.setIfInBounds o v) T (0, 0)) := by
 unfold World.setCell World.putb
 congr 1
 apply Array.ext_getElem?
 intro r
 rw [Array.getElem?_modify]
 by_cases hr : b = r
 ·subst hr
  have : w.heap[b]? = some (.cells c T (0, 0)) := hb
  rw [Array.getElem?_setIfInBounds_self_of_lt (show b < w.heap.size from G5 hb)]
  simp [this]
 ·rw [Array.getElem?_setIfInBounds_ne hr]; simp [hr]
theorem B6v {w : World} {b o : Nat} {c : Array Value} {T : TypeId} (hb : bl w b = some (.cells c T (0, 0))) : w.frozen? ⟨b, o, none⟩ = false := by
 have : w.heap[b]? = some (.cells c T (0, 0)) := hb
 simp [World.frozen?, this]
theorem B23 {w : World} {b o : Nat} {c : Array Value} {T : TypeId} {x d : Int} (hb : bl w b = some (.cells c T (0, 0))) (ho : c[o]? = some (.int .i64 x)) :
  (callFunc 234 #[.pointer (some ⟨b, o, none⟩), .int .i64 d]).run PR w = .ok (.value (.int .i64 (IntKind.i64.wrap (x + d)))) (World.putb w b (.cells (c.setIfInBounds o (.int .i64 (IntKind.i64.wrap (x + d)))) T (0, 0))) := by
 have h1 : Extern.findNext Tryz.f234 = none := by kernel_rfl
 have h2 : Extern.find Tryz.f234 = some (Extern.Atomic.update (Op.intArith .add) .i64 true) := by kernel_rfl
 have h3 : (Tryz.f234.name == "runtime.NumGoroutine") = false := by kernel_rfl
 have h4 : Tryz.f234.body.isNone = true := by kernel_rfl
 have h5 : PR.funcs[234]? = some Tryz.f234 := Tryz.func234
 have hc : w.cell? ⟨b, o, none⟩ = some (.int .i64 x) := by rw [D8 hb]; exact ho
 have hf := B6v (o := o) hb
 simp only [callFunc, Sem.run_bind, run_program, Result.andThen_ok, h5, h3, h4, Bool.false_eq_true, if_false, if_true, h1, h2]
 have := Conc.run_add_entry (P := PR) (ad := ⟨b, o, none⟩) (k := .i64) (v := x) (d := d) hc hf
 rw [B1M _ hb] at this
 have hm : (mark (Mark.extern 234)).run PR w = .ok () w := rfl
 rw [hm, Result.andThen_ok, this]
 rfl
theorem B5d {κ : Bool} {X : Nat → Prop} {S : List Nat} {w0 : World} {H H' : List Res} {K : Value → WP} {b o : Nat} {c : Array Value} {T : TypeId} {x d : Int} (ho : c[o]? = some (.int .i64 x))
  (hu : Up (.pt b (.cells c T (0, 0))) (.pt b (.cells (c.setIfInBounds o (.int .i64 (IntKind.i64.wrap (x + d)))) T (0, 0))) H H')
  (hK : TW κ S w0 H' (K (.int .i64 (IntKind.i64.wrap (x + d))))) : TW κ S w0 H (B5 PR X 234 [.pointer (some ⟨b, o, none⟩), .int .i64 d] K) := fun w hw => by
 have hm : Res.pt b (.cells c T (0, 0)) ∈ H := by obtain ⟨A, B, rfl, _⟩ := hu.parts; simp
 have hb := hw.pt hm
 refine Or.inr ⟨_, _, B23 hb ho, Sk.putb _ hb, hK _ (hw.up hu ⟨KS.putb hb (by simp [Res.foot]), ?_, ?_, by simp⟩)⟩
 ·simp only [List.mem_singleton, forall_eq, Res.holds]; exact ⟨M6 (G5 hb), rfl⟩
 ·simp only [List.mem_singleton, forall_eq, Res.foot]; exact ⟨Or.inl (by simp), by have := G5 hb; simpa using this⟩
end Go.Proofs.YtjobgnabneddjaaGreat
namespace Go.Proofs.YtjobgnabneddjaaGreat
open Go
def H3 (l : List Int) : List Value := l.map fun n => .int .i64 n
@[simp] theorem C5V (l : List Int) : (H3 l).length = l.length := by unfold H3; rw [List.length_map]
theorem A9F {l : List Int} {i : Nat} (h : i < l.length) : (H3 l)[i]? = some (.int .i64 (l.getD i 0)) := by
 unfold H3; rw [List.getElem?_map, List.getElem?_eq_getElem h, List.getD_eq_getElem?_getD, List.getElem?_eq_getElem h]; rfl
theorem A7P {l : List Int} {i : Nat} (h : i < l.length) (v : Int) : Z5 (H3 l) i [.int .i64 v] = H3 (l.set i v) := by
 unfold Z5 H3
 rw [List.map_set, List.set_eq_take_append_cons_drop, if_pos (by simpa using h)]
 simp
def D3 (b : Nat) (n : Int) (cv ov : Value) (cs os : List Int) : List Res := [.pt b (.cells #[.int .i64 n, cv, ov] 141), .own 3 1 cv cs.length (H3 cs), .own 3 1 ov os.length (H3 os)]
theorem B74 (w : World) (b : Nat) (n : Int) (cv ov : Value) (hw : LW false [b] w [.pt b (.cells #[.int .i64 n, cv, ov] 141)] w) :
  Fn PR B7 178 #[.pointer (some ⟨b, 0, none⟩), .int .i64 1] w (Rn [b] w (fun (_ : Unit) u => u = .int .i64 (IntKind.i64.wrap (n + 1))) fun _ => [.pt b (.cells #[.int .i64 (IntKind.i64.wrap (n + 1)), cv, ov] 141)]) := by
 refine A1K (TW.goH (κ := false) (S := [b]) ?_ hw)
 unfold Z4
 (have zz:=trivial;repeat((first|clear zz|with_reducible first|refine A3 ?_|refine A5 fun _=>?_|refine A4 fun _=>?_);try simp(disch:=first|omega|assumption|((repeat(first|exact A1|exact uH|apply A2|apply uT));first|done|fail)|(simp;first|done|omega|fail))[]))
 refine B5d (x := n) (c := #[.int .i64 n, cv, ov]) (o := 0) rfl Up.here ?_
 exact B4 () rfl (by (repeat' constructor))
theorem B6Z (w : World) (b : Nat) (n : Int) (cv ov : Value) (hw : LW false [b] w [.pt b (.cells #[.int .i64 n, cv, ov] 141)] w) :
  Fn PR B7 129 #[.pointer (some ⟨b, 0, none⟩)] w (Rn [b] w (fun (n : Int) u => u = .tuple #[]) fun n => [.pt b (.cells #[.int .i64 n, cv, ov] 141)]) := by
 refine A2V (TW.goH (κ := false) (S := [b]) ?_ hw)
 unfold e8
 (have zz:=trivial;repeat((first|clear zz|with_reducible first|refine A3 ?_|refine A5 fun _=>?_|refine A4 fun _=>?_);try simp(disch:=first|omega|assumption|((repeat(first|exact A1|exact uH|apply A2|apply uT));first|done|fail)|(simp;first|done|omega|fail))[]))
 refine C6 (Hc := [.pt b (.cells #[.int .i64 n, cv, ov] 141)]) A0z (fun w' _ hs => B74 w' b n cv ov hs) (by (repeat' constructor)) ?_
 rintro _ v rfl
 exact B4 (IntKind.i64.wrap (n + 1)) rfl (by (repeat' constructor))
def A1z (v : Value) (l : List Int) (i : Int) (u : Value) : Prop := if 0 ≤ i ∧ i < l.length then ∃ g c, v = .slice (some ⟨g, 0, none⟩) l.length c ∧ u = .pointer (some ⟨g, i.toNat, none⟩) else u = .pointer none
theorem A6b (w : World) (b : Nat) (n : Int) (cv ov : Value) (v : Value) (l : List Int) (i : Int) (hl : l.length ≤ 1024) (hv : L7 w 3 1 v l.length (H3 l)) (hw : LW false [b] w [.pt b (.cells #[.int .i64 n, cv, ov] 141)] w) :
  Fn PR B7 74 #[.pointer (some ⟨b, 0, none⟩), v, .int .i64 i] w (Rn [b] w (fun (n : Int) u => A1z v l i u) fun n => [.pt b (.cells #[.int .i64 n, cv, ov] 141)]) := by
 refine A41 (TW.goH (κ := false) (S := [b]) ?_ hw)
 unfold w7
 obtain ⟨a, c, rfl⟩ := hv.form
 by_cases c1 : i < 0
 ·(have zz:=trivial;repeat((first|clear zz|with_reducible first|refine A3 ?_|refine A5 fun _=>?_|refine A4 fun _=>?_);try simp(disch:=first|omega|assumption|((repeat(first|exact A1|exact uH|apply A2|apply uT));first|done|fail)|(simp;first|done|omega|fail))[c1]))
  exact B4 n (by unfold A1z; rw [if_neg (by omega)]) (by (repeat' constructor))
 by_cases c2 : (l.length : Int) ≤ i
 ·(have zz:=trivial;repeat((first|clear zz|with_reducible first|refine A3 ?_|refine A5 fun _=>?_|refine A4 fun _=>?_);try simp(disch:=first|omega|assumption|((repeat(first|exact A1|exact uH|apply A2|apply uT));first|done|fail)|(simp;first|done|omega|fail))[c1, c2]))
  exact B4 n (by unfold A1z; rw [if_neg (by omega)]) (by (repeat' constructor))
 obtain ⟨j, rfl⟩ : ∃ j : Nat, i = j := ⟨i.toNat, by omega⟩
 have hj : j < l.length := by omega
 have hj2 : ¬ l.length ≤ j := by omega
 rcases hv.2 with ⟨h, e⟩ | ⟨g, cap, cur, e, h2⟩
 ·omega
 cases e
 (have zz:=trivial;repeat((first|clear zz|with_reducible first|refine A3 ?_|refine A5 fun _=>?_|refine A4 fun _=>?_);try simp(disch:=first|omega|assumption|((repeat(first|exact A1|exact uH|apply A2|apply uT));first|done|fail)|(simp;first|done|omega|fail))[c1, c2, hj, hj2]))
 refine C6 (Hc := [.pt b (.cells #[.int .i64 n, cv, ov] 141)]) A1u (fun w' _ hs => B6Z w' b n cv ov hs) (by (repeat' constructor)) ?_
 rintro m v rfl
 (have zz:=trivial;repeat((first|clear zz|with_reducible first|refine A3 ?_|refine A5 fun _=>?_|refine A4 fun _=>?_);try simp(disch:=first|omega|assumption|((repeat(first|exact A1|exact uH|apply A2|apply uT));first|done|fail)|(simp;first|done|omega|fail))[c1, c2, hj, hj2]))
 exact B4 m (by unfold A1z; rw [if_pos (by omega)]; exact ⟨_, _, rfl, by simp⟩) (by (repeat' constructor))
theorem A4W (w : World) (b : Nat) (n : Int) (cv ov : Value) (cs os : List Int) (i : Int) (hl : cs.length ≤ 1024) (hw : LW false (B3 (D3 b n cv ov cs os)) w (D3 b n cv ov cs os) w) :
  Fn PR B7 35 #[.pointer (some ⟨b, 0, none⟩), .int .i64 i] w (Rn (B3 (D3 b n cv ov cs os)) w (fun (n : Int) u => u = .int .i64 (G1 cs i)) fun n => D3 b n cv ov cs os) := by
 refine A5K (TW.goH (κ := false) (S := B3 (D3 b n cv ov cs os)) ?_ hw)
 unfold v7
 refine A1y (e := 3) (k := 1) (v := cv) (q := cs.length) (xs := H3 cs) (by simp only [D3]; (repeat constructor)) fun ca cc e => ?_
 subst e
 simp only [D3]
 (have zz:=trivial;repeat((first|clear zz|with_reducible first|refine A3 ?_|refine A5 fun _=>?_|refine A4 fun _=>?_);try simp(disch:=first|omega|assumption|((repeat(first|exact A1|exact uH|apply A2|apply uT));first|done|fail)|(simp;first|done|omega|fail))[]))
 refine C6 (Hc := [.pt b (.cells #[.int .i64 n, .slice ca cs.length cc, ov] 141)]) Q5 (fun w' hw' hs => A6b w' b n (.slice ca cs.length cc) ov (.slice ca cs.length cc) cs i hl (hw'.hold (.own 3 1 (.slice ca cs.length cc) cs.length (H3 cs)) ?_) hs) (by (repeat' constructor)) ?_
 ·(repeat constructor)
 intro m u hu
 unfold A1z at hu
 by_cases c1 : 0 ≤ i ∧ i < cs.length
 ·rw [if_pos c1] at hu
  obtain ⟨g, c, e, rfl⟩ := hu
  cases e
  obtain ⟨j, rfl⟩ : ∃ j : Nat, i = j := ⟨i.toNat, by omega⟩
  have hj : j < cs.length := by omega
  have hg := A9F hj
  (have zz:=trivial;repeat((first|clear zz|with_reducible first|refine A3 ?_|refine A5 fun _=>?_|refine A4 fun _=>?_);try simp(disch:=first|omega|assumption|((repeat(first|exact A1|exact uH|apply A2|apply uT));first|done|fail)|(simp;first|done|omega|fail))[hg]))
  exact B4 m (by unfold G1; rw [if_pos c1, Int.toNat_natCast]; exact (List.getElem?_eq_some_iff.1 hg).2) (by (repeat' constructor))
 ·rw [if_neg c1] at hu
  subst hu
  (have zz:=trivial;repeat((first|clear zz|with_reducible first|refine A3 ?_|refine A5 fun _=>?_|refine A4 fun _=>?_);try simp(disch:=first|omega|assumption|((repeat(first|exact A1|exact uH|apply A2|apply uT));first|done|fail)|(simp;first|done|omega|fail))[]))
  exact B4 m (by unfold G1; rw [if_neg c1]) (by (repeat' constructor))
theorem A98 (w : World) (b : Nat) (n : Int) (cv ov : Value) (cs os : List Int) (i v : Int) (hl : cs.length ≤ 1024) (hw : LW false (B3 (D3 b n cv ov cs os)) w (D3 b n cv ov cs os) w) :
  Fn PR B7 31 #[.pointer (some ⟨b, 0, none⟩), .int .i64 i, .int .i64 v] w (Rn (B3 (D3 b n cv ov cs os)) w (fun (n : Int) u => u = .tuple #[]) fun n => D3 b n cv ov (g6 cs i v) os) := by
 refine A35 (TW.goH (κ := false) (S := B3 (D3 b n cv ov cs os)) ?_ hw)
 unfold r5
 refine A1y (e := 3) (k := 1) (v := cv) (q := cs.length) (xs := H3 cs) (by simp only [D3]; (repeat constructor)) fun ca cc e => ?_
 subst e
 simp only [D3]
 (have zz:=trivial;repeat((first|clear zz|with_reducible first|refine A3 ?_|refine A5 fun _=>?_|refine A4 fun _=>?_);try simp(disch:=first|omega|assumption|((repeat(first|exact A1|exact uH|apply A2|apply uT));first|done|fail)|(simp;first|done|omega|fail))[]))
 refine C6 (Hc := [.pt b (.cells #[.int .i64 n, .slice ca cs.length cc, ov] 141)]) Q5 (fun w' hw' hs => A6b w' b n (.slice ca cs.length cc) ov (.slice ca cs.length cc) cs i hl (hw'.hold (.own 3 1 (.slice ca cs.length cc) cs.length (H3 cs)) ?_) hs) (by (repeat' constructor)) ?_
 ·(repeat constructor)
 intro m u hu
 unfold A1z at hu
 by_cases c1 : 0 ≤ i ∧ i < cs.length
 ·rw [if_pos c1] at hu
  obtain ⟨g, c, e, rfl⟩ := hu
  cases e
  obtain ⟨j, rfl⟩ : ∃ j : Nat, i = j := ⟨i.toNat, by omega⟩
  have hj : j < cs.length := by omega
  (have zz:=trivial;repeat((first|clear zz|with_reducible first|refine A3 ?_|refine A5 fun _=>?_|refine A4 fun _=>?_);try simp(disch:=first|omega|assumption|((repeat(first|exact A1|exact uH|apply A2|apply uT));first|done|fail)|(simp;first|done|omega|fail))[]))
  refine k7 (by (repeat constructor)) (by simp) (by simp; omega) (by simp) ?_
  refine B4 m rfl ?_
  have e : Z5 (H3 cs) ((j : Nat) : Int).toNat [.int .i64 v] = H3 (g6 cs j v) := by unfold g6; rw [if_pos c1, Int.toNat_natCast, A7P hj]
  have el : (g6 cs j v).length = cs.length := by unfold g6; rw [if_pos c1, List.length_set]
  rw [el, ← e]
  simp
  (repeat' constructor)
 ·rw [if_neg c1] at hu
  subst hu
  (have zz:=trivial;repeat((first|clear zz|with_reducible first|refine A3 ?_|refine A5 fun _=>?_|refine A4 fun _=>?_);try simp(disch:=first|omega|assumption|((repeat(first|exact A1|exact uH|apply A2|apply uT));first|done|fail)|(simp;first|done|omega|fail))[]))
  exact B4 m rfl (by unfold g6; rw [if_neg c1]; (repeat' constructor))
theorem B10 (w : World) (v u : Value) (l : List Int) (i x y : Int) (hu : A1z v l i u) (hw : LW false (B3 [.own 3 1 v l.length (H3 l)]) w [.own 3 1 v l.length (H3 l)] w) :
  Fn PR B7 75 #[u, .int .i64 x, .int .i64 y] w (Rn (B3 [.own 3 1 v l.length (H3 l)]) w (fun (_ : Unit) r => r = .bool (decide (0 ≤ i ∧ i < l.length ∧ l.getD i.toNat 0 = x))) fun _ => [.own 3 1 v (A0C l i x y).length (H3 (A0C l i x y))]) := by
 refine B0K (TW.goH (κ := false) (S := B3 [.own 3 1 v l.length (H3 l)]) ?_ hw)
 unfold A4l
 unfold A1z at hu
 by_cases c1 : 0 ≤ i ∧ i < l.length
 ·rw [if_pos c1] at hu
  obtain ⟨g, c, rfl, rfl⟩ := hu
  obtain ⟨j, rfl⟩ : ∃ j : Nat, i = j := ⟨i.toNat, by omega⟩
  have hj : j < l.length := by omega
  have hg := A9F hj
  unfold A0C
  simp only [Int.toNat_natCast]
  by_cases c2 : l.getD j 0 = x
  ·rw [if_pos ⟨c1.1, c1.2, c2⟩, decide_eq_true ⟨c1.1, c1.2, c2⟩]
   obtain ⟨z, hz⟩ : ∃ z, z = l.getD j 0 := ⟨_, rfl⟩
   rw [← hz] at hg c2
   have hgg := (List.getElem?_eq_some_iff.1 hg).2
   subst c2
   (have zz:=trivial;repeat((first|clear zz|with_reducible first|refine A3 ?_|refine A5 fun _=>?_|refine A4 fun _=>?_);try simp(disch:=first|omega|assumption|((repeat(first|exact A1|exact uH|apply A2|apply uT));first|done|fail)|(simp;first|done|omega|fail))[hg, hgg]))
   refine k7 (by (repeat constructor)) (by simp) (by simp; omega) (by simp) ?_
   refine B4 () rfl ?_
   have e : Z5 (H3 l) j (Value.int .i64 y).cells.toList = H3 (l.set j y) := by rw [← A7P hj]; rfl
   rw [List.length_set, ← e]
   (repeat' constructor)
  ·rw [if_neg (fun h => c2 h.2.2), decide_eq_false (fun h => c2 h.2.2)]
   obtain ⟨z, hz⟩ : ∃ z, z = l.getD j 0 := ⟨_, rfl⟩
   rw [← hz] at hg c2
   have hgg := (List.getElem?_eq_some_iff.1 hg).2
   (have zz:=trivial;repeat((first|clear zz|with_reducible first|refine A3 ?_|refine A5 fun _=>?_|refine A4 fun _=>?_);try simp(disch:=first|omega|assumption|((repeat(first|exact A1|exact uH|apply A2|apply uT));first|done|fail)|(simp;first|done|omega|fail))[hg, hgg, c2]))
   exact B4 () rfl (by (repeat' constructor))
 ·rw [if_neg c1] at hu
  subst hu
  unfold A0C
  rw [if_neg (fun h => c1 ⟨h.1, h.2.1⟩), decide_eq_false (fun h => c1 ⟨h.1, h.2.1⟩)]
  (have zz:=trivial;repeat((first|clear zz|with_reducible first|refine A3 ?_|refine A5 fun _=>?_|refine A4 fun _=>?_);try simp(disch:=first|omega|assumption|((repeat(first|exact A1|exact uH|apply A2|apply uT));first|done|fail)|(simp;first|done|omega|fail))[]))
  exact B4 () rfl (by (repeat' constructor))
def B78 (u : Value) : Prop := ∃ r : Bool, u = .bool r
theorem A6e (r : Bool) : B78 (.bool r) := ⟨r, rfl⟩
theorem B1d (w : World) (b : Nat) (n : Int) (cv ov : Value) (cs os : List Int) (i who : Int) (hl : os.length ≤ 1024) (hw : LW false (B3 (D3 b n cv ov cs os)) w (D3 b n cv ov cs os) w) :
  Fn PR B7 19 #[.pointer (some ⟨b, 0, none⟩), .int .i64 i, .int .i64 who] w (Rn (B3 (D3 b n cv ov cs os)) w (fun (n : Int) u => B78 u) fun n => D3 b n cv ov cs (r4 os i who)) := by
 refine A46 (TW.goH (κ := false) (S := B3 (D3 b n cv ov cs os)) ?_ hw)
 unfold x6
 refine A1y (e := 3) (k := 1) (v := ov) (q := os.length) (xs := H3 os) (by simp only [D3]; (repeat constructor)) fun ca cc e => ?_
 subst e
 simp only [D3]
 (have zz:=trivial;repeat((first|clear zz|with_reducible first|refine A3 ?_|refine A5 fun _=>?_|refine A4 fun _=>?_);try simp(disch:=first|omega|assumption|((repeat(first|exact A1|exact uH|apply A2|apply uT));first|done|fail)|(simp;first|done|omega|fail))[]))
 refine C6 (Hc := [.pt b (.cells #[.int .i64 n, cv, .slice ca os.length cc] 141)]) Q5 (fun w' hw' hs => A6b w' b n cv (.slice ca os.length cc) (.slice ca os.length cc) os i hl (hw'.hold (.own 3 1 (.slice ca os.length cc) os.length (H3 os)) ?_) hs) (by (repeat' constructor)) ?_
 ·(repeat constructor)
 intro m u hu
 unfold r4
 by_cases c1 : 0 ≤ who
 ·rw [if_pos c1]
  (have zz:=trivial;repeat((first|clear zz|with_reducible first|refine A3 ?_|refine A5 fun _=>?_|refine A4 fun _=>?_);try simp(disch:=first|omega|assumption|((repeat(first|exact A1|exact uH|apply A2|apply uT));first|done|fail)|(simp;first|done|omega|fail))[c1]))
  refine C6 (Hc := [.own 3 1 (.slice ca os.length cc) os.length (H3 os)]) A3P (fun w' _ hs => B10 w' _ u os i (-1) who hu hs) (by (repeat' constructor)) ?_
  rintro _ r rfl
  (have zz:=trivial;repeat((first|clear zz|with_reducible first|refine A3 ?_|refine A5 fun _=>?_|refine A4 fun _=>?_);try simp(disch:=first|omega|assumption|((repeat(first|exact A1|exact uH|apply A2|apply uT));first|done|fail)|(simp;first|done|omega|fail))[]))
  exact B4 m (A6e _) (by (repeat' constructor))
 ·rw [if_neg c1]
  (have zz:=trivial;repeat((first|clear zz|with_reducible first|refine A3 ?_|refine A5 fun _=>?_|refine A4 fun _=>?_);try simp(disch:=first|omega|assumption|((repeat(first|exact A1|exact uH|apply A2|apply uT));first|done|fail)|(simp;first|done|omega|fail))[c1]))
  exact B4 m (A6e _) (by (repeat' constructor))
theorem A8M (w : World) (b : Nat) (n : Int) (cv ov : Value) (cs os : List Int) (i who : Int) (hl : os.length ≤ 1024) (hw : LW false (B3 (D3 b n cv ov cs os)) w (D3 b n cv ov cs os) w) :
  Fn PR B7 25 #[.pointer (some ⟨b, 0, none⟩), .int .i64 i, .int .i64 who] w (Rn (B3 (D3 b n cv ov cs os)) w (fun (n : Int) u => B78 u) fun n => D3 b n cv ov cs (S9 os i who)) := by
 refine A24 (TW.goH (κ := false) (S := B3 (D3 b n cv ov cs os)) ?_ hw)
 unfold l9
 refine A1y (e := 3) (k := 1) (v := ov) (q := os.length) (xs := H3 os) (by simp only [D3]; (repeat constructor)) fun ca cc e => ?_
 subst e
 simp only [D3]
 (have zz:=trivial;repeat((first|clear zz|with_reducible first|refine A3 ?_|refine A5 fun _=>?_|refine A4 fun _=>?_);try simp(disch:=first|omega|assumption|((repeat(first|exact A1|exact uH|apply A2|apply uT));first|done|fail)|(simp;first|done|omega|fail))[]))
 refine C6 (Hc := [.pt b (.cells #[.int .i64 n, cv, .slice ca os.length cc] 141)]) Q5 (fun w' hw' hs => A6b w' b n cv (.slice ca os.length cc) (.slice ca os.length cc) os i hl (hw'.hold (.own 3 1 (.slice ca os.length cc) os.length (H3 os)) ?_) hs) (by (repeat' constructor)) ?_
 ·(repeat constructor)
 intro m u hu
 unfold S9
 by_cases c1 : 0 ≤ who
 ·rw [if_pos c1]
  (have zz:=trivial;repeat((first|clear zz|with_reducible first|refine A3 ?_|refine A5 fun _=>?_|refine A4 fun _=>?_);try simp(disch:=first|omega|assumption|((repeat(first|exact A1|exact uH|apply A2|apply uT));first|done|fail)|(simp;first|done|omega|fail))[c1]))
  refine C6 (Hc := [.own 3 1 (.slice ca os.length cc) os.length (H3 os)]) A3P (fun w' _ hs => B10 w' _ u os i who (-1) hu hs) (by (repeat' constructor)) ?_
  rintro _ r rfl
  (have zz:=trivial;repeat((first|clear zz|with_reducible first|refine A3 ?_|refine A5 fun _=>?_|refine A4 fun _=>?_);try simp(disch:=first|omega|assumption|((repeat(first|exact A1|exact uH|apply A2|apply uT));first|done|fail)|(simp;first|done|omega|fail))[]))
  exact B4 m (A6e _) (by (repeat' constructor))
 ·rw [if_neg c1]
  (have zz:=trivial;repeat((first|clear zz|with_reducible first|refine A3 ?_|refine A5 fun _=>?_|refine A4 fun _=>?_);try simp(disch:=first|omega|assumption|((repeat(first|exact A1|exact uH|apply A2|apply uT));first|done|fail)|(simp;first|done|omega|fail))[c1]))
  exact B4 m (A6e _) (by (repeat' constructor))
theorem B5u (w : World) (b : Nat) (n : Int) (cv ov : Value) (os : List Int) (i : Int) (hb : bl w b = some (.cells #[.int .i64 n, cv, ov] 141 (0, 0))) (hv : K4 w ov os.length (H3 os)) :
  Fn PR B7 37 #[.pointer (some ⟨b, 0, none⟩), .int .i64 i] w (fun u w' => u = .int .i64 (j8 os i) ∧ C3 [] w w') := by
 refine Fn.pure (A3u (TW.go (κ := false) (S := []) ?_))
 unfold p9
 obtain ⟨a, c, rfl, hr⟩ := hv.form
 have h2 : w.cell? ⟨b, 2, none⟩ = some (.slice a os.length c) := by rw [D8 hb]; rfl
 by_cases c1 : i < 0
 ·(have zz:=trivial;repeat((first|clear zz|with_reducible first|refine A3 ?_|refine A5 fun _=>?_|refine A4 fun _=>?_);try simp(disch:=first|omega|assumption|((repeat(first|exact A1|exact uH|apply A2|apply uT));first|done|fail)|(simp;first|done|omega|fail))[c1, h2]))
  exact A9 (by unfold j8; rw [if_neg (by omega)])
 by_cases c2 : (os.length : Int) ≤ i
 ·(have zz:=trivial;repeat((first|clear zz|with_reducible first|refine A3 ?_|refine A5 fun _=>?_|refine A4 fun _=>?_);try simp(disch:=first|omega|assumption|((repeat(first|exact A1|exact uH|apply A2|apply uT));first|done|fail)|(simp;first|done|omega|fail))[c1, c2, h2]))
  exact A9 (by unfold j8; rw [if_neg (by omega)])
 obtain ⟨j, rfl⟩ : ∃ j : Nat, i = j := ⟨i.toNat, by omega⟩
 have hj : j < os.length := by omega
 have hj2 : ¬ os.length ≤ j := by omega
 obtain ⟨g, o, rfl, hrow⟩ := hr (by omega)
 have hx : w.cell? ⟨g, o + j, none⟩ = some (.int .i64 (os.getD j 0)) := hrow.get (A9F hj)
 obtain ⟨z, hz⟩ : ∃ z, z = os.getD j 0 := ⟨_, rfl⟩
 rw [← hz] at hx
 (have zz:=trivial;repeat((first|clear zz|with_reducible first|refine A3 ?_|refine A5 fun _=>?_|refine A4 fun _=>?_);try simp(disch:=first|omega|assumption|((repeat(first|exact A1|exact uH|apply A2|apply uT));first|done|fail)|(simp;first|done|omega|fail))[c1, c2, hj, hj2, h2, hx]))
 exact A9 (by unfold j8; rw [if_pos (by omega), Int.toNat_natCast, hz])
end Go.Proofs.YtjobgnabneddjaaGreat
namespace Go.Proofs.YtjobgnabneddjaaGreat
open Go
theorem A6V (n : Nat) : (Builtin.zeroCells (Value.int .i64 0).cells n).toList = H3 (List.replicate n 0) := by
 have hz : (Builtin.zeroCells (Value.int .i64 0).cells n).toList.length = n := by simp [size_zeroCells]
 apply List.ext_getElem (by rw [hz]; simp)
 intro i h1 h2
 simp [Builtin.zeroCells, H3, Nat.mod_one]
theorem C5p {l i : Nat} (h : i < l) (a b : Int) : (List.replicate i a ++ List.replicate (l - i) b).set i a = List.replicate (i + 1) a ++ List.replicate (l - (i + 1)) b := by
 rw [List.set_append_right _ _ (by simp)]
 obtain ⟨k, hk⟩ : ∃ k, l - i = k + 1 := ⟨l - i - 1, by omega⟩
 have : l - (i + 1) = k := by omega
 rw [hk, this, List.replicate_succ' (n := i)]
 simp [List.replicate_succ]
theorem A4H (w : World) (n : Nat) (h : n ≤ 1024) : Fn PR B7 128 #[.int .i64 (n : Nat)] w (fun u w' => u = .int .i64 (n : Nat) ∧ C3 [] w w') := by
 refine Fn.pure (A8N (TW.go (κ := false) (S := []) ?_))
 unfold A2S
 have h1 : max ((n : Nat) : Int) 0 = n := by omega
 have h2 : min ((n : Nat) : Int) 1024 = n := by omega
 (have zz:=trivial;repeat((first|clear zz|with_reducible first|refine A3 ?_|refine A5 fun _=>?_|refine A4 fun _=>?_);try simp(disch:=first|omega|assumption|((repeat(first|exact A1|exact uH|apply A2|apply uT));first|done|fail)|(simp;first|done|omega|fail))[h1, h2]))
 exact A9 rfl
theorem B2k (w : World) (a l : Nat) (ha : a ≤ 1024) (hl : l ≤ 1024) : Fn PR B7 68 #[.int .i64 (a : Nat), .int .i64 (l : Nat)] w
  (Rn [] w (fun (x : Nat × Value × Value) u => u = .pointer (some ⟨x.1, 0, none⟩)) fun x => D3 x.1 0 x.2.1 x.2.2 (List.replicate a 0) (List.replicate l (-1))) := by
 refine B2Q (TW.go (κ := false) (S := []) ?_)
 unfold A5T
 (have zz:=trivial;repeat((first|clear zz|with_reducible first|refine A3 ?_|refine A5 fun _=>?_|refine A4 fun _=>?_);try simp(disch:=first|omega|assumption|((repeat(first|exact A1|exact uH|apply A2|apply uT));first|done|fail)|(simp;first|done|omega|fail))[]))
 refine C2H (α := Nat × Nat × Nat) (fun _ => True) (fun x => D3 x.1 0 (.slice (some ⟨x.2.1, 0, none⟩) a a) (.slice (some ⟨x.2.2, 0, none⟩) l l) (List.replicate a 0) (List.replicate l 0)) (fun x => .pointer (some ⟨x.1, 0, none⟩)) ?_ ?_
 ·rintro ⟨b, bc, bo⟩ _
  simp only [D3]
  (have zz:=trivial;repeat((first|clear zz|with_reducible first|refine A3 ?_|refine A5 fun _=>?_|refine A4 fun _=>?_);try simp(disch:=first|omega|assumption|((repeat(first|exact A1|exact uH|apply A2|apply uT));first|done|fail)|(simp;first|done|omega|fail))[]))
  refine C1B l (fun i => [.pt b (.cells #[.int .i64 0, .slice (some ⟨bc, 0, none⟩) a a, .slice (some ⟨bo, 0, none⟩) l l] 141), .own 3 1 (.slice (some ⟨bc, 0, none⟩) a a) a (H3 (List.replicate a 0)), .own 3 1 (.slice (some ⟨bo, 0, none⟩) l l) l (H3 (List.replicate i (-1) ++ List.replicate (l - i) 0))]) ?_ (by simp)
  intro i hi L hL
  by_cases hlt : i < l
  ·(have zz:=trivial;repeat((first|clear zz|with_reducible first|refine A3 ?_|refine A5 fun _=>?_|refine A4 fun _=>?_);try simp(disch:=first|omega|assumption|((repeat(first|exact A1|exact uH|apply A2|apply uT));first|done|fail)|(simp;first|done|omega|fail))[hlt]))
   refine k7 (by (repeat constructor)) (by simp) (by simp; omega) (by simp) ?_
   have e : Z5 (H3 (List.replicate i (-1) ++ List.replicate (l - i) 0)) i (Value.int .i64 (-1)).cells.toList = H3 (List.replicate (i + 1) (-1) ++ List.replicate (l - (i + 1)) 0) := by
    rw [← C5p hlt, ← A7P (by simp; omega)]; rfl
   rw [e]
   (have zz:=trivial;repeat((first|clear zz|with_reducible first|refine A3 ?_|refine A5 fun _=>?_|refine A4 fun _=>?_);try simp(disch:=first|omega|assumption|((repeat(first|exact A1|exact uH|apply A2|apply uT));first|done|fail)|(simp;first|done|omega|fail))[]))
   exact hL hlt
  ·obtain rfl : i = l := by omega
   (have zz:=trivial;repeat((first|clear zz|with_reducible first|refine A3 ?_|refine A5 fun _=>?_|refine A4 fun _=>?_);try simp(disch:=first|omega|assumption|((repeat(first|exact A1|exact uH|apply A2|apply uT));first|done|fail)|(simp;first|done|omega|fail))[]))
   refine B4 (b, .slice (some ⟨bc, 0, none⟩) a a, .slice (some ⟨bo, 0, none⟩) i i) rfl ?_
   simp only [List.length_replicate]
   (repeat' constructor)
 ·intro C hC
  have hC' : ∀ b bc bo, TW false [] w (D3 b 0 (.slice (some ⟨bc, 0, none⟩) a a) (.slice (some ⟨bo, 0, none⟩) l l) (List.replicate a 0) (List.replicate l 0)) (C (.pointer (some ⟨b, 0, none⟩))) := fun b bc bo => hC (b, bc, bo) trivial
  simp only [D3, List.length_replicate] at hC'
  refine B9 k6 (fun w' _ => A4H w' a ha) ?_
  (have zz:=trivial;repeat((first|clear zz|with_reducible first|refine A3 ?_|refine A5 fun _=>?_|refine A4 fun _=>?_);try simp(disch:=first|omega|assumption|((repeat(first|exact A1|exact uH|apply A2|apply uT));first|done|fail)|(simp;first|done|omega|fail))[]))
  refine ⟨?_, ?_, fun _ _ => trivial⟩
  ·refine A39 (by omega) (by omega) (by omega) (by omega) fun bc => ?_
   rw [Int.toNat_natCast, A6V]
   refine B9 k6 (fun w' _ => A4H w' l hl) ?_
   refine A39 (by omega) (by omega) (by omega) (by omega) fun bo => ?_
   rw [Int.toNat_natCast, A6V]
   (have zz:=trivial;repeat((first|clear zz|with_reducible first|refine A3 ?_|refine A5 fun _=>?_|refine A4 fun _=>?_);try simp(disch:=first|omega|assumption|((repeat(first|exact A1|exact uH|apply A2|apply uT));first|done|fail)|(simp;first|done|omega|fail))[]))
   rename_i b
   exact Sels.tw (by (repeat' constructor)) (hC' b bc bo)
  ·refine B9 k6 (fun w' _ => A4H w' l hl) ?_
   (have zz:=trivial;repeat((first|clear zz|with_reducible first|refine A3 ?_|refine A5 fun _=>?_|refine A4 fun _=>?_);try simp(disch:=first|omega|assumption|((repeat(first|exact A1|exact uH|apply A2|apply uT));first|done|fail)|(simp;first|done|omega|fail))[]))
   refine ⟨?_, ?_, fun _ _ => trivial⟩
   ·refine A39 (by omega) (by omega) (by omega) (by omega) fun bc => ?_
    rw [Int.toNat_natCast, A6V]
    refine A39 (by omega) (by omega) (by omega) (by omega) fun bo => ?_
    rw [Int.toNat_natCast, A6V]
    (have zz:=trivial;repeat((first|clear zz|with_reducible first|refine A3 ?_|refine A5 fun _=>?_|refine A4 fun _=>?_);try simp(disch:=first|omega|assumption|((repeat(first|exact A1|exact uH|apply A2|apply uT));first|done|fail)|(simp;first|done|omega|fail))[]))
    rename_i b
    exact Sels.tw (by (repeat' constructor)) (hC' b bc bo)
   ·refine A39 (by omega) (by omega) (by omega) (by omega) fun bo => ?_
    rw [Int.toNat_natCast, A6V]
    refine A39 (by omega) (by omega) (by omega) (by omega) fun bc => ?_
    rw [Int.toNat_natCast, A6V]
    (have zz:=trivial;repeat((first|clear zz|with_reducible first|refine A3 ?_|refine A5 fun _=>?_|refine A4 fun _=>?_);try simp(disch:=first|omega|assumption|((repeat(first|exact A1|exact uH|apply A2|apply uT));first|done|fail)|(simp;first|done|omega|fail))[]))
    rename_i b
    exact Sels.tw (by (repeat' constructor)) (hC' b bc bo)
end Go.Proofs.YtjobgnabneddjaaGreat
namespace Go.Proofs.YtjobgnabneddjaaGreat
open Go
def A53 (X : Nat → Prop) (t0 : Value) (R : Value → WP) : WP :=
 A0 PR (A8 .min #[3, 3] 0 [t0, (.int .i64 8)]) fun t4 =>
 A0 PR (A8 .max #[3, 3] 0 [(.int .i64 0), t4]) fun t5 =>
 A0 PR (Instr.build 203 #[(1, t5)]) fun t6 =>
 B1 PR X (Instr.box 203 t6) fun t7 =>
 R t7
theorem B0T : B0 PR 71 := A7 Tryz.func71 (by kernel_rfl) rfl
theorem B1g {X : Nat → Prop} {t0 : Value} {R : Value → WP} {w : World} (h : A53 X t0 R w) : Fn PR X 71 #[t0] w R := C4 (args := [t0]) mixed Tryz.func71 (by kernel_rfl) h
end Go.Proofs.YtjobgnabneddjaaGreat
namespace Go.Proofs.YtjobgnabneddjaaGreat
open Go
def A8H (s : Int × Int) : List Value := [.int .i64 s.1, .int .i64 s.2]
theorem A5s (s : Int × Int) : (A8H s).length = 2 := rfl
def A5p (l : List (Int × Int)) : List (Int × Int) := l ++ List.replicate (8 - l.length) (0, 0)
def A2P (l : List (Int × Int)) : Array Value := ((A5p l).flatMap A8H ++ [Value.int .i64 (l.length : Nat)]).toArray
theorem B76 {l : List (Int × Int)} (h : l.length ≤ 8) : (A5p l).length = 8 := by unfold A5p; simp; omega
theorem B1Q {l : List (Int × Int)} (h : l.length ≤ 8) : ((A5p l).flatMap A8H).length = 16 := by rw [B1z A5s, B76 h]
theorem B9x {l : List (Int × Int)} (h : l.length ≤ 8) : (A2P l)[16]? = some (.int .i64 (l.length : Nat)) := by
 unfold A2P
 have := B1Q h
 rw [List.getElem?_toArray, List.getElem?_append_right (by omega), this]; rfl
theorem B97 {l : List (Int × Int)} {i : Nat} (hi : i < l.length) : (A5p l)[i]? = some (l.getD i (0, 0)) := by
 unfold A5p
 rw [List.getElem?_append_left hi, List.getD_eq_getElem?_getD, List.getElem?_eq_getElem hi]; rfl
theorem B7m {l : List (Int × Int)} (h : l.length ≤ 8) {i : Nat} (hi : i < l.length) : (A2P l)[i * 2]? = some (.int .i64 (l.getD i (0, 0)).1) ∧ (A2P l)[i * 2 + 1]? = some (.int .i64 (l.getD i (0, 0)).2) := by
 have hl := B1Q h
 have h0 := A1W A5s (A5p l) i 0 (by omega)
 have h1 := A1W A5s (A5p l) i 1 (by omega)
 rw [B97 hi] at h0 h1
 unfold A2P
 constructor
 ·rw [List.getElem?_toArray, List.getElem?_append_left (by omega)]; simpa [A8H] using h0
 ·rw [List.getElem?_toArray, List.getElem?_append_left (by omega)]; simpa [A8H] using h1
def A36 (b : Nat) (l : List (Int × Int)) : Res := .pt b (.cells (A2P l) 203)
def A4E (w : World) (b : Nat) (l : List (Int × Int)) : Prop := bl w b = some (.cells (A2P l) 203 (0, 0))
theorem A4E.n {w : World} {b : Nat} {l : List (Int × Int)} (h : A4E w b l) (hl : l.length ≤ 8) : w.cell? ⟨b, 16, none⟩ = some (.int .i64 (l.length : Nat)) := by rw [D8 h]; exact B9x hl
theorem A4E.at {w : World} {b : Nat} {l : List (Int × Int)} (h : A4E w b l) (hl : l.length ≤ 8) {i : Nat} (hi : i < l.length) : w.cell? ⟨b, i * 2, none⟩ = some (.int .i64 (l.getD i (0, 0)).1) ∧ w.cell? ⟨b, i * 2 + 1, none⟩ = some (.int .i64 (l.getD i (0, 0)).2) := by
 rw [D8 h, D8 h]; exact B7m hl hi
theorem A4E.ks {κ : Bool} {w w' : World} {b : Nat} {l : List (Int × Int)} {S : List Nat} (h : A4E w b l) (hk : KS κ S w w') (hS : b ∉ S) : A4E w' b l := hk.2.1 _ _ hS rfl h
theorem A4E.own {κ : Bool} {S : List Nat} {w0 w : World} {H : List Res} {b : Nat} {l : List (Int × Int)} (hw : LW κ S w0 H w) (hm : A36 b l ∈ H) : A4E w b l := hw.pt hm
theorem B95 (w : World) (n : Nat) (hn : n ≤ 8) : Fn PR B7 71 #[.int .i64 (n : Nat)] w (Rn [] w (fun b u => u = .pointer (some ⟨b, 0, none⟩)) fun b => [A36 b (List.replicate n (0, 0))]) := by
 refine B1g (TW.go (κ := false) (S := []) ?_)
 unfold A53
 have h1 : min ((n : Nat) : Int) 8 = n := by omega
 have h2 : max 0 ((n : Nat) : Int) = n := by omega
 (have zz:=trivial;repeat((first|clear zz|with_reducible first|refine A3 ?_|refine A5 fun _=>?_|refine A4 fun _=>?_);try simp(disch:=first|omega|assumption|((repeat(first|exact A1|exact uH|apply A2|apply uT));first|done|fail)|(simp;first|done|omega|fail))[h1, h2]))
 rename_i b
 have e : A2P (List.replicate n (0, 0)) = #[.int .i64 0, .int .i64 0, .int .i64 0, .int .i64 0, .int .i64 0, .int .i64 0, .int .i64 0, .int .i64 0, .int .i64 0, .int .i64 0, .int .i64 0, .int .i64 0, .int .i64 0, .int .i64 0, .int .i64 0, .int .i64 0, .int .i64 (n : Nat)] := by
  have h : n = 0 ∨ n = 1 ∨ n = 2 ∨ n = 3 ∨ n = 4 ∨ n = 5 ∨ n = 6 ∨ n = 7 ∨ n = 8 := by omega
  rcases h with rfl | rfl | rfl | rfl | rfl | rfl | rfl | rfl | rfl <;> rfl
 refine B4 b rfl ?_
 unfold A36
 rw [e]
 (repeat' constructor)
end Go.Proofs.YtjobgnabneddjaaGreat
namespace Go.Proofs.YtjobgnabneddjaaGreat
open Go
end Go.Proofs.YtjobgnabneddjaaGreat
namespace Go.Proofs.YtjobgnabneddjaaGreat
open Go
def x5 (X : Nat → Prop) (t0 t1 t2 : Value) (R : Value → WP) : WP :=
 B1 PR X (Instr.box 89 t2) fun t5 =>
 A0 PR (Instr.makeFunc (.func 110) #[] #[t5]) fun t10 =>
 B5 PR X 109 [t0, t1, t10] fun t11 =>
 A0 PR (Instr.extract t11 0) fun t12 =>
 A0 PR (Instr.extract t11 1) fun t13 =>
 R (.tuple #[t12, t13])
theorem A37 : B0 PR 48 := A7 Tryz.func48 (by kernel_rfl) rfl
theorem A5J {X : Nat → Prop} {t0 t1 t2 : Value} {R : Value → WP} {w : World} (h : x5 X t0 t1 t2 R w) : Fn PR X 48 #[t0, t1, t2] w R := C4 (args := [t0, t1, t2]) mixed Tryz.func48 (by kernel_rfl) h
def u5 (X : Nat → Prop) (t0 t1 : Value) (R : Value → WP) : WP :=
 B5 PR X 109 [t0, t1, (.func (.func 113) #[] #[])] fun t8 =>
 A0 PR (Instr.extract t8 0) fun t9 =>
 A0 PR (Instr.extract t8 1) fun t10 =>
 R (.tuple #[t9, t10])
theorem A4M : B0 PR 50 := A7 Tryz.func50 (by kernel_rfl) rfl
theorem A5A {X : Nat → Prop} {t0 t1 : Value} {R : Value → WP} {w : World} (h : u5 X t0 t1 R w) : Fn PR X 50 #[t0, t1] w R := C4 (args := [t0, t1]) mixed Tryz.func50 (by kernel_rfl) h
def A56 (X : Nat → Prop) (t0 : Value) (R : Value → WP) : WP :=
 A0 PR (A8 .min #[3, 3] 0 [t0, (.int .i64 8)]) fun t4 =>
 A0 PR (A8 .max #[3, 3] 0 [(.int .i64 0), t4]) fun t5 =>
 B1 PR X (Instr.makeSlice 229 t5 t5) fun t6 =>
 A0 PR (Instr.build 231 #[(0, t6)]) fun t7 =>
 B1 PR X (Instr.box 231 t7) fun t8 =>
 R t8
theorem B0f : B0 PR 70 := A7 Tryz.func70 (by kernel_rfl) rfl
theorem B11 {X : Nat → Prop} {t0 : Value} {R : Value → WP} {w : World} (h : A56 X t0 R w) : Fn PR X 70 #[t0] w R := C4 (args := [t0]) mixed Tryz.func70 (by kernel_rfl) h
def A0w (X : Nat → Prop) (t0 t1 t2 : Value) (R : Value → WP) : WP :=
 jn (n := 2) (fun t6 t7 =>
 A0 PR (B8 t0) fun t25 =>
 A0 PR (Instr.fieldAt 231 t25 0) fun t26 =>
 A6 PR (Instr.loadAt 229 t26) fun t27 =>
 A0 PR (Instr.indexAt 229 t27 t1) fun t29 =>
 A6 PR (Instr.loadAt 266 t29) fun t30 =>
 A0 PR (Instr.typeAssert t30 266 195 true) fun t31 =>
 A0 PR (Instr.extract t31 0) fun t32 =>
 A0 PR (Instr.extract t31 1) fun t33 =>
 B1 PR X (Instr.alloc 195 true (.tuple #[])) fun t9 =>
 C1 PR X (Instr.storeAt 195 t9 t32) <|
 jn (n := 2) (fun t6_1 t7_1 =>
 A6 PR (Instr.loadAt 195 t9) fun t38 =>
 G8 PR X t2 [t38] fun t39 =>
 R (.tuple #[t39, (.bool true)])) fun J1 =>
 A0 PR (Op.unary .not t33) fun t35 =>
 D4 t35 (
 R (.tuple #[(.int .i64 0), (.bool false)])) (
 J1 t6 t7)) fun J2 =>
 A0 PR (binOp .lss 3 t1 (.int .i64 0)) fun t12 =>
 gj t12 false (fun J => J t1) fun t14 =>
 gj t12 false (fun J => J t0) fun t15 =>
 gj t12 false (fun J => A0 PR (B8 t15) J) fun t16 =>
 gj t12 false (fun J => A0 PR (Instr.fieldAt 231 t16 0) J) fun t17 =>
 gj t12 false (fun J => A6 PR (Instr.loadAt 229 t17) J) fun t18 =>
 gj t12 false (fun J => A0 PR (A8 .len #[229] 0 [t18]) J) fun t19 =>
 gj t12 false (fun J => A0 PR (binOp .geq 3 t14 t19) J) fun t20 =>
 A0 PR (do pure (if ← asBool t12 then (.bool true) else t20)) fun t21 =>
 D4 t21 (
 R (.tuple #[(.int .i64 0), (.bool false)])) (
 J2 (.int .i64 0) (.bool false))
theorem A0S : B0 PR 109 := A7 Tryz.func109 (by kernel_rfl) rfl
theorem A6v {X : Nat → Prop} {t0 t1 t2 : Value} {R : Value → WP} {w : World} (h : A0w X t0 t1 t2 R w) : Fn PR X 109 #[t0, t1, t2] w R := C4 (args := [t0, t1, t2]) mixed Tryz.func109 (by kernel_rfl) h
def f9 (X : Nat → Prop) (t0 t1 : Value) (R : Value → WP) : WP :=
 B1 PR X (Instr.box 195 t0) fun t2 =>
 A0 PR (Instr.fieldAt 195 t2 1) fun t4 =>
 A6 PR (Instr.loadAt 193 t4) fun t5 =>
 A6 PR (Instr.loadAt 89 t1) fun t6 =>
 B5 PR X 111 [t5, t6] fun t7 =>
 R t7
theorem A1n : B0 PR 110 := A7 Tryz.func110 (by kernel_rfl) rfl
theorem A2l {X : Nat → Prop} {t0 t1 : Value} {R : Value → WP} {w : World} (h : f9 X t0 t1 R w) : Fn PR X 110 #[t0, t1] w R := C4 (args := [t0, t1]) mixed Tryz.func110 (by kernel_rfl) h
def g5 (X : Nat → Prop) (t0 : Value) (R : Value → WP) : WP :=
 B1 PR X (Instr.box 195 t0) fun t1 =>
 A0 PR (Instr.fieldAt 195 t1 0) fun t3 =>
 A6 PR (Instr.loadAt 192 t3) fun t4 =>
 A0 PR (A8 .len #[192] 0 [t4]) fun t5 =>
 R t5
theorem A1q : B0 PR 113 := A7 Tryz.func113 (by kernel_rfl) rfl
theorem A2y {X : Nat → Prop} {t0 : Value} {R : Value → WP} {w : World} (h : g5 X t0 R w) : Fn PR X 113 #[t0] w R := C4 (args := [t0]) mixed Tryz.func113 (by kernel_rfl) h
def A0L (X : Nat → Prop) (t0 t1 t2 : Value) (R : Value → WP) : WP :=
 B1 PR X (Instr.box 3 t2) fun t5 =>
 A0 PR (Instr.makeFunc (.func 181) #[] #[t5]) fun t10 =>
 B5 PR X 180 [t0, t1, t10] fun t11 =>
 A0 PR (Instr.extract t11 0) fun t12 =>
 A0 PR (Instr.extract t11 1) fun t13 =>
 R (.tuple #[t12, t13])
theorem A49 : B0 PR 134 := A7 Tryz.func134 (by kernel_rfl) rfl
theorem A5f {X : Nat → Prop} {t0 t1 t2 : Value} {R : Value → WP} {w : World} (h : A0L X t0 t1 t2 R w) : Fn PR X 134 #[t0, t1, t2] w R := C4 (args := [t0, t1, t2]) mixed Tryz.func134 (by kernel_rfl) h
def A0Y (X : Nat → Prop) (t0 t1 t2 : Value) (R : Value → WP) : WP :=
 jn (n := 2) (fun t6 t7 =>
 A0 PR (B8 t0) fun t25 =>
 A0 PR (Instr.fieldAt 231 t25 0) fun t26 =>
 A6 PR (Instr.loadAt 229 t26) fun t27 =>
 A0 PR (Instr.indexAt 229 t27 t1) fun t29 =>
 A6 PR (Instr.loadAt 266 t29) fun t30 =>
 A0 PR (Instr.typeAssert t30 266 195 true) fun t31 =>
 A0 PR (Instr.extract t31 0) fun t32 =>
 A0 PR (Instr.extract t31 1) fun t33 =>
 B1 PR X (Instr.alloc 195 true (.tuple #[])) fun t9 =>
 C1 PR X (Instr.storeAt 195 t9 t32) <|
 jn (n := 2) (fun t6_1 t7_1 =>
 A6 PR (Instr.loadAt 195 t9) fun t38 =>
 G8 PR X t2 [t38] fun t39 =>
 R (.tuple #[t39, (.bool true)])) fun J1 =>
 A0 PR (Op.unary .not t33) fun t35 =>
 D4 t35 (
 R (.tuple #[(.bool false), (.bool false)])) (
 J1 t6 t7)) fun J2 =>
 A0 PR (binOp .lss 3 t1 (.int .i64 0)) fun t12 =>
 gj t12 false (fun J => J t1) fun t14 =>
 gj t12 false (fun J => J t0) fun t15 =>
 gj t12 false (fun J => A0 PR (B8 t15) J) fun t16 =>
 gj t12 false (fun J => A0 PR (Instr.fieldAt 231 t16 0) J) fun t17 =>
 gj t12 false (fun J => A6 PR (Instr.loadAt 229 t17) J) fun t18 =>
 gj t12 false (fun J => A0 PR (A8 .len #[229] 0 [t18]) J) fun t19 =>
 gj t12 false (fun J => A0 PR (binOp .geq 3 t14 t19) J) fun t20 =>
 A0 PR (do pure (if ← asBool t12 then (.bool true) else t20)) fun t21 =>
 D4 t21 (
 R (.tuple #[(.bool false), (.bool false)])) (
 J2 (.bool false) (.bool false))
theorem A40 : B0 PR 180 := A7 Tryz.func180 (by kernel_rfl) rfl
theorem A5b {X : Nat → Prop} {t0 t1 t2 : Value} {R : Value → WP} {w : World} (h : A0Y X t0 t1 t2 R w) : Fn PR X 180 #[t0, t1, t2] w R := C4 (args := [t0, t1, t2]) mixed Tryz.func180 (by kernel_rfl) h
def l5 (X : Nat → Prop) (t0 t1 : Value) (R : Value → WP) : WP :=
 B1 PR X (Instr.box 195 t0) fun t2 =>
 A0 PR (Instr.fieldAt 195 t2 0) fun t4 =>
 A6 PR (Instr.loadAt 192 t4) fun t5 =>
 A6 PR (Instr.loadAt 3 t1) fun t6 =>
 B5 PR X 182 [t5, t6] fun t7 =>
 R t7
theorem A2v : B0 PR 181 := A7 Tryz.func181 (by kernel_rfl) rfl
theorem A3f {X : Nat → Prop} {t0 t1 : Value} {R : Value → WP} {w : World} (h : l5 X t0 t1 R w) : Fn PR X 181 #[t0, t1] w R := C4 (args := [t0, t1]) mixed Tryz.func181 (by kernel_rfl) h
def l7 (X : Nat → Prop) (t0 t1 : Value) (R : Value → WP) : WP :=
 B5 PR X 237 [t0, t1] fun t7 =>
 A0 PR (binOp .geq 3 t7 (.int .i64 0)) fun t8 =>
 R t8
theorem A2b : B0 PR 182 := A7 Tryz.func182 (by kernel_rfl) rfl
theorem A3a {X : Nat → Prop} {t0 t1 : Value} {R : Value → WP} {w : World} (h : l7 X t0 t1 R w) : Fn PR X 182 #[t0, t1] w R := C4 (args := [t0, t1]) mixed Tryz.func182 (by kernel_rfl) h
end Go.Proofs.YtjobgnabneddjaaGreat
namespace Go.Proofs.YtjobgnabneddjaaGreat
open Go
section
variable {P : Program} {t x : TypeId} {d : TypeDesc} {n m : Nat} {z : Value} {K : Value → WP}
theorem B7J (h : TI P t d n m z) (hd : ∀ ms, d ≠ .interface ms) : A0 P (Instr.typeAssert .nilIface x t true) K = K (.tuple #[z, .bool false]) :=
 E2 (fun w => by
  simp only [Instr.typeAssert, Sem.run_bind, h.run_und, Result.andThen_ok]
  cases d <;> first | (simp [h.run_zero]; done) | exact absurd rfl (hd _)) K
theorem B7D (h : TI P t d n m z) (hd : ∀ ms, d ≠ .interface ms) (v : Value) : A0 P (Instr.typeAssert (.iface t v) x t true) K = K (.tuple #[v, .bool true]) :=
 E2 (fun w => by
  simp only [Instr.typeAssert, Sem.run_bind, h.run_und, Result.andThen_ok]
  cases d <;> first | (simp; done) | exact absurd rfl (hd _)) K
theorem B9y (h : TI P t d n m z) (hd : ∀ ms, d ≠ .interface ms) {u : TypeId} (hu : u ≠ t) (v : Value) : A0 P (Instr.typeAssert (.iface u v) x t true) K = K (.tuple #[z, .bool false]) :=
 E2 (fun w => by
  simp only [Instr.typeAssert, Sem.run_bind, h.run_und, Result.andThen_ok]
  cases d <;> first | (simp [hu, h.run_zero]; done) | exact absurd rfl (hd _)) K
end
@[simp] theorem C3W (x : TypeId) (K : Value → WP) : A0 PR (Instr.typeAssert .nilIface x 195 true) K = K (.tuple #[.agg #[.slice none 0 0, .slice none 0 0], .bool false]) := B7J A6Y (by intro ms h; cases h)
@[simp] theorem C18 (x : TypeId) (v : Value) (K : Value → WP) : A0 PR (Instr.typeAssert (.iface 195 v) x 195 true) K = K (.tuple #[v, .bool true]) := B7D A6Y (by intro ms h; cases h) v
@[simp] theorem C3k (x : TypeId) (v : Value) (K : Value → WP) : A0 PR (Instr.typeAssert (.iface 263 v) x 195 true) K = K (.tuple #[.agg #[.slice none 0 0, .slice none 0 0], .bool false]) := B9y A6Y (by intro ms h; cases h) (by decide) v
inductive SlH where
 | no
 | bld
 | rdy (p : List J0) (pv rv : Value)
def SlH.val : SlH → Value
 | .no => .nilIface
 | .bld => .iface 263 (.agg #[])
 | .rdy _ pv rv => .iface 195 (.agg #[pv, rv])
def SlH.sp : SlH → SlV
 | .no => .no
 | .bld => .bld
 | .rdy p _ _ => .rdy p
def SlH.fo : SlH → List Nat
 | .rdy _ pv rv => M0 pv ++ M0 rv
 | _ => []
def C2Q (pv : Value) (p : List J0) : Res := .own 155 2 pv p.length (p.flatMap A2m)
def C2N (rv : Value) (p : List J0) : Res := .own 290 2 rv (A01 (y4 p)).length ((A01 (y4 p)).flatMap A5q)
def SlH.ok (w : World) : SlH → Prop
 | .rdy p pv rv => (C2Q pv p).holds w ∧ (C2N rv p).holds w ∧ p.length ≤ 32
 | _ => True
theorem SlH.keep {w w' : World} {s : SlH} (hk : ∀ b ∈ s.fo, ∀ o, A9J o = true → bl w b = some o → bl w' b = some o) (h : s.ok w) : s.ok w' := by
 cases s with
 | no => trivial
 | bld => trivial
 | rdy p pv rv =>
  refine ⟨Res.stable (fun b hb => hk b ?_) h.1, Res.stable (fun b hb => hk b ?_) h.2.1, h.2.2⟩
  ·exact List.mem_append_left _ hb
  ·exact List.mem_append_right _ hb
def B04 (ls : List SlH) : List Nat := ls.flatMap SlH.fo
def B4G (ls : List SlH) (w : World) : Prop := ∀ s ∈ ls, s.ok w
def B0s (ls : List SlH) : Res := .ab (B04 ls) (B4G ls) fun w w' hk h s hs => SlH.keep (fun b hb => hk b (by rw [B04, List.mem_flatMap]; exact ⟨s, hs, hb⟩)) (h s hs)
def e9 (b : Nat) (sv : Value) (ls : List SlH) : List Res := [.pt b (.cells #[sv] 231), .own 266 1 sv ls.length (ls.map SlH.val), B0s ls]
section
variable {κ : Bool} {S : List Nat} {w0 w : World} {H Hk Hc : List Res} {K0 : WP} {ls : List SlH}
end
theorem SlH.plain (x : SlH) : Go.Proofs.YtjobgnabneddjaaGreat.plain x.val = true := by cases x <;> rfl
end Go.Proofs.YtjobgnabneddjaaGreat
namespace Go.Proofs.YtjobgnabneddjaaGreat
open Go
def A0k (ls : List SlH) (i : Int) : SlH := if 0 ≤ i ∧ i < ls.length then ls.getD i.toNat .no else .no
theorem B3c (ls : List SlH) (i : Int) : K7 (ls.map SlH.sp) i = (A0k ls i).sp := by
 unfold K7 A0k
 rw [List.length_map]
 split
 ·rename_i h
  rw [List.getD_eq_getElem?_getD, List.getD_eq_getElem?_getD, List.getElem?_map, List.getElem?_eq_getElem (by omega)]; rfl
 ·rfl
theorem B3V {ls : List SlH} {i : Nat} (h : i < ls.length) : (ls.map SlH.val)[i]? = some (ls.getD i .no).val := by
 rw [List.getElem?_map, List.getD_eq_getElem?_getD, List.getElem?_eq_getElem h]; rfl
def SlH.rd (w : World) : SlH → Prop
 | .rdy p pv rv => K4 w pv p.length (p.flatMap A2m) ∧ K4 w rv (A01 (y4 p)).length ((A01 (y4 p)).flatMap A5q) ∧ p.length ≤ 32
 | _ => True
structure SlAt (w : World) (b : Nat) (sv : Value) (ls : List SlH) : Prop where
 blk : bl w b = some (.cells #[sv] 231 (0, 0))
 rd : K4 w sv ls.length (ls.map SlH.val)
 all : ∀ s ∈ ls, s.rd w
theorem SlAt.own {κ : Bool} {S : List Nat} {w0 w : World} {H : List Res} {b : Nat} {sv : Value} {ls : List SlH} (hw : LW κ S w0 H w) (h1 : Res.pt b (.cells #[sv] 231) ∈ H) (h2 : Res.own 266 1 sv ls.length (ls.map SlH.val) ∈ H) (h3 : B0s ls ∈ H) : SlAt w b sv ls := by
 refine ⟨hw.pt h1, U6.own (e := 266) (k := 1) h2 w hw, fun s hs => ?_⟩
 have := (hw.hold _ h3 : B4G ls w) s hs
 cases s with
 | no => trivial
 | bld => trivial
 | rdy p pv rv => exact ⟨L7.rd this.1, L7.rd this.2.1, this.2.2⟩
theorem SlAt.at {w : World} {b : Nat} {sv : Value} {ls : List SlH} (h : SlAt w b sv ls) {i : Nat} (hi : i < ls.length) : (ls.getD i .no).rd w := by
 apply h.all
 rw [List.getD_eq_getElem?_getD, List.getElem?_eq_getElem hi]
 exact List.getElem_mem hi
def A0A (l : List SlH) (i : Int) (f : List J0 → Int) : Int × Bool :=
 match A0k l i with
 | .rdy p _ _ => (f p, true)
 | _ => (0, false)
theorem B3Z (w : World) (b : Nat) (sv : Value) (ls : List SlH) (i : Int) (g : FuncId) (cap : List Value) (f : List J0 → Int) (hl : ls.length ≤ 8) (h : SlAt w b sv ls) (he : B0 PR g)
  (hg : ∀ p pv rv, (SlH.rdy p pv rv).rd w → ∀ w', KS false [] w w' → Fn PR B7 g (Value.agg #[pv, rv] :: cap).toArray w' (fun u w'' => u = .int .i64 (f p) ∧ C3 [] w' w'')) :
  Fn PR B7 109 #[.pointer (some ⟨b, 0, none⟩), .int .i64 i, .func (.func g) #[] cap.toArray] w (fun u w' => u = .tuple #[.int .i64 (A0A ls i f).1, .bool (A0A ls i f).2] ∧ C3 [] w w') := by
 refine Fn.pure (A6v (TW.go (κ := false) (S := []) ?_))
 unfold A0w
 obtain ⟨a, c, rfl, hr⟩ := h.rd.form
 have h0 : w.cell? ⟨b, 0, none⟩ = some (.slice a ls.length c) := by rw [D8 h.blk]; rfl
 by_cases c1 : i < 0
 ·have e : A0A ls i f = (0, false) := by unfold A0A A0k; rw [if_neg (by omega)]
  rw [e]
  (have zz:=trivial;repeat((first|clear zz|with_reducible first|refine A3 ?_|refine A5 fun _=>?_|refine A4 fun _=>?_);try simp(disch:=first|omega|assumption|((repeat(first|exact A1|exact uH|apply A2|apply uT));first|done|fail)|(simp;first|done|omega|fail))[c1]))
  exact A9 rfl
 by_cases c2 : (ls.length : Int) ≤ i
 ·have e : A0A ls i f = (0, false) := by unfold A0A A0k; rw [if_neg (by omega)]
  rw [e]
  (have zz:=trivial;repeat((first|clear zz|with_reducible first|refine A3 ?_|refine A5 fun _=>?_|refine A4 fun _=>?_);try simp(disch:=first|omega|assumption|((repeat(first|exact A1|exact uH|apply A2|apply uT));first|done|fail)|(simp;first|done|omega|fail))[c1, c2, h0]))
  exact A9 rfl
 obtain ⟨j, rfl⟩ : ∃ j : Nat, i = j := ⟨i.toNat, by omega⟩
 have hj : j < ls.length := by omega
 have hj2 : ¬ ls.length ≤ j := by omega
 obtain ⟨gb, o, rfl, hrow⟩ := hr (by omega)
 have hrd := h.at hj
 have hx : w.cell? ⟨gb, o + j, none⟩ = some (ls.getD j .no).val := hrow.get (B3V hj)
 have e : A0A ls j f = match ls.getD j .no with | .rdy p _ _ => (f p, true) | _ => (0, false) := by unfold A0A A0k; rw [if_pos (by omega), Int.toNat_natCast]
 rw [e]
 generalize ls.getD j .no = x at *
 cases x with
 | no =>
  simp only [SlH.val] at hx
  (have zz:=trivial;repeat((first|clear zz|with_reducible first|refine A3 ?_|refine A5 fun _=>?_|refine A4 fun _=>?_);try simp(disch:=first|omega|assumption|((repeat(first|exact A1|exact uH|apply A2|apply uT));first|done|fail)|(simp;first|done|omega|fail))[c1, c2, hj, hj2, h0, hx]))
  exact A9 rfl
 | bld =>
  simp only [SlH.val] at hx
  (have zz:=trivial;repeat((first|clear zz|with_reducible first|refine A3 ?_|refine A5 fun _=>?_|refine A4 fun _=>?_);try simp(disch:=first|omega|assumption|((repeat(first|exact A1|exact uH|apply A2|apply uT));first|done|fail)|(simp;first|done|omega|fail))[c1, c2, hj, hj2, h0, hx]))
  exact A9 rfl
 | rdy p pv rv =>
  simp only [SlH.val] at hx
  have hpv := hrd.1.form
  have hrv := hrd.2.1.form
  obtain ⟨pa, pc, hpe, _⟩ := hpv
  obtain ⟨ra, rc, hre, _⟩ := hrv
  subst hpe hre
  (have zz:=trivial;repeat((first|clear zz|with_reducible first|refine A3 ?_|refine A5 fun _=>?_|refine A4 fun _=>?_);try simp(disch:=first|omega|assumption|((repeat(first|exact A1|exact uH|apply A2|apply uT));first|done|fail)|(simp;first|done|omega|fail))[c1, c2, hj, hj2, h0, hx]))
  refine B9 he (fun w' hw' => hg _ _ _ hrd w' hw'.ks) ?_
  exact A9 rfl
def z7 (l : List SlH) (i : Int) (f : List J0 → Bool) : Bool × Bool :=
 match A0k l i with
 | .rdy p _ _ => (f p, true)
 | _ => (false, false)
theorem B9M (w : World) (b : Nat) (sv : Value) (ls : List SlH) (i : Int) (g : FuncId) (cap : List Value) (f : List J0 → Bool) (hl : ls.length ≤ 8) (h : SlAt w b sv ls) (he : B0 PR g)
  (hg : ∀ p pv rv, (SlH.rdy p pv rv).rd w → ∀ w', KS false [] w w' → Fn PR B7 g (Value.agg #[pv, rv] :: cap).toArray w' (fun u w'' => u = .bool (f p) ∧ C3 [] w' w'')) :
  Fn PR B7 180 #[.pointer (some ⟨b, 0, none⟩), .int .i64 i, .func (.func g) #[] cap.toArray] w (fun u w' => u = .tuple #[.bool (z7 ls i f).1, .bool (z7 ls i f).2] ∧ C3 [] w w') := by
 refine Fn.pure (A5b (TW.go (κ := false) (S := []) ?_))
 unfold A0Y
 obtain ⟨a, c, rfl, hr⟩ := h.rd.form
 have h0 : w.cell? ⟨b, 0, none⟩ = some (.slice a ls.length c) := by rw [D8 h.blk]; rfl
 by_cases c1 : i < 0
 ·have e : z7 ls i f = (false, false) := by unfold z7 A0k; rw [if_neg (by omega)]
  rw [e]
  (have zz:=trivial;repeat((first|clear zz|with_reducible first|refine A3 ?_|refine A5 fun _=>?_|refine A4 fun _=>?_);try simp(disch:=first|omega|assumption|((repeat(first|exact A1|exact uH|apply A2|apply uT));first|done|fail)|(simp;first|done|omega|fail))[c1]))
  exact A9 rfl
 by_cases c2 : (ls.length : Int) ≤ i
 ·have e : z7 ls i f = (false, false) := by unfold z7 A0k; rw [if_neg (by omega)]
  rw [e]
  (have zz:=trivial;repeat((first|clear zz|with_reducible first|refine A3 ?_|refine A5 fun _=>?_|refine A4 fun _=>?_);try simp(disch:=first|omega|assumption|((repeat(first|exact A1|exact uH|apply A2|apply uT));first|done|fail)|(simp;first|done|omega|fail))[c1, c2, h0]))
  exact A9 rfl
 obtain ⟨j, rfl⟩ : ∃ j : Nat, i = j := ⟨i.toNat, by omega⟩
 have hj : j < ls.length := by omega
 have hj2 : ¬ ls.length ≤ j := by omega
 obtain ⟨gb, o, rfl, hrow⟩ := hr (by omega)
 have hrd := h.at hj
 have hx : w.cell? ⟨gb, o + j, none⟩ = some (ls.getD j .no).val := hrow.get (B3V hj)
 have e : z7 ls j f = match ls.getD j .no with | .rdy p _ _ => (f p, true) | _ => (false, false) := by unfold z7 A0k; rw [if_pos (by omega), Int.toNat_natCast]
 rw [e]
 generalize ls.getD j .no = x at *
 cases x with
 | no =>
  simp only [SlH.val] at hx
  (have zz:=trivial;repeat((first|clear zz|with_reducible first|refine A3 ?_|refine A5 fun _=>?_|refine A4 fun _=>?_);try simp(disch:=first|omega|assumption|((repeat(first|exact A1|exact uH|apply A2|apply uT));first|done|fail)|(simp;first|done|omega|fail))[c1, c2, hj, hj2, h0, hx]))
  exact A9 rfl
 | bld =>
  simp only [SlH.val] at hx
  (have zz:=trivial;repeat((first|clear zz|with_reducible first|refine A3 ?_|refine A5 fun _=>?_|refine A4 fun _=>?_);try simp(disch:=first|omega|assumption|((repeat(first|exact A1|exact uH|apply A2|apply uT));first|done|fail)|(simp;first|done|omega|fail))[c1, c2, hj, hj2, h0, hx]))
  exact A9 rfl
 | rdy p pv rv =>
  simp only [SlH.val] at hx
  have hpv := hrd.1.form
  have hrv := hrd.2.1.form
  obtain ⟨pa, pc, hpe, _⟩ := hpv
  obtain ⟨ra, rc, hre, _⟩ := hrv
  subst hpe hre
  (have zz:=trivial;repeat((first|clear zz|with_reducible first|refine A3 ?_|refine A5 fun _=>?_|refine A4 fun _=>?_);try simp(disch:=first|omega|assumption|((repeat(first|exact A1|exact uH|apply A2|apply uT));first|done|fail)|(simp;first|done|omega|fail))[c1, c2, hj, hj2, h0, hx]))
  refine B9 he (fun w' hw' => hg _ _ _ hrd w' hw'.ks) ?_
  exact A9 rfl
theorem B1c (ls : List SlH) (i : Int) (f : List J0 → Int) : A0A ls i f = match K7 (ls.map SlH.sp) i with | .rdy p => (f p, true) | _ => (0, false) := by
 rw [B3c]; unfold A0A; cases A0k ls i <;> rfl
theorem B7H (ls : List SlH) (i : Int) (f : List J0 → Bool) : z7 ls i f = match K7 (ls.map SlH.sp) i with | .rdy p => (f p, true) | _ => (false, false) := by
 rw [B3c]; unfold z7; cases A0k ls i <;> rfl
theorem SlH.rdks {κ : Bool} {w w' : World} {s : SlH} (hk : KS κ [] w w') (h : s.rd w) : s.rd w' := by
 cases s with
 | no => trivial
 | bld => trivial
 | rdy p pv rv => exact ⟨h.1.ks hk (by simp), h.2.1.ks hk (by simp), h.2.2⟩
theorem SlAt.ks {κ : Bool} {w w' : World} {b : Nat} {sv : Value} {ls : List SlH} (h : SlAt w b sv ls) (hk : KS κ [] w w') : SlAt w' b sv ls :=
 ⟨hk.2.1 _ _ (by simp) rfl h.blk, h.rd.ks hk (by simp), fun s hs => SlH.rdks hk (h.all s hs)⟩
theorem B5F (w : World) (p : List J0) (pv rv : Value) (bh h : Nat) (hx : (SlH.rdy p pv rv).rd w) (hb : w.cell? ⟨bh, 0, none⟩ = some (.int .u64 (h : Nat))) :
  Fn PR B7 110 #[.agg #[pv, rv], .pointer (some ⟨bh, 0, none⟩)] w (fun u w' => u = .int .i64 (A8A p h) ∧ C3 [] w w') := by
 refine Fn.pure (A2l (TW.go (κ := false) (S := []) ?_))
 unfold f9
 obtain ⟨h1, h2, h3⟩ := hx
 obtain ⟨pa, pc, rfl, _⟩ := h1.form
 obtain ⟨ra, rc, rfl, _⟩ := h2.form
 have hll := B9P p
 have hpl : (A01 (y4 p)).length = (y4 p).length := B5S _
 (have zz:=trivial;repeat((first|clear zz|with_reducible first|refine A3 ?_|refine A5 fun _=>?_|refine A4 fun _=>?_);try simp(disch:=first|omega|assumption|((repeat(first|exact A1|exact uH|apply A2|apply uT));first|done|fail)|(simp;first|done|omega|fail))[hb]))
 refine B9 B0J (fun w' hw' => B9J w' _ (A01 (y4 p)) h (by omega) (h2.ks hw'.ks (by simp))) ?_
 exact A9 rfl
theorem B8Y (w : World) (b : Nat) (sv : Value) (ls : List SlH) (i : Int) (h : Nat) (hl : ls.length ≤ 8) (hs : SlAt w b sv ls) :
  Fn PR B7 48 #[.pointer (some ⟨b, 0, none⟩), .int .i64 i, .int .u64 (h : Nat)] w (fun u w' => u = .tuple #[.int .i64 (A15 (ls.map SlH.sp) i h).1, .bool (A15 (ls.map SlH.sp) i h).2] ∧ C3 [] w w') := by
 refine Fn.pure (A5J (TW.go (κ := false) (S := []) ?_))
 unfold x5
 (have zz:=trivial;repeat((first|clear zz|with_reducible first|refine A3 ?_|refine A5 fun _=>?_|refine A4 fun _=>?_);try simp(disch:=first|omega|assumption|((repeat(first|exact A1|exact uH|apply A2|apply uT));first|done|fail)|(simp;first|done|omega|fail))[]))
 rename_i bh
 refine B9 A0S (fun w' hw' => B3Z w' b sv ls i 110 [.pointer (some ⟨bh, 0, none⟩)] (fun p => A8A p h) hl (hs.ks hw'.ks) A1n fun p pv rv hrd w'' hk => B5F w'' p pv rv bh h (SlH.rdks hk hrd) (hk.cell (by simp) (hw'.cell1 (by (repeat constructor))))) ?_
 (have zz:=trivial;repeat((first|clear zz|with_reducible first|refine A3 ?_|refine A5 fun _=>?_|refine A4 fun _=>?_);try simp(disch:=first|omega|assumption|((repeat(first|exact A1|exact uH|apply A2|apply uT));first|done|fail)|(simp;first|done|omega|fail))[]))
 exact A9 (by rw [B1c]; unfold A15; cases K7 (ls.map SlH.sp) i <;> rfl)
theorem B6q (w : World) (p : List J0) (pv rv : Value) (hx : (SlH.rdy p pv rv).rd w) :
  Fn PR B7 113 #[.agg #[pv, rv]] w (fun u w' => u = .int .i64 (p.length : Nat) ∧ C3 [] w w') := by
 refine Fn.pure (A2y (TW.go (κ := false) (S := []) ?_))
 unfold g5
 obtain ⟨h1, h2, h3⟩ := hx
 obtain ⟨pa, pc, rfl, _⟩ := h1.form
 obtain ⟨ra, rc, rfl, _⟩ := h2.form
 (have zz:=trivial;repeat((first|clear zz|with_reducible first|refine A3 ?_|refine A5 fun _=>?_|refine A4 fun _=>?_);try simp(disch:=first|omega|assumption|((repeat(first|exact A1|exact uH|apply A2|apply uT));first|done|fail)|(simp;first|done|omega|fail))[]))
 exact A9 rfl
theorem B7U (w : World) (b : Nat) (sv : Value) (ls : List SlH) (i : Int) (hl : ls.length ≤ 8) (hs : SlAt w b sv ls) :
  Fn PR B7 50 #[.pointer (some ⟨b, 0, none⟩), .int .i64 i] w (fun u w' => u = .tuple #[.int .i64 (A8W (ls.map SlH.sp) i).1, .bool (A8W (ls.map SlH.sp) i).2] ∧ C3 [] w w') := by
 refine Fn.pure (A5A (TW.go (κ := false) (S := []) ?_))
 unfold u5
 refine B9 A0S (fun w' hw' => B3Z w' b sv ls i 113 [] (fun p => (p.length : Nat)) hl (hs.ks hw'.ks) A1q fun p pv rv hrd w'' hk => B6q w'' p pv rv (SlH.rdks hk hrd)) ?_
 (have zz:=trivial;repeat((first|clear zz|with_reducible first|refine A3 ?_|refine A5 fun _=>?_|refine A4 fun _=>?_);try simp(disch:=first|omega|assumption|((repeat(first|exact A1|exact uH|apply A2|apply uT));first|done|fail)|(simp;first|done|omega|fail))[]))
 exact A9 (by rw [B1c]; unfold A8W; cases K7 (ls.map SlH.sp) i <;> rfl)
theorem B8E (w : World) (p : List J0) (pv : Value) (id : Int) (hv : K4 w pv p.length (p.flatMap A2m)) (hp : p.length ≤ 32) :
  Fn PR B7 182 #[pv, .int .i64 id] w (fun u w' => u = .bool (decide (0 ≤ Y4 p id)) ∧ C3 [] w w') := by
 refine Fn.pure (A3a (TW.go (κ := false) (S := []) ?_))
 unfold l7
 refine B9 B0m (fun w' hw' => B3B w' pv p id (by omega) (hv.ks hw'.ks (by simp))) ?_
 by_cases c1 : 0 ≤ Y4 p id
 ·(have zz:=trivial;repeat((first|clear zz|with_reducible first|refine A3 ?_|refine A5 fun _=>?_|refine A4 fun _=>?_);try simp(disch:=first|omega|assumption|((repeat(first|exact A1|exact uH|apply A2|apply uT));first|done|fail)|(simp;first|done|omega|fail))[c1]))
  exact A9 rfl
 ·(have zz:=trivial;repeat((first|clear zz|with_reducible first|refine A3 ?_|refine A5 fun _=>?_|refine A4 fun _=>?_);try simp(disch:=first|omega|assumption|((repeat(first|exact A1|exact uH|apply A2|apply uT));first|done|fail)|(simp;first|done|omega|fail))[c1]))
  exact A9 rfl
theorem B8J (w : World) (p : List J0) (pv rv : Value) (bh : Nat) (id : Int) (hx : (SlH.rdy p pv rv).rd w) (hb : w.cell? ⟨bh, 0, none⟩ = some (.int .i64 id)) :
  Fn PR B7 181 #[.agg #[pv, rv], .pointer (some ⟨bh, 0, none⟩)] w (fun u w' => u = .bool (decide (0 ≤ Y4 p id)) ∧ C3 [] w w') := by
 refine Fn.pure (A3f (TW.go (κ := false) (S := []) ?_))
 unfold l5
 obtain ⟨h1, h2, h3⟩ := hx
 obtain ⟨pa, pc, rfl, _⟩ := h1.form
 obtain ⟨ra, rc, rfl, _⟩ := h2.form
 (have zz:=trivial;repeat((first|clear zz|with_reducible first|refine A3 ?_|refine A5 fun _=>?_|refine A4 fun _=>?_);try simp(disch:=first|omega|assumption|((repeat(first|exact A1|exact uH|apply A2|apply uT));first|done|fail)|(simp;first|done|omega|fail))[hb]))
 refine B9 A2b (fun w' hw' => B8E w' p _ id (h1.ks hw'.ks (by simp)) h3) ?_
 exact A9 rfl
theorem B9l (w : World) (b : Nat) (sv : Value) (ls : List SlH) (i id : Int) (hl : ls.length ≤ 8) (hs : SlAt w b sv ls) :
  Fn PR B7 134 #[.pointer (some ⟨b, 0, none⟩), .int .i64 i, .int .i64 id] w (fun u w' => u = .tuple #[.bool (B1b (ls.map SlH.sp) i id).1, .bool (B1b (ls.map SlH.sp) i id).2] ∧ C3 [] w w') := by
 refine Fn.pure (A5f (TW.go (κ := false) (S := []) ?_))
 unfold A0L
 (have zz:=trivial;repeat((first|clear zz|with_reducible first|refine A3 ?_|refine A5 fun _=>?_|refine A4 fun _=>?_);try simp(disch:=first|omega|assumption|((repeat(first|exact A1|exact uH|apply A2|apply uT));first|done|fail)|(simp;first|done|omega|fail))[]))
 rename_i bh
 refine B9 A40 (fun w' hw' => B9M w' b sv ls i 181 [.pointer (some ⟨bh, 0, none⟩)] (fun p => decide (0 ≤ Y4 p id)) hl (hs.ks hw'.ks) A2v fun p pv rv hrd w'' hk => B8J w'' p pv rv bh id (SlH.rdks hk hrd) (hk.cell (by simp) (hw'.cell1 (by (repeat constructor))))) ?_
 (have zz:=trivial;repeat((first|clear zz|with_reducible first|refine A3 ?_|refine A5 fun _=>?_|refine A4 fun _=>?_);try simp(disch:=first|omega|assumption|((repeat(first|exact A1|exact uH|apply A2|apply uT));first|done|fail)|(simp;first|done|omega|fail))[]))
 exact A9 (by rw [B7H]; unfold B1b; cases K7 (ls.map SlH.sp) i <;> rfl)
theorem C0c (n : Nat) : (Builtin.zeroCells Value.nilIface.cells n).toList = (List.replicate n SlH.no).map SlH.val := by
 have hz : (Builtin.zeroCells Value.nilIface.cells n).toList.length = n := by simp [size_zeroCells, Value.cells]
 apply List.ext_getElem (by rw [hz]; simp)
 intro i h1 h2
 simp [Builtin.zeroCells, Value.cells, SlH.val, Nat.mod_one]
theorem B9p (w : World) (n : Nat) (hn : n ≤ 8) : Fn PR B7 70 #[.int .i64 (n : Nat)] w (Rn [] w (fun (x : Nat × Value) u => u = .pointer (some ⟨x.1, 0, none⟩)) fun x => e9 x.1 x.2 (List.replicate n SlH.no)) := by
 refine B11 (TW.go (κ := false) (S := []) ?_)
 unfold A56
 have h1 : min ((n : Nat) : Int) 8 = n := by omega
 have h2 : max 0 ((n : Nat) : Int) = n := by omega
 (have zz:=trivial;repeat((first|clear zz|with_reducible first|refine A3 ?_|refine A5 fun _=>?_|refine A4 fun _=>?_);try simp(disch:=first|omega|assumption|((repeat(first|exact A1|exact uH|apply A2|apply uT));first|done|fail)|(simp;first|done|omega|fail))[h1, h2]))
 refine A39 (by omega) (by omega) (by omega) (by omega) fun bs => ?_
 rw [Int.toNat_natCast, C0c]
 (have zz:=trivial;repeat((first|clear zz|with_reducible first|refine A3 ?_|refine A5 fun _=>?_|refine A4 fun _=>?_);try simp(disch:=first|omega|assumption|((repeat(first|exact A1|exact uH|apply A2|apply uT));first|done|fail)|(simp;first|done|omega|fail))[]))
 rename_i b
 refine A7e (r := B0s (List.replicate n SlH.no)) (Hc := []) Part.nil (fun w _ => (fun s hs => by rw [List.eq_of_mem_replicate hs]; trivial : B4G _ w)) (fun b hb => ?_) ?_
 ·have hb' : b ∈ B04 (List.replicate n SlH.no) := hb
  rw [B04, List.mem_flatMap] at hb'
  obtain ⟨s, hs, hbs⟩ := hb'
  rw [List.eq_of_mem_replicate hs] at hbs; cases hbs
 ·refine B4 (b, .slice (some ⟨bs, 0, none⟩) n n) rfl ?_
  simp only [e9, List.length_replicate, List.map_replicate]
  (repeat' constructor)
end Go.Proofs.YtjobgnabneddjaaGreat
namespace Go.Proofs.YtjobgnabneddjaaGreat
open Go
def M8 (c : CfgV) : Array Value := #[.int .i64 c.wk, .int .i64 c.sh, .int .i64 c.cp, .int .i64 c.idle, .int .i64 c.sl]
def E1 (c : CfgV) (pc ps pk tv pv now : Value) : Array Value := #[.int .i64 c.wk, .int .i64 c.sh, .int .i64 c.cp, .int .i64 c.idle, .int .i64 c.sl, pc, ps, pk, tv, pv, now]
def D7 (b : Nat) (c : CfgV) (pc ps pk tv pv now : Value) : Res := .pt b (.cells (E1 c pc ps pk tv pv now) 39)
theorem B8B (w : World) (b b1 : Nat) (c : CfgV) (pc ps pk tv pv now : Value) (hw1 : 0 ≤ c.wk ∧ c.wk ≤ 64) (hs1 : 0 ≤ c.sh ∧ c.sh ≤ 16) (hb1 : bl w b1 = some (.cells (M8 c) 23 (0, 0))) (hne : b1 ≠ b) (hw : LW false [b] w [D7 b c pc ps pk tv pv now] w) :
  Fn PR B7 67 #[.pointer (some ⟨b, 0, none⟩), .pointer (some ⟨b1, 0, none⟩)] w (Rn [b] w (fun (x : Nat × Value × Value) u => u = .tuple #[]) fun x => D7 b c (.pointer (some ⟨x.1, 0, none⟩)) ps pk tv pv now :: D3 x.1 0 x.2.1 x.2.2 (List.replicate (2 + c.wk.toNat) 0) (List.replicate c.sh.toNat (-1))) := by
 refine A8y (TW.goH (κ := false) (S := [b]) ?_ hw)
 unfold A17
 have h0 : w.cell? ⟨b1, 0, none⟩ = some (.int .i64 c.wk) := by rw [D8 hb1]; rfl
 have h1 : w.cell? ⟨b1, 1, none⟩ = some (.int .i64 c.sh) := by rw [D8 hb1]; rfl
 obtain ⟨n, hn⟩ : ∃ n : Nat, c.wk = n := ⟨c.wk.toNat, by omega⟩
 obtain ⟨k, hk⟩ : ∃ k : Nat, c.sh = k := ⟨c.sh.toNat, by omega⟩
 rw [hn] at h0
 rw [hk] at h1
 simp only [D7, E1, hn, hk, Int.toNat_natCast]
 (have zz:=trivial;repeat((first|clear zz|with_reducible first|refine A3 ?_|refine A5 fun _=>?_|refine A4 fun _=>?_);try simp(disch:=first|omega|assumption|((repeat(first|exact A1|exact uH|apply A2|apply uT));first|done|fail)|(simp;first|done|omega|fail))[h0, h1, hne]))
 rw [show (2 + (n : Int)) = ((2 + n : Nat) : Int) by omega]
 refine K3 B0G (fun w' _ => B2k w' (2 + n) k (by omega) (by omega)) ?_
 rintro x v rfl
 simp only [D3]
 (have zz:=trivial;repeat((first|clear zz|with_reducible first|refine A3 ?_|refine A5 fun _=>?_|refine A4 fun _=>?_);try simp(disch:=first|omega|assumption|((repeat(first|exact A1|exact uH|apply A2|apply uT));first|done|fail)|(simp;first|done|omega|fail))[]))
 exact B4 x rfl (by (repeat' constructor))
theorem B7e (w : World) (b b1 : Nat) (c : CfgV) (pc ps pk tv pv now : Value) (hsl : 0 ≤ c.sl ∧ c.sl ≤ 8) (hb1 : bl w b1 = some (.cells (M8 c) 23 (0, 0))) (hne : b1 ≠ b) (hw : LW false [b] w [D7 b c pc ps pk tv pv now] w) :
  Fn PR B7 69 #[.pointer (some ⟨b, 0, none⟩), .pointer (some ⟨b1, 0, none⟩)] w (Rn [b] w (fun (x : Nat × Value × Nat) u => u = .tuple #[]) fun x => D7 b c pc (.pointer (some ⟨x.1, 0, none⟩)) (.pointer (some ⟨x.2.2, 0, none⟩)) tv pv now :: A36 x.2.2 (List.replicate c.sl.toNat (0, 0)) :: e9 x.1 x.2.1 (List.replicate c.sl.toNat SlH.no)) := by
 refine A83 (TW.goH (κ := false) (S := [b]) ?_ hw)
 unfold A2D
 have h0 : w.cell? ⟨b1, 4, none⟩ = some (.int .i64 c.sl) := by rw [D8 hb1]; rfl
 obtain ⟨n, hn⟩ : ∃ n : Nat, c.sl = n := ⟨c.sl.toNat, by omega⟩
 rw [hn] at h0
 simp only [D7, E1, hn, Int.toNat_natCast]
 (have zz:=trivial;repeat((first|clear zz|with_reducible first|refine A3 ?_|refine A5 fun _=>?_|refine A4 fun _=>?_);try simp(disch:=first|omega|assumption|((repeat(first|exact A1|exact uH|apply A2|apply uT));first|done|fail)|(simp;first|done|omega|fail))[h0, hne]))
 refine K3 B0f (fun w' _ => B9p w' n (by omega)) ?_
 rintro x v rfl
 simp only [e9]
 (have zz:=trivial;repeat((first|clear zz|with_reducible first|refine A3 ?_|refine A5 fun _=>?_|refine A4 fun _=>?_);try simp(disch:=first|omega|assumption|((repeat(first|exact A1|exact uH|apply A2|apply uT));first|done|fail)|(simp;first|done|omega|fail))[h0, hne]))
 refine K3 B0T (fun w' _ => B95 w' n (by omega)) ?_
 rintro bk v rfl
 (have zz:=trivial;repeat((first|clear zz|with_reducible first|refine A3 ?_|refine A5 fun _=>?_|refine A4 fun _=>?_);try simp(disch:=first|omega|assumption|((repeat(first|exact A1|exact uH|apply A2|apply uT));first|done|fail)|(simp;first|done|omega|fail))[]))
 refine B4 (x.1, x.2, bk) rfl ?_
 simp only [List.length_replicate, List.map_replicate]
 (repeat' constructor)
def A6C (l : List Nat) : List Value := l.map fun n : Nat => .int .i64 (n : Int)
theorem B7u (w : World) (b b1 : Nat) (c : CfgV) (pc ps pk now : Value) (hs1 : 1 ≤ c.sh ∧ c.sh ≤ 16) (hc1 : 1 ≤ c.cp ∧ c.cp ≤ 64) (hb1 : bl w b1 = some (.cells (M8 c) 23 (0, 0))) (hne : b1 ≠ b) (hw : LW false [b] w [D7 b c pc ps pk (.slice none 0 0) (.slice none 0 0) now] w) :
  Fn PR B7 72 #[.pointer (some ⟨b, 0, none⟩), .pointer (some ⟨b1, 0, none⟩)] w (Rn [b] w (fun (x : Value × Value × List (Value × List EnV)) u => u = .tuple #[] ∧ x.2.2.map (·.2) = List.replicate c.sh.toNat (N9 c.cp.toNat)) fun x => [D7 b c pc ps pk x.1 x.2.1 now, .own 84 1 x.1 x.2.2.length (x.2.2.map (·.1)), .own 3 1 x.2.1 x.2.2.length (A6C (List.replicate c.sh.toNat 0)), Z6 x.2.2]) := by
 refine A82 (TW.goH (κ := false) (S := [b]) ?_ hw)
 unfold A16
 have h0 : w.cell? ⟨b1, 1, none⟩ = some (.int .i64 c.sh) := by rw [D8 hb1]; rfl
 have h1 : w.cell? ⟨b1, 2, none⟩ = some (.int .i64 c.cp) := by rw [D8 hb1]; rfl
 obtain ⟨n, hn⟩ : ∃ n : Nat, c.sh = n := ⟨c.sh.toNat, by omega⟩
 obtain ⟨k, hk⟩ : ∃ k : Nat, c.cp = k := ⟨c.cp.toNat, by omega⟩
 rw [hn] at h0
 rw [hk] at h1
 simp only [D7, E1, hn, hk, Int.toNat_natCast]
 (have zz:=trivial;repeat((first|clear zz|with_reducible first|refine A3 ?_|refine A5 fun _=>?_|refine A4 fun _=>?_);try simp(disch:=first|omega|assumption|((repeat(first|exact A1|exact uH|apply A2|apply uT));first|done|fail)|(simp;first|done|omega|fail))[h0, h1, hne]))
 refine A0D 84 1 ?_
 refine A0D 3 1 ?_
 refine B7l ?_
 refine Sels.tw (rs := [.pt b (.cells #[.int .i64 c.wk, .int .i64 (n : Nat), .int .i64 (k : Nat), .int .i64 c.idle, .int .i64 c.sl, pc, ps, pk, .slice none 0 0, .slice none 0 0, now] 39), .own 84 1 (.slice none 0 0) 0 [], .own 3 1 (.slice none 0 0) 0 [], Z6 []]) (by (repeat' constructor)) ?_
 refine m7 (α := Option Addr × Nat × Option Addr × Nat × List (Value × List EnV)) n (fun i x => [.pt b (.cells #[.int .i64 c.wk, .int .i64 (n : Nat), .int .i64 (k : Nat), .int .i64 c.idle, .int .i64 c.sl, pc, ps, pk, .slice x.1 i x.2.1, .slice x.2.2.1 i x.2.2.2.1, now] 39), .own 84 1 (.slice x.1 i x.2.1) i (x.2.2.2.2.map (·.1)), .own 3 1 (.slice x.2.2.1 i x.2.2.2.1) i (A6C (List.replicate i 0)), Z6 x.2.2.2.2]) (fun i x => x.2.2.2.2.length = i ∧ x.2.2.2.2.map (·.2) = List.replicate i (N9 k)) (none, 0, none, 0, []) ⟨rfl, rfl⟩ ?_
 ·rintro i ⟨ta, tc, pa, qc, ts⟩ hi ⟨hlen, hmap⟩ L hL
  simp only at hlen hmap ⊢
  by_cases hlt : i < n
  ·(have zz:=trivial;repeat((first|clear zz|with_reducible first|refine A3 ?_|refine A5 fun _=>?_|refine A4 fun _=>?_);try simp(disch:=first|omega|assumption|((repeat(first|exact A1|exact uH|apply A2|apply uT));first|done|fail)|(simp;first|done|omega|fail))[h1, hne, hlt]))
   refine K3 A4k (fun w' _ => A63 w' k (by omega)) ?_
   intro y u hu
   subst hu
   refine A1y (e := 218) (k := 4) (v := u) (q := (N9 k).length) (xs := (N9 k).flatMap F7) (by (repeat constructor)) fun ua uc hu => ?_
   subst hu
   (have zz:=trivial;repeat((first|clear zz|with_reducible first|refine A3 ?_|refine A5 fun _=>?_|refine A4 fun _=>?_|refine C8 fun _=>?_|refine C7 (hK:=fun _=>?_)|refine C9 (hK:=fun _=>?_)|refine D0 (hK:=fun _=>?_)|refine D1 (hK:=fun _=>?_)|refine D2 (hK:=fun _=>?_));try simp(disch:=first|omega|assumption|((repeat(first|exact A1|exact uH|apply A2|apply uT));first|done|fail)|(simp;first|done|omega|fail))[h1, hne, hlt]))
   refine A3q (e := 84) (k := 1) (q := i) (r := 1) (xs := ts.map (·.1)) (news := [.slice ua (N9 k).length uc]) (by (repeat constructor)) (U6.own (by (repeat constructor))) (by decide) (by simp [hlen]) (by simp) (by simp only [maxLen]; omega) (by omega) fun a' c' => ?_
   (have zz:=trivial;repeat((first|clear zz|with_reducible first|refine A3 ?_|refine A5 fun _=>?_|refine A4 fun _=>?_|refine C8 fun _=>?_|refine C7 (hK:=fun _=>?_)|refine C9 (hK:=fun _=>?_)|refine D0 (hK:=fun _=>?_)|refine D1 (hK:=fun _=>?_)|refine D2 (hK:=fun _=>?_));try simp(disch:=first|omega|assumption|((repeat(first|exact A1|exact uH|apply A2|apply uT));first|done|fail)|(simp;first|done|omega|fail))[h1, hne, hlt]))
   refine A3q (e := 3) (k := 1) (q := i) (r := 1) (xs := A6C (List.replicate i 0)) (news := [.int .i64 0]) (by (repeat constructor)) (U6.own (by (repeat constructor))) (by decide) (by simp) (by simp) (by simp only [maxLen]; omega) (by omega) fun a'' c'' => ?_
   (have zz:=trivial;repeat((first|clear zz|with_reducible first|refine A3 ?_|refine A5 fun _=>?_|refine A4 fun _=>?_);try simp(disch:=first|omega|assumption|((repeat(first|exact A1|exact uH|apply A2|apply uT));first|done|fail)|(simp;first|done|omega|fail))[]))
   refine V6 (r := .slice ua (N9 k).length uc) (l := N9 k) (ts := ts) (by (repeat' constructor)) ?_
   have h := hL hlt (a', c', a'', c'', ts ++ [(.slice ua (N9 k).length uc, N9 k)]) ⟨by simp [hlen], by rw [List.map_append, hmap, List.replicate_succ']; rfl⟩
   have e : A6C (List.replicate (i + 1) 0) = A6C (List.replicate i 0) ++ [.int .i64 0] := by rw [List.replicate_succ', A6C, List.map_append]; rfl
   simp only [List.map_append, List.map_cons, List.map_nil, e] at h
   exact Sels.tw (by (repeat' constructor)) h
  ·obtain rfl : i = n := by omega
   (have zz:=trivial;repeat((first|clear zz|with_reducible first|refine A3 ?_|refine A5 fun _=>?_|refine A4 fun _=>?_);try simp(disch:=first|omega|assumption|((repeat(first|exact A1|exact uH|apply A2|apply uT));first|done|fail)|(simp;first|done|omega|fail))[]))
   refine B4 (.slice ta i tc, .slice pa i qc, ts) ⟨rfl, hmap⟩ ?_
   simp only [hlen]
   (repeat' constructor)
end Go.Proofs.YtjobgnabneddjaaGreat
namespace Go.Proofs.YtjobgnabneddjaaGreat
open Go
structure WoH where
 b : Nat
 bc : Nat
 bs : Nat
 bk : Nat
 cn : Int
 cv : Value
 ov : Value
 sv : Value
 tv : Value
 pv : Value
 c : CfgV
 cells : List Int
 own : List Int
 ls : List SlH
 keep : List (Int × Int)
 ts : List (Value × List EnV)
 pl : List Nat
 now : Int
def D5 (m : WoH) : List Res := [D7 m.b m.c (.pointer (some ⟨m.bc, 0, none⟩)) (.pointer (some ⟨m.bs, 0, none⟩)) (.pointer (some ⟨m.bk, 0, none⟩)) m.tv m.pv (.int .i64 m.now),
 .pt m.bc (.cells #[.int .i64 m.cn, m.cv, m.ov] 141), .own 3 1 m.cv m.cells.length (H3 m.cells), .own 3 1 m.ov m.own.length (H3 m.own),
 .pt m.bs (.cells #[m.sv] 231), .own 266 1 m.sv m.ls.length (m.ls.map SlH.val), B0s m.ls, A36 m.bk m.keep,
 .own 84 1 m.tv m.ts.length (m.ts.map (·.1)), .own 3 1 m.pv m.pl.length (A6C m.pl)]
def WoH.ws (m : WoH) : WS := ⟨m.c, m.cells, m.own, m.ls.map SlH.sp, m.keep, m.ts.map (·.2), m.pl, m.now⟩
def N2 (c : CfgV) : WS := ⟨c, List.replicate (2 + c.wk.toNat) 0, List.replicate c.sh.toNat (-1), List.replicate c.sl.toNat .no, List.replicate c.sl.toNat (0, 0), List.replicate c.sh.toNat (N9 c.cp.toNat), List.replicate c.sh.toNat 0, 0⟩
abbrev B86 := (Nat × Value × Value) × (Nat × Value × Nat) × (Value × Value × List (Value × List EnV))
def N8 : Value := .pointer none
def F6 : Value := .slice none 0 0
def A6g (b : Nat) (c : CfgV) : Nat → B86 → List Res
 | 0, x => [D7 b c N8 N8 N8 F6 F6 (.int .i64 0)]
 | 1, x => D7 b c (.pointer (some ⟨x.1.1, 0, none⟩)) N8 N8 F6 F6 (.int .i64 0) :: D3 x.1.1 0 x.1.2.1 x.1.2.2 (List.replicate (2 + c.wk.toNat) 0) (List.replicate c.sh.toNat (-1))
 | 2, x => D7 b c (.pointer (some ⟨x.1.1, 0, none⟩)) (.pointer (some ⟨x.2.1.1, 0, none⟩)) (.pointer (some ⟨x.2.1.2.2, 0, none⟩)) F6 F6 (.int .i64 0) :: (D3 x.1.1 0 x.1.2.1 x.1.2.2 (List.replicate (2 + c.wk.toNat) 0) (List.replicate c.sh.toNat (-1)) ++ A36 x.2.1.2.2 (List.replicate c.sl.toNat (0, 0)) :: e9 x.2.1.1 x.2.1.2.1 (List.replicate c.sl.toNat SlH.no))
 | _, x => D7 b c (.pointer (some ⟨x.1.1, 0, none⟩)) (.pointer (some ⟨x.2.1.1, 0, none⟩)) (.pointer (some ⟨x.2.1.2.2, 0, none⟩)) x.2.2.1 x.2.2.2.1 (.int .i64 0) :: (D3 x.1.1 0 x.1.2.1 x.1.2.2 (List.replicate (2 + c.wk.toNat) 0) (List.replicate c.sh.toNat (-1)) ++ A36 x.2.1.2.2 (List.replicate c.sl.toNat (0, 0)) :: (e9 x.2.1.1 x.2.1.2.1 (List.replicate c.sl.toNat SlH.no) ++ [.own 84 1 x.2.2.1 x.2.2.2.2.length (x.2.2.2.2.map (·.1)), .own 3 1 x.2.2.2.1 x.2.2.2.2.length (A6C (List.replicate c.sh.toNat 0)), Z6 x.2.2.2.2]))
theorem B8H (w : World) (b1 : Nat) (c : CfgV) (pv : Value) (hok : T0 c = true) (hb1 : bl w b1 = some (.cells (M8 c) 23 (0, 0)))
  (hv : K4 w pv 3 [.func (.func 67) #[] #[.pointer (some ⟨b1, 0, none⟩)], .func (.func 69) #[] #[.pointer (some ⟨b1, 0, none⟩)], .func (.func 72) #[] #[.pointer (some ⟨b1, 0, none⟩)]]) :
  Fn PR B7 66 #[c.val, pv] w (Rn [] w (fun (y : WoH) u => u = .pointer (some ⟨y.b, 0, none⟩) ∧ y.c = c ∧ y.ws = N2 c) fun y => D5 y ++ [Z6 y.ts]) := by
 refine B0a (TW.go (κ := false) (S := []) ?_)
 unfold A4w
 have hb : (1 ≤ c.wk ∧ c.wk ≤ 64) ∧ (1 ≤ c.sh ∧ c.sh ≤ 16) ∧ (1 ≤ c.cp ∧ c.cp ≤ 64) ∧ (2 ≤ c.sl ∧ c.sl ≤ 8) := by
  simp [T0, V5] at hok; omega
 obtain ⟨a, cap, rfl, hr⟩ := hv.form
 obtain ⟨g, o, rfl, hrow⟩ := hr (by omega)
 simp only [CfgV.val]
 (have zz:=trivial;repeat((first|clear zz|with_reducible first|refine A3 ?_|refine A5 fun _=>?_|refine A4 fun _=>?_);try simp(disch:=first|omega|assumption|((repeat(first|exact A1|exact uH|apply A2|apply uT));first|done|fail)|(simp;first|done|omega|fail))[]))
 rename_i b2 b
 refine m7 (α := B86) 3 (fun i x => A6g b c i x ++ [.pt b2 (.cells (M8 c) 23)]) (fun i x => i = 3 → x.2.2.2.2.map (·.2) = List.replicate c.sh.toNat (N9 c.cp.toNat)) ((0, N8, N8), (0, N8, 0), (N8, N8, [])) (by omega) ?_ (by simp [A6g, D7, E1, M8, N8, F6])
 have r0 : w.cell? ⟨g, o, none⟩ = some (.func (.func 67) #[] #[.pointer (some ⟨b1, 0, none⟩)]) := hrow 0 (by simp)
 have r1 : w.cell? ⟨g, o + 1, none⟩ = some (.func (.func 69) #[] #[.pointer (some ⟨b1, 0, none⟩)]) := hrow 1 (by simp)
 have r2 : w.cell? ⟨g, o + 2, none⟩ = some (.func (.func 72) #[] #[.pointer (some ⟨b1, 0, none⟩)]) := hrow 2 (by simp)
 have hne : ∀ {w' : World} {A : List Res}, LW false [] w A w' → ∀ pc ps pk tv pv now, D7 b c pc ps pk tv pv now ∈ A → b1 ≠ b := fun {w' A} hw' pc ps pk tv pv now hm e => by
  have := (hw'.own _ hm b (by simp [D7, Res.foot])).1
  have h1 := G5 hb1
  rcases this with h | h
  ·cases h
  ·omega
 have hbb : ∀ w', KS false [] w w' → bl w' b1 = some (.cells (M8 c) 23 (0, 0)) := fun w' hk => hk.2.1 _ _ (by simp) rfl hb1
 rintro i ⟨⟨bc, cv, ov⟩, ⟨bs, sv, bk⟩, ⟨tv, pv', ts⟩⟩ hi hφ L hL
 have hi4 : i = 0 ∨ i = 1 ∨ i = 2 ∨ i = 3 := by omega
 rcases hi4 with rfl | rfl | rfl | rfl
 ·simp only [A6g, List.cons_append, List.nil_append, D3] at hL ⊢
  (have zz:=trivial;repeat((first|clear zz|with_reducible first|refine A3 ?_|refine A5 fun _=>?_|refine A4 fun _=>?_);try simp(disch:=first|omega|assumption|((repeat(first|exact A1|exact uH|apply A2|apply uT));first|done|fail)|(simp;first|done|omega|fail))[r0]))
  refine C6 (Hc := [D7 b c N8 N8 N8 F6 F6 (.int .i64 0)]) A7N (fun w' hw' hs => B8B w' b b1 c _ _ _ _ _ _ (by omega) (by omega) (hbb w' hw'.ks) (hne hw' _ _ _ _ _ _ (List.mem_cons_self ..)) hs) (by (repeat' constructor)) ?_
  rintro x v rfl
  simp only [D3, List.cons_append, List.nil_append]
  (have zz:=trivial;repeat((first|clear zz|with_reducible first|refine A3 ?_|refine A5 fun _=>?_|refine A4 fun _=>?_);try simp(disch:=first|omega|assumption|((repeat(first|exact A1|exact uH|apply A2|apply uT));first|done|fail)|(simp;first|done|omega|fail))[]))
  have h := hL (by omega) (x, (0, N8, 0), (N8, N8, [])) (by omega)
  simp only [List.length_replicate, List.map_replicate] at h ⊢
  exact Sels.tw (by (repeat' constructor)) h
 ·simp only [A6g, List.cons_append, List.nil_append, D3, e9] at hL ⊢
  (have zz:=trivial;repeat((first|clear zz|with_reducible first|refine A3 ?_|refine A5 fun _=>?_|refine A4 fun _=>?_);try simp(disch:=first|omega|assumption|((repeat(first|exact A1|exact uH|apply A2|apply uT));first|done|fail)|(simp;first|done|omega|fail))[r1]))
  refine C6 (Hc := [D7 b c (.pointer (some ⟨bc, 0, none⟩)) N8 N8 F6 F6 (.int .i64 0)]) A7L (fun w' hw' hs => B7e w' b b1 c _ _ _ _ _ _ (by omega) (hbb w' hw'.ks) (hne hw' _ _ _ _ _ _ (List.mem_cons_self ..)) hs) (by (repeat' constructor)) ?_
  rintro x v rfl
  simp only [e9, List.cons_append, List.nil_append]
  (have zz:=trivial;repeat((first|clear zz|with_reducible first|refine A3 ?_|refine A5 fun _=>?_|refine A4 fun _=>?_);try simp(disch:=first|omega|assumption|((repeat(first|exact A1|exact uH|apply A2|apply uT));first|done|fail)|(simp;first|done|omega|fail))[]))
  have h := hL (by omega) ((bc, cv, ov), x, (N8, N8, [])) (by omega)
  simp only [List.length_replicate, List.map_replicate] at h ⊢
  exact Sels.tw (by (repeat' constructor)) h
 ·simp only [A6g, List.cons_append, List.nil_append, D3, e9] at hL ⊢
  (have zz:=trivial;repeat((first|clear zz|with_reducible first|refine A3 ?_|refine A5 fun _=>?_|refine A4 fun _=>?_);try simp(disch:=first|omega|assumption|((repeat(first|exact A1|exact uH|apply A2|apply uT));first|done|fail)|(simp;first|done|omega|fail))[r2]))
  refine C6 (Hc := [D7 b c (.pointer (some ⟨bc, 0, none⟩)) (.pointer (some ⟨bs, 0, none⟩)) (.pointer (some ⟨bk, 0, none⟩)) F6 F6 (.int .i64 0)]) A7W (fun w' hw' hs => B7u w' b b1 c _ _ _ _ (by omega) (by omega) (hbb w' hw'.ks) (hne hw' _ _ _ _ _ _ (List.mem_cons_self ..)) hs) (by (repeat' constructor)) ?_
  rintro x v ⟨rfl, hx⟩
  simp only [List.cons_append, List.nil_append]
  (have zz:=trivial;repeat((first|clear zz|with_reducible first|refine A3 ?_|refine A5 fun _=>?_|refine A4 fun _=>?_);try simp(disch:=first|omega|assumption|((repeat(first|exact A1|exact uH|apply A2|apply uT));first|done|fail)|(simp;first|done|omega|fail))[]))
  have h := hL (by omega) ((bc, cv, ov), (bs, sv, bk), x) (fun _ => hx)
  simp only [List.length_replicate, List.map_replicate] at h ⊢
  exact Sels.tw (by (repeat' constructor)) h
 ·have ht := hφ rfl
  simp only [A6g, List.cons_append, List.nil_append, D3, e9] at ht ⊢
  have hlen : ts.length = c.sh.toNat := by
   have := congrArg List.length ht
   simpa using this
  (have zz:=trivial;repeat((first|clear zz|with_reducible first|refine A3 ?_|refine A5 fun _=>?_|refine A4 fun _=>?_);try simp(disch:=first|omega|assumption|((repeat(first|exact A1|exact uH|apply A2|apply uT));first|done|fail)|(simp;first|done|omega|fail))[]))
  refine B4 ⟨b, bc, bs, bk, 0, cv, ov, sv, tv, pv', c, List.replicate (2 + c.wk.toNat) 0, List.replicate c.sh.toNat (-1), List.replicate c.sl.toNat SlH.no, List.replicate c.sl.toNat (0, 0), ts, List.replicate c.sh.toNat 0, 0⟩ ⟨rfl, rfl, by simp [WoH.ws, N2, ht, SlH.sp]⟩ ?_
  simp only [D5, List.cons_append, List.nil_append, List.length_replicate, List.map_replicate, hlen]
  (repeat' constructor)
end Go.Proofs.YtjobgnabneddjaaGreat
namespace Go.Proofs.YtjobgnabneddjaaGreat
open Go
theorem B3P (w : World) (c : CfgV) : Fn PR B7 16 #[c.val] w (Rn [] w (fun (y : WoH) u => if T0 c then u = .tuple #[.pointer (some ⟨y.b, 0, none⟩), .int .i64 0] ∧ y.c = c ∧ y.ws = N2 c else u = .tuple #[.pointer none, .int .i64 1]) fun y => if T0 c then D5 y ++ [Z6 y.ts] else []) := by
 refine B1P (TW.go (κ := false) (S := []) ?_)
 unfold A5a
 simp only [CfgV.val]
 (have zz:=trivial;repeat((first|clear zz|with_reducible first|refine A3 ?_|refine A5 fun _=>?_|refine A4 fun _=>?_);try simp(disch:=first|omega|assumption|((repeat(first|exact A1|exact uH|apply A2|apply uT));first|done|fail)|(simp;first|done|omega|fail))[]))
 rename_i b1
 refine B9 A8s (fun w' _ => B5b w' c) ?_
 cases hok : T0 c with
 | false =>
  (have zz:=trivial;repeat((first|clear zz|with_reducible first|refine A3 ?_|refine A5 fun _=>?_|refine A4 fun _=>?_);try simp(disch:=first|omega|assumption|((repeat(first|exact A1|exact uH|apply A2|apply uT));first|done|fail)|(simp;first|done|omega|fail))[]))
  exact B4 ⟨0, 0, 0, 0, 0, N8, N8, N8, N8, N8, c, [], [], [], [], [], [], 0⟩ (by simp) Sels.nil
 | true =>
  (have zz:=trivial;repeat((first|clear zz|with_reducible first|refine A3 ?_|refine A5 fun _=>?_|refine A4 fun _=>?_|refine C8 fun _=>?_|refine C7 (hK:=fun _=>?_)|refine C9 (hK:=fun _=>?_)|refine D0 (hK:=fun _=>?_)|refine D1 (hK:=fun _=>?_)|refine D2 (hK:=fun _=>?_));try simp(disch:=first|omega|assumption|((repeat(first|exact A1|exact uH|apply A2|apply uT));first|done|fail)|(simp;first|done|omega|fail))[]))
  rename_i g
  refine K3 A9A (fun w' hw' => B8H w' b1 c _ hok (hw'.pt (by (repeat constructor))) (U6.own (e := 124) (k := 1) (by (repeat constructor)) w' hw')) ?_
  rintro y v ⟨rfl, hy⟩
  (have zz:=trivial;repeat((first|clear zz|with_reducible first|refine A3 ?_|refine A5 fun _=>?_|refine A4 fun _=>?_);try simp(disch:=first|omega|assumption|((repeat(first|exact A1|exact uH|apply A2|apply uT));first|done|fail)|(simp;first|done|omega|fail))[]))
  refine B4 y ⟨rfl, hy⟩ ?_
  simp only [D5, List.cons_append, List.nil_append]
  (repeat' constructor)
theorem A21 (w : World) (b : Nat) (c : CfgV) (pc ps pk tv pv now : Value) (who : Int) (hwk : c.wk ≤ 64) (hb : bl w b = some (.cells (E1 c pc ps pk tv pv now) 39 (0, 0))) :
  Fn PR B7 57 #[.pointer (some ⟨b, 0, none⟩), .int .i64 who] w (fun u w' => u = .int .i64 (M1 c who) ∧ C3 [] w w') := by
 refine Fn.pure (A59 (TW.go (κ := false) (S := []) ?_))
 unfold A0N
 have h0 : w.cell? ⟨b, 0, none⟩ = some (.int .i64 c.wk) := by rw [D8 hb]; rfl
 unfold M1
 by_cases c1 : who < 1
 ·rw [if_pos (Or.inl c1)]
  (have zz:=trivial;repeat((first|clear zz|with_reducible first|refine A3 ?_|refine A5 fun _=>?_|refine A4 fun _=>?_);try simp(disch:=first|omega|assumption|((repeat(first|exact A1|exact uH|apply A2|apply uT));first|done|fail)|(simp;first|done|omega|fail))[c1]))
  exact A9 rfl
 by_cases c2 : c.wk < who
 ·rw [if_pos (Or.inr c2)]
  (have zz:=trivial;repeat((first|clear zz|with_reducible first|refine A3 ?_|refine A5 fun _=>?_|refine A4 fun _=>?_);try simp(disch:=first|omega|assumption|((repeat(first|exact A1|exact uH|apply A2|apply uT));first|done|fail)|(simp;first|done|omega|fail))[c1, c2, h0]))
  exact A9 rfl
 rw [if_neg (by omega)]
 (have zz:=trivial;repeat((first|clear zz|with_reducible first|refine A3 ?_|refine A5 fun _=>?_|refine A4 fun _=>?_);try simp(disch:=first|omega|assumption|((repeat(first|exact A1|exact uH|apply A2|apply uT));first|done|fail)|(simp;first|done|omega|fail))[c1, c2, h0]))
 exact A9 (by congr 1; omega)
end Go.Proofs.YtjobgnabneddjaaGreat
namespace Go.Proofs.YtjobgnabneddjaaGreat
open Go
def K8 (t : A0H) : Value := .agg #[.bool t.1, .bool t.2.1, .bool t.2.2]
end Go.Proofs.YtjobgnabneddjaaGreat
namespace Go.Proofs.YtjobgnabneddjaaGreat
open Go
structure WsOk (x : WS) : Prop where
 wk : 1 ≤ x.c.wk ∧ x.c.wk ≤ 64
 cells : x.cells.length = 2 + x.c.wk.toNat
 own : x.own.length ≤ 16
 sl : x.sl.length ≤ 8
 keep : x.keep.length ≤ 8
def WoH.sk (m : WoH) (ls : List SlH) (keep : List (Int × Int)) : WoH := { m with ls := ls, keep := keep }
end Go.Proofs.YtjobgnabneddjaaGreat
namespace Go.Proofs.YtjobgnabneddjaaGreat
open Go
structure WoD where
 cn : Int
 cells : List Int
 ls : List SlH
 keep : List (Int × Int)
def WoH.up (m : WoH) (d : WoD) : WoH := { m with cn := d.cn, cells := d.cells, ls := d.ls, keep := d.keep }
end Go.Proofs.YtjobgnabneddjaaGreat
namespace Go.Proofs.YtjobgnabneddjaaGreat
open Go
end Go.Proofs.YtjobgnabneddjaaGreat
namespace Go.Proofs.YtjobgnabneddjaaGreat
open Go
end Go.Proofs.YtjobgnabneddjaaGreat
namespace Go.Proofs.YtjobgnabneddjaaGreat
open Go
abbrev L9 := List (Value × List EnV)
def A7x (a b : L9) : Prop := ∀ t ∈ a, t ∈ b
theorem A7x.left {a b : L9} (h : A7x a b) (c : L9) : A7x a (b ++ c) := fun t ht => List.mem_append_left _ (h t ht)
def A8F (a b : L9) (t : List EnV) : Prop := ∀ x ∈ b, x ∈ a ∨ x.2 = t
theorem A8F.same (a : L9) (t : List EnV) : A8F a a t := fun x hx => Or.inl hx
theorem A8F.push (a : L9) (v : Value) (t : List EnV) : A8F a (a ++ [(v, t)]) t := fun x hx => by
 rcases List.mem_append.1 hx with hx | hx
 ·exact Or.inl hx
 ·rw [List.mem_singleton.1 hx]; exact Or.inr rfl
structure TabsOk (m : WoH) (P : L9) : Prop where
 few : m.ts.length ≤ 1000
 pl : m.pl.length = m.ts.length
 len : ∀ t ∈ m.ts, t.2.length ≤ 1000000
 keys : ∀ t ∈ m.ts, A3V t.2
 own : m.own.length ≤ 1024
 pool : A7x m.ts P
theorem B8L {α : Type} {f : α → Value} (l : List α) (i : Nat) (x : α) (h : i < l.length) : Z5 (l.map f) i [f x] = (l.set i x).map f := by rw [B1m (by simpa using h), List.map_set]
theorem A6K {κ : Bool} {S : List Nat} {w0 : World} {H : List Res} {K0 : WP} {P : L9} {v : Value} {l : List EnV} (hm : Z6 P ∈ H) (ht : (v, l) ∈ P) (h : ∀ a c, v = .slice a l.length c → TW κ S w0 H K0) : TW κ S w0 H K0 := fun w hw => by
 obtain ⟨a, c, e⟩ := L7.form ((hw.hold _ hm : A9Y P w) _ ht)
 exact h a c e w hw
end Go.Proofs.YtjobgnabneddjaaGreat
namespace Go.Proofs.YtjobgnabneddjaaGreat
open Go
end Go.Proofs.YtjobgnabneddjaaGreat
namespace Go.Proofs.YtjobgnabneddjaaGreat
open Go
end Go.Proofs.YtjobgnabneddjaaGreat
namespace Go.Proofs.YtjobgnabneddjaaGreat
open Go
def y8 : Nat → RunV → RunV → Prop
 | 0, r, r' => r = r'
 | k + 1, r, r' => r.j.ready r.x = true ∧ y8 k r.next r'
theorem y8.trans {r r' r'' : RunV} : ∀ {k m : Nat}, y8 k r r' → y8 m r' r'' → y8 (k + m) r r''
 | 0, m, h, h' => by cases h; simpa using h'
 | k + 1, m, h, h' => by
  rw [show k + 1 + m = k + m + 1 by omega]
  exact ⟨h.1, y8.trans h.2 h'⟩
theorem y8.run {r r' : RunV} : ∀ {k : Nat} (f : Nat), y8 k r r' → A7d (k + f) r = A7d f r'
 | 0, f, h => by cases h; simp
 | k + 1, f, h => by
  rw [show k + 1 + f = k + f + 1 by omega, A7d, if_pos h.1]
  exact y8.run f h.2
theorem B9v {r : RunV} (h : r.j.b.st = -1) : ∀ f, A7d f r = r
 | 0 => rfl
 | f + 1 => by rw [A7d, if_neg (by simp [JV.ready, h])]
theorem y8.ends {r r' : RunV} {k : Nat} (h : y8 k r r') (hk : k ≤ 200) (he : r'.j.b.st = -1) : A7d 200 r = r' := by
 have := h.run (200 - k)
 rw [show k + (200 - k) = 200 by omega] at this
 rw [this, B9v he]
theorem y8.one {r : RunV} (h : r.j.ready r.x = true) : y8 1 r r.next := ⟨h, rfl⟩
def B9C (x : WS) (k : Nat) : List Int := (List.range k).map fun i : Nat => G1 x.cells (M1 x.c (((i : Nat) : Int) + 1))
def A6L (P : List Int) (l : List (Int × Int)) : List (Int × Int) := l.map fun s => if W7 P s then (0, 0) else s
def A6D (P : List Int) (l : List (Int × Int)) (s : List SlV) : List SlV := List.zipWith (fun k s => if W7 P k then .no else s) l s
theorem C12 (P : List Int) : W7 P (0, 0) = false := rfl
end Go.Proofs.YtjobgnabneddjaaGreat
namespace Go.Proofs.YtjobgnabneddjaaGreat
open Go
theorem B8Q (l : List SlV) (i : Int) (x : SlV) : (A5e l i x).length = l.length := by unfold A5e; split <;> simp
theorem B5U (l : List (Int × Int)) (i a : Int) (s : Int × Int) : (A70 l i a s).length = l.length := by unfold A70; split <;> simp
theorem A8a (l : List (Int × Int)) : (s0 l).length = l.length := by unfold s0; split <;> simp
theorem A9j (l : List Int) (i v : Int) : (g6 l i v).length = l.length := by unfold g6; split <;> simp
theorem B93 (l : List Int) (i v : Int) : G1 (g6 l i v) i = if 0 ≤ i ∧ i < l.length then v else 0 := by
 unfold G1 g6
 by_cases h : 0 ≤ i ∧ i < l.length
 ·rw [if_pos h, if_pos h, if_pos (by rw [List.length_set]; exact h), List.getD_eq_getElem?_getD, List.getElem?_set_self (by omega)]; rfl
 ·rw [if_neg h, if_neg h, if_neg h]
theorem B5Y {i k : Int} (l : List Int) (v : Int) (h : i ≠ k) : G1 (g6 l i v) k = G1 l k := by
 unfold G1 g6
 by_cases h1 : 0 ≤ i ∧ i < l.length
 ·rw [if_pos h1, List.length_set]
  by_cases h2 : 0 ≤ k ∧ k < l.length
  ·rw [if_pos h2, if_pos h2, List.getD_eq_getElem?_getD, List.getD_eq_getElem?_getD, List.getElem?_set_ne (by omega)]
  ·rw [if_neg h2, if_neg h2]
 ·rw [if_neg h1]
end Go.Proofs.YtjobgnabneddjaaGreat
namespace Go.Proofs.YtjobgnabneddjaaGreat
open Go
end Go.Proofs.YtjobgnabneddjaaGreat
namespace Go.Proofs.YtjobgnabneddjaaGreat
open Go
theorem Fn.frame {f : FuncId} {args : Array Value} {w : World} {α : Type} {φ : α → Value → Prop} {Hn : α → List Res} {Hc Hk : List Res} (h : Fn PR B7 f args w (Rn (B3 Hc) w φ Hn)) (hw : LW false (B3 (Hc ++ Hk)) w (Hc ++ Hk) w) :
  Fn PR B7 f args w (Rn (B3 (Hc ++ Hk)) w φ fun a => Hn a ++ Hk) := h.mono fun v w' ⟨a, h1, h2⟩ => ⟨a, h1, hw.part h2⟩
structure WoAt (w : World) (m : WoH) : Prop where
 b : bl w m.b = some (.cells (E1 m.c (.pointer (some ⟨m.bc, 0, none⟩)) (.pointer (some ⟨m.bs, 0, none⟩)) (.pointer (some ⟨m.bk, 0, none⟩)) m.tv m.pv (.int .i64 m.now)) 39 (0, 0))
 c : bl w m.bc = some (.cells #[.int .i64 m.cn, m.cv, m.ov] 141 (0, 0))
 v : K4 w m.ov m.own.length (H3 m.own)
theorem WoAt.own {κ : Bool} {S : List Nat} {w0 w : World} {H : List Res} {m : WoH} (hw : LW κ S w0 H w) (h : ∀ r ∈ D5 m, r ∈ H) : WoAt w m :=
 ⟨hw.pt (h _ (by unfold D5 D7; (repeat constructor))), hw.pt (h _ (by unfold D5; (repeat constructor))), U6.own (e := 3) (k := 1) (h _ (by unfold D5; (repeat constructor))) w hw⟩
theorem WoAt.ks {w w' : World} {m : WoH} (h : WoAt w m) (hk : KS false [] w w') : WoAt w' m := ⟨hk.2.1 _ _ (by simp) rfl h.b, hk.2.1 _ _ (by simp) rfl h.c, h.v.ks hk (by simp)⟩
end Go.Proofs.YtjobgnabneddjaaGreat
namespace Go.Proofs.YtjobgnabneddjaaGreat
open Go
def F4 (j : JW) (tv : Value) : Array Value := #[.string j.text, .string j.key, .int .i64 j.shard, .bool j.closing, .int .i64 j.who, .int .i64 j.st, .int .i64 j.ep, .int .i64 j.slot, .int .i64 j.now, tv, .int .i64 j.ans.err, .int .i64 j.ans.bk, .bool j.ans.made, .int .i64 j.ans.count]
def E8 (b : Nat) (j : JW) (tv : Value) : Res := .pt b (.cells (F4 j tv) 130)
theorem A7H (w : World) (who : Int) (text : ByteArray) :
  Fn PR B7 17 #[.int .i64 who, .string text] w (Rn [] w (fun (b : Nat) u => u = .pointer (some ⟨b, 0, none⟩)) fun b => [E8 b (F1 who text) F6]) := by
 refine B0L (TW.go (κ := false) (S := []) ?_)
 unfold A4v
 (have zz:=trivial;repeat((first|clear zz|with_reducible first|refine A3 ?_|refine A5 fun _=>?_|refine A4 fun _=>?_);try simp(disch:=first|omega|assumption|((repeat(first|exact A1|exact uH|apply A2|apply uT));first|done|fail)|(simp;first|done|omega|fail))[]))
 rename_i b
 refine B4 b rfl ?_
 simp only [E8, F4, F1, F6, noA, H0]
 (repeat' constructor)
theorem C06 {w : World} {b : Nat} {j : JW} {tv : Value} (h : bl w b = some (.cells (F4 j tv) 130 (0, 0))) : w.cell? ⟨b, 5, none⟩ = some (.int .i64 j.st) := by rw [D8 h]; rfl
theorem n7 (w : World) (b : Nat) (j : JW) (tv : Value) (h : bl w b = some (.cells (F4 j tv) 130 (0, 0))) :
  Fn PR B7 22 #[.pointer (some ⟨b, 0, none⟩)] w (fun u w' => u = .int .i64 j.st ∧ C3 [] w w') := by
 refine Fn.pure (A5H (TW.go (κ := false) (S := []) ?_))
 unfold w9
 have h5 := C06 h
 (have zz:=trivial;repeat((first|clear zz|with_reducible first|refine A3 ?_|refine A5 fun _=>?_|refine A4 fun _=>?_);try simp(disch:=first|omega|assumption|((repeat(first|exact A1|exact uH|apply A2|apply uT));first|done|fail)|(simp;first|done|omega|fail))[h5]))
 exact A9 rfl
theorem A2s (w : World) (b : Nat) (j : JW) (tv : Value) (h : bl w b = some (.cells (F4 j tv) 130 (0, 0))) :
  Fn PR B7 27 #[.pointer (some ⟨b, 0, none⟩)] w (fun u w' => u = j.ans.val ∧ C3 [] w w') := by
 refine Fn.pure (A3x (TW.go (κ := false) (S := []) ?_))
 unfold m9
 have e2 : V8 w b 10 4 = some [.int .i64 j.ans.err, .int .i64 j.ans.bk, .bool j.ans.made, .int .i64 j.ans.count] := A06 (by rfl) (L5.bl h)
 (have zz:=trivial;repeat((first|clear zz|with_reducible first|refine A3 ?_|refine A5 fun _=>?_|refine A4 fun _=>?_);try simp(disch:=first|omega|assumption|((repeat(first|exact A1|exact uH|apply A2|apply uT));first|done|fail)|(simp;first|done|omega|fail))[e2]))
 exact A9 rfl
theorem B4v (w : World) (b : Nat) (j : JW) (tv : Value) (m : WoH) (h : bl w b = some (.cells (F4 j tv) 130 (0, 0))) (hm : WoAt w m) :
  Fn PR B7 23 #[.pointer (some ⟨b, 0, none⟩), .pointer (some ⟨m.b, 0, none⟩)] w (fun u w' => u = .bool (j.ready m.ws) ∧ C3 [] w w') := by
 refine Fn.pure (A5G (TW.go (κ := false) (S := []) ?_))
 unfold v8
 have h5 := C06 h
 have h2 : w.cell? ⟨b, 2, none⟩ = some (.int .i64 j.shard) := by rw [D8 h]; rfl
 have hc : w.cell? ⟨m.b, 5, none⟩ = some (.pointer (some ⟨m.bc, 0, none⟩)) := by rw [D8 hm.b]; rfl
 have ho : m.ws.own = m.own := rfl
 unfold JW.ready
 by_cases c1 : j.st < 10
 case neg =>
  (have zz:=trivial;repeat((first|clear zz|with_reducible first|refine A3 ?_|refine A5 fun _=>?_|refine A4 fun _=>?_);try simp(disch:=first|omega|assumption|((repeat(first|exact A1|exact uH|apply A2|apply uT));first|done|fail)|(simp;first|done|omega|fail))[h5, c1]))
  exact A9 (by simp [c1])
 by_cases c2 : j.st = 3
 case neg =>
  (have zz:=trivial;repeat((first|clear zz|with_reducible first|refine A3 ?_|refine A5 fun _=>?_|refine A4 fun _=>?_);try simp(disch:=first|omega|assumption|((repeat(first|exact A1|exact uH|apply A2|apply uT));first|done|fail)|(simp;first|done|omega|fail))[h5, c1, c2]))
  exact A9 (by simp [c1, c2])
 (have zz:=trivial;repeat((first|clear zz|with_reducible first|refine A3 ?_|refine A5 fun _=>?_|refine A4 fun _=>?_);try simp(disch:=first|omega|assumption|((repeat(first|exact A1|exact uH|apply A2|apply uT));first|done|fail)|(simp;first|done|omega|fail))[h5, c1, c2, h2, hc]))
 refine B9 A3j (fun w' hw' => let g := hm.ks hw'.ks; B5u w' m.bc m.cn m.cv m.ov m.own j.shard g.c g.v) ?_
 (have zz:=trivial;repeat((first|clear zz|with_reducible first|refine A3 ?_|refine A5 fun _=>?_|refine A4 fun _=>?_);try simp(disch:=first|omega|assumption|((repeat(first|exact A1|exact uH|apply A2|apply uT));first|done|fail)|(simp;first|done|omega|fail))[c1, c2]))
 exact A9 (by simp [c2, ho])
theorem A68 (w : World) (b : Nat) (j : JW) (tv : Value) (e : Int) (hw : LW false [b] w [E8 b j tv] w) :
  Fn PR B7 130 #[.pointer (some ⟨b, 0, none⟩), .int .i64 e] w (Rn [b] w (fun (_ : Unit) u => u = K8 (true, true, false)) fun _ => [E8 b (j.refuse e) tv]) := by
 refine A4V (TW.goH (κ := false) (S := [b]) ?_ hw)
 unfold r9
 simp only [E8, F4, JW.refuse]
 (have zz:=trivial;repeat((first|clear zz|with_reducible first|refine A3 ?_|refine A5 fun _=>?_|refine A4 fun _=>?_);try simp(disch:=first|omega|assumption|((repeat(first|exact A1|exact uH|apply A2|apply uT));first|done|fail)|(simp;first|done|omega|fail))[]))
 exact B4 () rfl (by (repeat' constructor))
theorem A91 (w : World) (b : Nat) (j : JW) (tv : Value) (sh : Int) (ht : j.text.size < 2 ^ 40) (hsh : sh < 2 ^ 63) (hw : LW false [b] w [E8 b j tv] w) :
  Fn PR B7 131 #[.pointer (some ⟨b, 0, none⟩), .int .i64 sh] w (Rn [b] w (fun (_ : Unit) u => u = .bool (decide ((E9 j.text).2.2 = 0))) fun _ => [E8 b (if (E9 j.text).2.2 = 0 then j.rd sh else j) tv]) := by
 refine A5F (TW.goH (κ := false) (S := [b]) ?_ hw)
 unfold u6
 simp only [E8, F4]
 (have zz:=trivial;repeat((first|clear zz|with_reducible first|refine A3 ?_|refine A5 fun _=>?_|refine A4 fun _=>?_);try simp(disch:=first|omega|assumption|((repeat(first|exact A1|exact uH|apply A2|apply uT));first|done|fail)|(simp;first|done|omega|fail))[]))
 refine B9 k8 (fun w' hw' => y7 w' j.text ht) ?_
 by_cases c1 : (E9 j.text).2.2 = 0
 case neg =>
  simp only [if_neg c1, decide_eq_false c1]
  (have zz:=trivial;repeat((first|clear zz|with_reducible first|refine A3 ?_|refine A5 fun _=>?_|refine A4 fun _=>?_);try simp(disch:=first|omega|assumption|((repeat(first|exact A1|exact uH|apply A2|apply uT));first|done|fail)|(simp;first|done|omega|fail))[packet.val, M3, c1]))
  exact B4 () rfl (by (repeat' constructor))
 simp only [if_pos c1, decide_eq_true c1]
 have hk := B0C (E9 j.text).1
 (have zz:=trivial;repeat((first|clear zz|with_reducible first|refine A3 ?_|refine A5 fun _=>?_|refine A4 fun _=>?_);try simp(disch:=first|omega|assumption|((repeat(first|exact A1|exact uH|apply A2|apply uT));first|done|fail)|(simp;first|done|omega|fail))[packet.val, M3, c1]))
 refine B9 (u := A3g (E9 j.text).1) A7g (fun w' hw' => B7k w' (E9 j.text).1) ?_
 (have zz:=trivial;repeat((first|clear zz|with_reducible first|refine A3 ?_|refine A5 fun _=>?_|refine A4 fun _=>?_);try simp(disch:=first|omega|assumption|((repeat(first|exact A1|exact uH|apply A2|apply uT));first|done|fail)|(simp;first|done|omega|fail))[A3g]))
 rw [show (if S7 (E9 j.text).1 = true then A1B (E9 j.text).1 else H0) = A6H (E9 j.text).1 from rfl]
 refine B9 A8P (fun w' hw' => B70 w' _ sh hk hsh) ?_
 (have zz:=trivial;repeat((first|clear zz|with_reducible first|refine A3 ?_|refine A5 fun _=>?_|refine A4 fun _=>?_);try simp(disch:=first|omega|assumption|((repeat(first|exact A1|exact uH|apply A2|apply uT));first|done|fail)|(simp;first|done|omega|fail))[]))
 rw [B7T (by (repeat constructor)) (by rfl)]
 refine B9 A5P (fun w' _ => B4U w' (E9 j.text).1 (E9 j.text).2.1) ?_
 (have zz:=trivial;repeat((first|clear zz|with_reducible first|refine A3 ?_|refine A5 fun _=>?_|refine A4 fun _=>?_);try simp(disch:=first|omega|assumption|((repeat(first|exact A1|exact uH|apply A2|apply uT));first|done|fail)|(simp;first|done|omega|fail))[]))
 refine B4 () rfl ?_
 simp only [JW.rd]
 (repeat' constructor)
end Go.Proofs.YtjobgnabneddjaaGreat
namespace Go.Proofs.YtjobgnabneddjaaGreat
open Go
structure WoZ where
 cn : Int
 cells : List Int
 own : List Int
 tv : Value
 ts : L9
def WoH.uz (m : WoH) (d : WoZ) : WoH := { m with cn := d.cn, cells := d.cells, own := d.own, tv := d.tv, ts := d.ts }
def WoH.dz (m : WoH) : WoZ := ⟨m.cn, m.cells, m.own, m.tv, m.ts⟩
structure JwOk (j : JW) (tv : Value) (m : WoH) (P : L9) : Prop where
 ws : WsOk m.ws
 tabs : TabsOk m P
 tb : (tv, j.table) ∈ P
 shn : m.ts.length = m.c.sh
 text : j.text.size < 2 ^ 40
 key : j.key.size < 2 ^ 60
 shard : 0 ≤ j.shard ∧ j.shard < m.ts.length
 keys : A3V j.table
 len : j.table.length ≤ 1000000
 slot : -1 ≤ j.slot ∧ j.slot ≤ 1000
 ep : 0 ≤ G1 m.cells 0 ∧ G1 m.cells 0 ≤ 1000000
 cur : 0 ≤ G1 m.cells 1 ∧ G1 m.cells 1 ≤ 1000
abbrev JwY := Value × WoZ × L9
def jwF (m : WoH) (P : L9) (r : JwR) (y : JwY) : Prop := (m.uz y.2.1).ws = r.2.1 ∧ A7x y.2.1.ts y.2.2 ∧ (y.1, r.1.table) ∈ y.2.2 ∧ A8F P y.2.2 r.1.table
def L0 (b : Nat) (m : WoH) (r : JwR) (y : JwY) : List Res := E8 b r.1 y.1 :: Z6 y.2.2 :: D5 (m.uz y.2.1)
def D9 (b : Nat) (j : JW) (tv : Value) (m : WoH) (P : L9) : List Res := E8 b j tv :: Z6 P :: D5 m
abbrev A1A (f : FuncId) (w : World) (b : Nat) (j : JW) (tv : Value) (m : WoH) (P : L9) (r : JwR) : Prop :=
 Fn PR B7 f #[.pointer (some ⟨b, 0, none⟩), .pointer (some ⟨m.b, 0, none⟩)] w (Rn (B3 (D9 b j tv m P)) w (fun (y : JwY) u => u = K8 r.2.2 ∧ jwF m P r y) (L0 b m r))
theorem H9 {m : WoH} {P : L9} {tv : Value} {r : JwR} {d : WoZ} (h1 : (m.uz d).ws = r.2.1) (h2 : d.ts = m.ts) (hP : A7x m.ts P) (h3 : (tv, r.1.table) ∈ P) : jwF m P r (tv, d, P) := ⟨h1, by rw [h2]; exact hP, h3, .same _ _⟩
theorem C1g (w : World) (b : Nat) (j : JW) (tv : Value) (m : WoH) (P : L9) (h : JwOk j tv m P) (hw : LW false (B3 (D9 b j tv m P)) w (D9 b j tv m P) w) : A1A 77 w b j tv m P (jw1 j m.ws) := by
 refine A6u (TW.goH (κ := false) ?_ hw)
 unfold A0x
 have hwk := h.ws.wk
 have hcl : m.cells.length ≤ 1024 := by have := h.ws.cells; have e : m.ws.cells = m.cells := rfl; rw [e] at this; omega
 generalize hS : B3 (D9 b j tv m P) = S at *
 simp only [D9, E8, F4, D5, D7, E1]
 (have zz:=trivial;repeat((first|clear zz|with_reducible first|refine A3 ?_|refine A5 fun _=>?_|refine A4 fun _=>?_);try simp(disch:=first|omega|assumption|((repeat(first|exact A1|exact uH|apply A2|apply uT));first|done|fail)|(simp;first|done|omega|fail))[]))
 refine B9 N4 (fun w' hw' => A21 w' m.b m.c _ _ _ _ _ _ j.who hwk.2 (hw'.pt (b := m.b) (by unfold E1; (repeat constructor)))) ?_
 (have zz:=trivial;repeat((first|clear zz|with_reducible first|refine A3 ?_|refine A5 fun _=>?_|refine A4 fun _=>?_);try simp(disch:=first|omega|assumption|((repeat(first|exact A1|exact uH|apply A2|apply uT));first|done|fail)|(simp;first|done|omega|fail))[]))
 refine C6 (Hc := D3 m.bc m.cn m.cv m.ov m.cells m.own) m0 (fun w' _ hs => A98 w' m.bc m.cn m.cv m.ov m.cells m.own (M1 m.c j.who) (IntKind.i64.wrap (j.ep + 1)) hcl hs) (by unfold D3; (repeat' constructor)) ?_
 rintro n' v rfl
 simp only [D3, List.cons_append, List.nil_append]
 (have zz:=trivial;repeat((first|clear zz|with_reducible first|refine A3 ?_|refine A5 fun _=>?_|refine A4 fun _=>?_);try simp(disch:=first|omega|assumption|((repeat(first|exact A1|exact uH|apply A2|apply uT));first|done|fail)|(simp;first|done|omega|fail))[]))
 refine B4 (tv, { m.dz with cn := n', cells := g6 m.cells (M1 m.c j.who) (IntKind.i64.wrap (j.ep + 1)) }, P) ⟨rfl, H9 rfl rfl h.tabs.pool h.tb⟩ ?_
 simp only [L0, jw1, E8, F4, D5, D7, E1, WoH.uz, WoH.dz]
 (repeat' constructor)
theorem C0u (w : World) (b : Nat) (j : JW) (tv : Value) (m : WoH) (P : L9) (h : JwOk j tv m P) (hw : LW false (B3 (D9 b j tv m P)) w (D9 b j tv m P) w) : A1A 85 w b j tv m P (jw9 j m.ws) := by
 refine A45 (TW.goH (κ := false) ?_ hw)
 unfold w8
 have hwk := h.ws.wk
 have hcl : m.cells.length ≤ 1024 := by have := h.ws.cells; have e : m.ws.cells = m.cells := rfl; rw [e] at this; omega
 generalize hS : B3 (D9 b j tv m P) = S at *
 simp only [D9, E8, F4, D5, D7, E1]
 (have zz:=trivial;repeat((first|clear zz|with_reducible first|refine A3 ?_|refine A5 fun _=>?_|refine A4 fun _=>?_);try simp(disch:=first|omega|assumption|((repeat(first|exact A1|exact uH|apply A2|apply uT));first|done|fail)|(simp;first|done|omega|fail))[]))
 refine B9 N4 (fun w' hw' => A21 w' m.b m.c _ _ _ _ _ _ j.who hwk.2 (hw'.pt (b := m.b) (by unfold E1; (repeat constructor)))) ?_
 (have zz:=trivial;repeat((first|clear zz|with_reducible first|refine A3 ?_|refine A5 fun _=>?_|refine A4 fun _=>?_);try simp(disch:=first|omega|assumption|((repeat(first|exact A1|exact uH|apply A2|apply uT));first|done|fail)|(simp;first|done|omega|fail))[]))
 refine C6 (Hc := D3 m.bc m.cn m.cv m.ov m.cells m.own) m0 (fun w' _ hs => A98 w' m.bc m.cn m.cv m.ov m.cells m.own (M1 m.c j.who) 0 hcl hs) (by unfold D3; (repeat' constructor)) ?_
 rintro n' v rfl
 simp only [D3, List.cons_append, List.nil_append]
 (have zz:=trivial;repeat((first|clear zz|with_reducible first|refine A3 ?_|refine A5 fun _=>?_|refine A4 fun _=>?_);try simp(disch:=first|omega|assumption|((repeat(first|exact A1|exact uH|apply A2|apply uT));first|done|fail)|(simp;first|done|omega|fail))[]))
 refine B4 (tv, { m.dz with cn := n', cells := g6 m.cells (M1 m.c j.who) 0 }, P) ⟨rfl, H9 rfl rfl h.tabs.pool h.tb⟩ ?_
 simp only [L0, jw9, E8, F4, D5, D7, E1, WoH.uz, WoH.dz]
 (repeat' constructor)
theorem C0Y (w : World) (b : Nat) (j : JW) (tv : Value) (m : WoH) (P : L9) (h : JwOk j tv m P) (hw : LW false (B3 (D9 b j tv m P)) w (D9 b j tv m P) w) : A1A 79 w b j tv m P (jw3 j m.ws) := by
 refine A55 (TW.goH (κ := false) ?_ hw)
 unfold A0Q
 have hol := h.tabs.own
 generalize hS : B3 (D9 b j tv m P) = S at *
 simp only [D9, E8, F4, D5, D7, E1]
 (have zz:=trivial;repeat((first|clear zz|with_reducible first|refine A3 ?_|refine A5 fun _=>?_|refine A4 fun _=>?_);try simp(disch:=first|omega|assumption|((repeat(first|exact A1|exact uH|apply A2|apply uT));first|done|fail)|(simp;first|done|omega|fail))[]))
 refine C6 (Hc := D3 m.bc m.cn m.cv m.ov m.cells m.own) q9 (fun w' _ hs => B1d w' m.bc m.cn m.cv m.ov m.cells m.own j.shard j.who hol hs) (by unfold D3; (repeat' constructor)) ?_
 rintro n' v ⟨r, rfl⟩
 simp only [D3, List.cons_append, List.nil_append]
 (have zz:=trivial;repeat((first|clear zz|with_reducible first|refine A3 ?_|refine A5 fun _=>?_|refine A4 fun _=>?_);try simp(disch:=first|omega|assumption|((repeat(first|exact A1|exact uH|apply A2|apply uT));first|done|fail)|(simp;first|done|omega|fail))[]))
 refine B4 (tv, { m.dz with cn := n', own := r4 m.own j.shard j.who }, P) ⟨rfl, H9 rfl rfl h.tabs.pool h.tb⟩ ?_
 simp only [L0, jw3, E8, F4, D5, D7, E1, WoH.uz, WoH.dz]
 (repeat' constructor)
theorem C03 (w : World) (b : Nat) (j : JW) (tv : Value) (m : WoH) (P : L9) (h : JwOk j tv m P) (hw : LW false (B3 (D9 b j tv m P)) w (D9 b j tv m P) w) : A1A 84 w b j tv m P (jw8 j m.ws) := by
 refine A3s (TW.goH (κ := false) ?_ hw)
 unfold r6
 have hol := h.tabs.own
 generalize hS : B3 (D9 b j tv m P) = S at *
 simp only [D9, E8, F4, D5, D7, E1]
 (have zz:=trivial;repeat((first|clear zz|with_reducible first|refine A3 ?_|refine A5 fun _=>?_|refine A4 fun _=>?_);try simp(disch:=first|omega|assumption|((repeat(first|exact A1|exact uH|apply A2|apply uT));first|done|fail)|(simp;first|done|omega|fail))[]))
 refine C6 (Hc := D3 m.bc m.cn m.cv m.ov m.cells m.own) f5 (fun w' _ hs => A8M w' m.bc m.cn m.cv m.ov m.cells m.own j.shard j.who hol hs) (by unfold D3; (repeat' constructor)) ?_
 rintro n' v ⟨r, rfl⟩
 simp only [D3, List.cons_append, List.nil_append]
 (have zz:=trivial;repeat((first|clear zz|with_reducible first|refine A3 ?_|refine A5 fun _=>?_|refine A4 fun _=>?_);try simp(disch:=first|omega|assumption|((repeat(first|exact A1|exact uH|apply A2|apply uT));first|done|fail)|(simp;first|done|omega|fail))[]))
 refine B4 (tv, { m.dz with cn := n', own := S9 m.own j.shard j.who }, P) ⟨rfl, H9 rfl rfl h.tabs.pool h.tb⟩ ?_
 simp only [L0, jw8, E8, F4, D5, D7, E1, WoH.uz, WoH.dz]
 (repeat' constructor)
theorem C0s (w : World) (b : Nat) (j : JW) (tv : Value) (m : WoH) (P : L9) (h : JwOk j tv m P) (hw : LW false (B3 (D9 b j tv m P)) w (D9 b j tv m P) w) : A1A 78 w b j tv m P (jw2 j m.ws) := by
 refine A5M (TW.goH (κ := false) ?_ hw)
 unfold x7
 have hwk := h.ws.wk
 have hcl : m.cells.length ≤ 1024 := by have := h.ws.cells; have e : m.ws.cells = m.cells := rfl; rw [e] at this; omega
 generalize hS : B3 (D9 b j tv m P) = S at *
 have e0 : G1 m.ws.cells 0 = G1 m.cells 0 := rfl
 unfold jw2
 rw [e0]
 by_cases c1 : G1 m.cells 0 = j.ep
 ·rw [if_pos c1]
  simp only [D9, E8, F4, D5, D7, E1]
  (have zz:=trivial;repeat((first|clear zz|with_reducible first|refine A3 ?_|refine A5 fun _=>?_|refine A4 fun _=>?_);try simp(disch:=first|omega|assumption|((repeat(first|exact A1|exact uH|apply A2|apply uT));first|done|fail)|(simp;first|done|omega|fail))[]))
  refine C6 (Hc := D3 m.bc m.cn m.cv m.ov m.cells m.own) Q7 (fun w' _ hs => A4W w' m.bc m.cn m.cv m.ov m.cells m.own 0 hcl hs) (by unfold D3; (repeat' constructor)) ?_
  rintro n' v rfl
  rw [c1]
  simp only [D3, List.cons_append, List.nil_append]
  (have zz:=trivial;repeat((first|clear zz|with_reducible first|refine A3 ?_|refine A5 fun _=>?_|refine A4 fun _=>?_);try simp(disch:=first|omega|assumption|((repeat(first|exact A1|exact uH|apply A2|apply uT));first|done|fail)|(simp;first|done|omega|fail))[]))
  refine B4 (tv, { m.dz with cn := n' }, P) ⟨rfl, H9 rfl rfl h.tabs.pool h.tb⟩ ?_
  simp only [L0, E8, F4, D5, D7, E1, WoH.uz, WoH.dz]
  (repeat' constructor)
 ·rw [if_neg c1]
  simp only [D9, E8, F4, D5, D7, E1]
  (have zz:=trivial;repeat((first|clear zz|with_reducible first|refine A3 ?_|refine A5 fun _=>?_|refine A4 fun _=>?_);try simp(disch:=first|omega|assumption|((repeat(first|exact A1|exact uH|apply A2|apply uT));first|done|fail)|(simp;first|done|omega|fail))[]))
  refine C6 (Hc := D3 m.bc m.cn m.cv m.ov m.cells m.own) Q7 (fun w' _ hs => A4W w' m.bc m.cn m.cv m.ov m.cells m.own 0 hcl hs) (by unfold D3; (repeat' constructor)) ?_
  rintro n' v rfl
  simp only [D3, List.cons_append, List.nil_append]
  (have zz:=trivial;repeat((first|clear zz|with_reducible first|refine A3 ?_|refine A5 fun _=>?_|refine A4 fun _=>?_);try simp(disch:=first|omega|assumption|((repeat(first|exact A1|exact uH|apply A2|apply uT));first|done|fail)|(simp;first|done|omega|fail))[c1]))
  refine B4 (tv, { m.dz with cn := n' }, P) ⟨rfl, H9 rfl rfl h.tabs.pool h.tb⟩ ?_
  simp only [L0, E8, F4, D5, D7, E1, WoH.uz, WoH.dz]
  (repeat' constructor)
theorem C0g (w : World) (b : Nat) (j : JW) (tv : Value) (m : WoH) (P : L9) (h : JwOk j tv m P) (hw : LW false (B3 (D9 b j tv m P)) w (D9 b j tv m P) w) : A1A 80 w b j tv m P (jw4 j m.ws) := by
 refine A3B (TW.goH (κ := false) ?_ hw)
 unfold m5
 have hwk := h.ws.wk
 have hcl : m.cells.length ≤ 1024 := by have := h.ws.cells; have e : m.ws.cells = m.cells := rfl; rw [e] at this; omega
 generalize hS : B3 (D9 b j tv m P) = S at *
 simp only [D9, E8, F4, D5, D7, E1]
 (have zz:=trivial;repeat((first|clear zz|with_reducible first|refine A3 ?_|refine A5 fun _=>?_|refine A4 fun _=>?_);try simp(disch:=first|omega|assumption|((repeat(first|exact A1|exact uH|apply A2|apply uT));first|done|fail)|(simp;first|done|omega|fail))[]))
 refine C6 (Hc := D3 m.bc m.cn m.cv m.ov m.cells m.own) Q7 (fun w' _ hs => A4W w' m.bc m.cn m.cv m.ov m.cells m.own 1 hcl hs) (by unfold D3; (repeat' constructor)) ?_
 rintro n' v rfl
 obtain ⟨z, hz⟩ : ∃ z, z = IntKind.i64.wrap (G1 m.cells 1 - 1) := ⟨_, rfl⟩
 have e4 : jw4 j m.ws = ({ j with slot := z, now := m.now }, m.ws, true, false, false) := by rw [hz]; rfl
 rw [e4]
 simp only [D3, List.cons_append, List.nil_append, C13, ← hz]
 (have zz:=trivial;repeat((first|clear zz|with_reducible first|refine A3 ?_|refine A5 fun _=>?_|refine A4 fun _=>?_);try simp(disch:=first|omega|assumption|((repeat(first|exact A1|exact uH|apply A2|apply uT));first|done|fail)|(simp;first|done|omega|fail))[← hz]))
 refine B4 (tv, { m.dz with cn := n' }, P) ⟨rfl, H9 rfl rfl h.tabs.pool h.tb⟩ ?_
 simp only [L0, E8, F4, D5, D7, E1, WoH.uz, WoH.dz]
 (repeat' constructor)
theorem C0m (w : World) (b : Nat) (j : JW) (tv : Value) (m : WoH) (P : L9) (h : JwOk j tv m P) (hsh : m.c.sh ≤ 1000) (hw : LW false (B3 (D9 b j tv m P)) w (D9 b j tv m P) w) : A1A 76 w b j tv m P (jw0 j m.ws) := by
 refine A44 (TW.goH (κ := false) ?_ hw)
 unfold u4
 have hwk := h.ws.wk
 have hcl : m.cells.length ≤ 1024 := by have := h.ws.cells; have e : m.ws.cells = m.cells := rfl; rw [e] at this; omega
 generalize hS : B3 (D9 b j tv m P) = S at *
 have e0 : m.ws.c = m.c := rfl
 have e1 : G1 m.ws.cells 0 = G1 m.cells 0 := rfl
 unfold jw0
 rw [e0, e1]
 by_cases c1 : M1 m.c j.who < 0
 ·rw [if_pos c1]
  simp only [D9, E8, F4, D5, D7, E1]
  (have zz:=trivial;repeat((first|clear zz|with_reducible first|refine A3 ?_|refine A5 fun _=>?_|refine A4 fun _=>?_);try simp(disch:=first|omega|assumption|((repeat(first|exact A1|exact uH|apply A2|apply uT));first|done|fail)|(simp;first|done|omega|fail))[]))
  refine B9 N4 (fun w' hw' => A21 w' m.b m.c _ _ _ _ _ _ j.who hwk.2 (hw'.pt (b := m.b) (by unfold E1; (repeat constructor)))) ?_
  (have zz:=trivial;repeat((first|clear zz|with_reducible first|refine A3 ?_|refine A5 fun _=>?_|refine A4 fun _=>?_);try simp(disch:=first|omega|assumption|((repeat(first|exact A1|exact uH|apply A2|apply uT));first|done|fail)|(simp;first|done|omega|fail))[c1]))
  refine C6 (Hc := [E8 b j tv]) l8 (fun w' _ hs => A68 w' b j tv 1 hs) (by unfold E8 F4; (repeat' constructor)) ?_
  rintro _ v rfl
  simp only [List.cons_append, List.nil_append, K8, E8, F4]
  (have zz:=trivial;repeat((first|clear zz|with_reducible first|refine A3 ?_|refine A5 fun _=>?_|refine A4 fun _=>?_);try simp(disch:=first|omega|assumption|((repeat(first|exact A1|exact uH|apply A2|apply uT));first|done|fail)|(simp;first|done|omega|fail))[]))
  refine B4 (tv, m.dz, P) ⟨rfl, H9 rfl rfl h.tabs.pool h.tb⟩ ?_
  simp only [L0, E8, F4, D5, D7, E1, WoH.uz, WoH.dz]
  (repeat' constructor)
 rw [if_neg c1]
 by_cases c2 : (E9 j.text).2.2 = 0
 case neg =>
  rw [if_pos c2]
  simp only [D9, E8, F4, D5, D7, E1]
  (have zz:=trivial;repeat((first|clear zz|with_reducible first|refine A3 ?_|refine A5 fun _=>?_|refine A4 fun _=>?_);try simp(disch:=first|omega|assumption|((repeat(first|exact A1|exact uH|apply A2|apply uT));first|done|fail)|(simp;first|done|omega|fail))[]))
  refine B9 N4 (fun w' hw' => A21 w' m.b m.c _ _ _ _ _ _ j.who hwk.2 (hw'.pt (b := m.b) (by unfold E1; (repeat constructor)))) ?_
  (have zz:=trivial;repeat((first|clear zz|with_reducible first|refine A3 ?_|refine A5 fun _=>?_|refine A4 fun _=>?_);try simp(disch:=first|omega|assumption|((repeat(first|exact A1|exact uH|apply A2|apply uT));first|done|fail)|(simp;first|done|omega|fail))[c1]))
  refine C6 (Hc := [E8 b j tv]) s5 (fun w' _ hs => A91 w' b j tv m.c.sh h.text (by omega) hs) (by unfold E8 F4; (repeat' constructor)) ?_
  rintro _ v rfl
  rw [decide_eq_false c2, if_neg c2]
  simp only [List.cons_append, List.nil_append]
  (have zz:=trivial;repeat((first|clear zz|with_reducible first|refine A3 ?_|refine A5 fun _=>?_|refine A4 fun _=>?_);try simp(disch:=first|omega|assumption|((repeat(first|exact A1|exact uH|apply A2|apply uT));first|done|fail)|(simp;first|done|omega|fail))[]))
  refine C6 (Hc := [E8 b j tv]) l8 (fun w' _ hs => A68 w' b j tv 9 hs) (by (repeat' constructor)) ?_
  rintro _ v rfl
  simp only [List.cons_append, List.nil_append, K8, E8, F4]
  (have zz:=trivial;repeat((first|clear zz|with_reducible first|refine A3 ?_|refine A5 fun _=>?_|refine A4 fun _=>?_);try simp(disch:=first|omega|assumption|((repeat(first|exact A1|exact uH|apply A2|apply uT));first|done|fail)|(simp;first|done|omega|fail))[]))
  refine B4 (tv, m.dz, P) ⟨rfl, H9 rfl rfl h.tabs.pool h.tb⟩ ?_
  simp only [L0, E8, F4, D5, D7, E1, WoH.uz, WoH.dz]
  (repeat' constructor)
 rw [if_neg (by simpa using c2)]
 simp only [D9, E8, F4, D5, D7, E1]
 (have zz:=trivial;repeat((first|clear zz|with_reducible first|refine A3 ?_|refine A5 fun _=>?_|refine A4 fun _=>?_);try simp(disch:=first|omega|assumption|((repeat(first|exact A1|exact uH|apply A2|apply uT));first|done|fail)|(simp;first|done|omega|fail))[]))
 refine B9 N4 (fun w' hw' => A21 w' m.b m.c _ _ _ _ _ _ j.who hwk.2 (hw'.pt (b := m.b) (by unfold E1; (repeat constructor)))) ?_
 (have zz:=trivial;repeat((first|clear zz|with_reducible first|refine A3 ?_|refine A5 fun _=>?_|refine A4 fun _=>?_);try simp(disch:=first|omega|assumption|((repeat(first|exact A1|exact uH|apply A2|apply uT));first|done|fail)|(simp;first|done|omega|fail))[c1]))
 refine C6 (Hc := [E8 b j tv]) s5 (fun w' _ hs => A91 w' b j tv m.c.sh h.text (by omega) hs) (by unfold E8 F4; (repeat' constructor)) ?_
 rintro _ v rfl
 rw [decide_eq_true c2, if_pos c2]
 have hrt : (j.rd m.c.sh).table = j.table := rfl
 generalize j.rd m.c.sh = j2 at *
 simp only [List.cons_append, List.nil_append, E8, F4]
 (have zz:=trivial;repeat((first|clear zz|with_reducible first|refine A3 ?_|refine A5 fun _=>?_|refine A4 fun _=>?_);try simp(disch:=first|omega|assumption|((repeat(first|exact A1|exact uH|apply A2|apply uT));first|done|fail)|(simp;first|done|omega|fail))[]))
 refine C6 (Hc := D3 m.bc m.cn m.cv m.ov m.cells m.own) Q7 (fun w' _ hs => A4W w' m.bc m.cn m.cv m.ov m.cells m.own 0 hcl hs) (by unfold D3; (repeat' constructor)) ?_
 rintro n' v rfl
 simp only [D3, List.cons_append, List.nil_append]
 (have zz:=trivial;repeat((first|clear zz|with_reducible first|refine A3 ?_|refine A5 fun _=>?_|refine A4 fun _=>?_);try simp(disch:=first|omega|assumption|((repeat(first|exact A1|exact uH|apply A2|apply uT));first|done|fail)|(simp;first|done|omega|fail))[]))
 refine B4 (tv, { m.dz with cn := n' }, P) ⟨rfl, H9 rfl rfl h.tabs.pool (by simp only; rw [hrt]; exact h.tb)⟩ ?_
 simp only [L0, E8, F4, D5, D7, E1, WoH.uz, WoH.dz]
 (repeat' constructor)
end Go.Proofs.YtjobgnabneddjaaGreat
namespace Go.Proofs.YtjobgnabneddjaaGreat
open Go
abbrev pW (x : WS) : List Int := B9C x x.c.wk.toNat
abbrev kF (x : WS) : List (Int × Int) := A6L (pW x) x.keep
abbrev sF (x : WS) : List SlV := A6D (pW x) x.keep x.sl
theorem M9 (P : List Int) (l : List (Int × Int)) : (A6L P l).length = l.length := by unfold A6L; simp
theorem p7 {P : List Int} {l : List (Int × Int)} {s : List SlV} (h : l.length = s.length) : (A6D P l s).length = s.length := by unfold A6D; simp [h]
theorem C0J {l : List SlV} {i : Int} {x : SlV} (h : 0 ≤ i ∧ i < l.length) : A5e l i x = l.set i.toNat x := if_pos h
def epW (x : WS) : Int := IntKind.i64.wrap (G1 x.cells 0 + 1)
def H2 (x : WS) (p : List J0) : WS :=
 { x with cells := g6 (g6 x.cells 1 (Q9 (kF x) + 1)) 0 (epW x), sl := A5e (sF x) (Q9 (kF x)) (.rdy p), keep := if 0 < G1 x.cells 1 then B1y (s0 (kF x)) (G1 x.cells 1 - 1) (epW x) else s0 (kF x) }
end Go.Proofs.YtjobgnabneddjaaGreat
namespace Go.Proofs.YtjobgnabneddjaaGreat
open Go
theorem B3g {α : Type} {l : List α} {d : α} {i : Nat} (h : i < l.length) : l.getD i d = l[i] := by rw [List.getD_eq_getElem?_getD, List.getElem?_eq_getElem h]; rfl
theorem B5V {x : WS} {i : Nat} (h : (i : Int) < x.c.wk) : M1 x.c (((i : Nat) : Int) + 1) = (i : Nat) + 2 := by unfold M1; rw [if_neg (by omega)]; omega
theorem C09 {x : WS} {p : Int} : p ∈ pW x ↔ ∃ i : Nat, (i : Int) < x.c.wk ∧ p = G1 x.cells ((i : Nat) + 2) := by
 unfold pW B9C
 rw [List.mem_map]
 constructor
 ·rintro ⟨i, hi, rfl⟩
  rw [List.mem_range] at hi
  exact ⟨i, by omega, by rw [B5V (by omega)]⟩
 ·rintro ⟨i, hi, rfl⟩
  exact ⟨i, List.mem_range.2 (by omega), by rw [B5V hi]⟩
theorem B4z {x : WS} (h : ∀ i : Nat, G1 x.cells ((i : Nat) + 2) = 0) (e : Int) : B1f (pW x) e = true := by
 unfold B1f
 rw [List.all_eq_true]
 intro p hp
 obtain ⟨i, hi, rfl⟩ := C09.1 hp
 simp [h i]
def B4D (n t : Nat) : List (Int × Int) := (List.range n).map fun k => if k + 1 < t then (2, (k : Int) + 2) else if k + 1 = t then (1, 0) else (0, 0)
theorem B6j (n t : Nat) : (B4D n t).length = n := by simp [B4D]
theorem B18 {l : List (Int × Int)} {i : Nat} (h : i < l.length) : stK l (i : Nat) = l[i].1 := by
 unfold stK
 rw [if_pos (by omega), Int.toNat_natCast, List.getD_eq_getElem?_getD, List.getElem?_eq_getElem h]; rfl
structure BusyI (n t : Nat) (x : WS) : Prop where
 ok : WsOk x
 ep : G1 x.cells 0 = (t : Nat)
 cur : G1 x.cells 1 = (t : Nat)
 keep : x.keep = B4D n t
 sl : x.sl.length = n
 le : t ≤ n
theorem BusyI.kl {n t : Nat} {x : WS} (h : BusyI n t x) : x.keep.length = x.sl.length := by rw [h.sl, h.keep, B6j]
theorem B7Q {x : WS} {p : List J0} (h : WsOk x) (hl : x.keep.length = x.sl.length) : WsOk (H2 x p) := by
 obtain ⟨w1, w2, w3, w4, w5⟩ := h
 refine ⟨w1, by simp only [H2, A9j]; exact w2, w3, by simp only [H2, B8Q]; rw [p7 hl]; exact w4, ?_⟩
 simp only [H2]
 split
 ·simp only [B1y, B5U, A8a, M9]; exact w5
 ·simp only [A8a, M9]; exact w5
theorem B5E {x : WS} {p : List J0} (h : WsOk x) : G1 (H2 x p).cells 1 = Q9 (kF x) + 1 := by
 have h1 := h.wk; have h2 := h.cells
 simp only [H2]
 rw [B5Y _ _ (by omega), B93, if_pos (by omega)]
end Go.Proofs.YtjobgnabneddjaaGreat
namespace Go.Proofs.YtjobgnabneddjaaGreat
open Go
abbrev G2 (x : WS) : Int := G1 x.cells 1
theorem B1E {l : List (Int × Int)} {k : Nat} (hk : k < l.length) (h : l[k] = (0, 0)) : ¬ Q9 l < 0 := by
 unfold Q9
 have : l.findIdx (fun s => decide (s = (0, 0))) < l.length := List.findIdx_lt_length.2 ⟨_, List.getElem_mem hk, by simp [h]⟩
 rw [if_pos this]; omega
theorem B5p {l : List (Int × Int)} (h : ¬ Q9 l < 0) : ∃ k : Nat, ∃ hk : k < l.length, Q9 l = (k : Nat) ∧ l[k] = (0, 0) := by
 unfold Q9 at *
 by_cases c : l.findIdx (fun s => decide (s = (0, 0))) < l.length
 ·rw [if_pos c]
  refine ⟨_, c, rfl, ?_⟩
  have := List.findIdx_getElem (w := c)
  simpa using this
 ·rw [if_neg c] at h; omega
theorem B5l {l : List (Int × Int)} {k : Nat} (hk : k < l.length) (h : Q9 l = (k : Nat)) (h0 : l[k] = (0, 0)) : s0 l = l.set k (1, 0) := by
 unfold s0
 rw [h, if_neg (by omega), Int.toNat_natCast, B3g hk, h0]
theorem A3b {l : List SlV} {k : Nat} (h : k < l.length) : K7 l (k : Nat) = l[k] := by
 unfold K7; rw [if_pos (by omega), Int.toNat_natCast, B3g h]
structure CurI (x : WS) : Prop where
 ok : WsOk x
 kl : x.keep.length = x.sl.length
 two : 2 ≤ x.keep.length
 cur : 0 ≤ G2 x ∧ G2 x ≤ x.keep.length
 at1 : ∀ (k : Nat) (h : k < x.keep.length), (k : Int) + 1 = G2 x → (x.keep[k]).1 = 1 ∧ ∃ p, K7 x.sl (k : Nat) = .rdy p
 at2 : ∀ (k : Nat) (h : k < x.keep.length), (k : Int) + 1 ≠ G2 x → x.keep[k] = (0, 0) ∨ (x.keep[k]).1 = 2
theorem A5w {P : List Int} {l : List (Int × Int)} {k : Nat} (h : k < l.length) : (A6L P l)[k]'(by rw [M9]; exact h) = if W7 P l[k] then (0, 0) else l[k] := by simp [A6L]
theorem B6y {P : List Int} {l : List (Int × Int)} {s : List SlV} {k : Nat} (h : k < l.length) (h2 : k < s.length) (hl : l.length = s.length) : (A6D P l s)[k]'(by rw [p7 hl]; exact h2) = if W7 P l[k] then .no else s[k] := by simp [A6D]
theorem B3T {P : List Int} {s : Int × Int} (h : s.1 ≠ 2) : W7 P s = false := by unfold W7; rw [decide_eq_false h]; rfl
theorem CurI.freed {x : WS} (h : CurI x) : CurI { x with sl := sF x, keep := kF x } ∧ K7 (sF x) (G2 x - 1) = K7 x.sl (G2 x - 1) := by
 have hg : ∀ (k : Nat) (hk : k < x.keep.length), (k : Int) + 1 = G2 x → K7 (sF x) (k : Nat) = K7 x.sl (k : Nat) := fun k hk hc => by
  have h1 := (h.at1 k hk hc).1
  have hs : k < x.sl.length := by rw [← h.kl]; exact hk
  rw [A3b (by rw [p7 h.kl]; exact hs), A3b hs, B6y hk hs h.kl, B3T (by omega)]; rfl
 have hok := h.ok
 refine ⟨⟨⟨hok.wk, hok.cells, hok.own, by simp only; rw [p7 h.kl]; exact hok.sl, by simp only; rw [M9]; exact hok.keep⟩, by simp only; rw [M9, p7 h.kl]; exact h.kl, by simp only; rw [M9]; exact h.two, by simp only; rw [M9]; exact h.cur, fun k hk hc => ?_, fun k hk hc => ?_⟩, ?_⟩
 ·simp only [M9] at hk
  have h1 := h.at1 k hk hc
  simp only
  rw [A5w hk, B3T (by omega)]
  exact ⟨h1.1, by rw [hg k hk hc]; exact h1.2⟩
 ·simp only [M9] at hk
  simp only
  rw [A5w hk]
  cases hr : W7 (pW x) x.keep[k] with
  | true => left; rfl
  | false => simpa using h.at2 k hk hc
 ·by_cases hc : G2 x = 0
  ·rw [hc]; rfl
  ·have h1 := h.cur
   obtain ⟨k, hk⟩ : ∃ k : Nat, G2 x - 1 = k := ⟨(G2 x - 1).toNat, by omega⟩
   rw [hk]
   exact hg k (by omega) (by omega)
theorem B94 {l : List (Int × Int)} {i k : Nat} {s : Int × Int} (hk : k < l.length) : stK (l.set i s) (k : Nat) = if i = k then s.1 else l[k].1 := by
 rw [B18 (by rw [List.length_set]; exact hk), List.getElem_set]; split <;> rfl
theorem CurI.after {x : WS} (h : CurI x) (p : List J0) (ht : ¬ Q9 (kF x) < 0) : CurI (H2 x p) ∧ G2 (H2 x p) ≠ G2 x ∧ 1 ≤ G2 (H2 x p) ∧ K7 (H2 x p).sl (G2 (H2 x p) - 1) = .rdy p ∧ stK (H2 x p).keep (G2 (H2 x p) - 1) = 1
  ∧ (0 < G2 x → stK (H2 x p).keep (G2 x - 1) = 2) ∧ K7 (H2 x p).sl (G2 x - 1) = K7 x.sl (G2 x - 1) := by
 obtain ⟨hf, hgf⟩ := h.freed
 obtain ⟨s, hs, hts, hs0⟩ := B5p ht
 have hsl : s < (sF x).length := by have := hf.kl; simp only at this; omega
 have hcur' : G2 (H2 x p) = (s : Int) + 1 := by rw [show G2 (H2 x p) = G1 (H2 x p).cells 1 from rfl, B5E h.ok, hts]
 have hcf : G2 { x with sl := sF x, keep := kF x } = G2 x := rfl
 have hne : (s : Int) + 1 ≠ G2 x := fun hc => by
  have := (hf.at1 s hs (by rw [hcf]; exact hc)).1
  simp only at this
  rw [hs0] at this
  simp at this
 have htk := B5l hs hts hs0
 have hlen : (kF x).length = x.keep.length := M9 _ _
 have hsl' : (H2 x p).sl = (sF x).set s (.rdy p) := by
  show A5e (sF x) (Q9 (kF x)) (.rdy p) = _
  rw [hts, C0J (by omega), Int.toNat_natCast]
 have hkp : (H2 x p).keep = if 0 < G2 x then ((kF x).set s (1, 0)).set (G2 x - 1).toNat (2, epW x) else (kF x).set s (1, 0) := by
  show (if 0 < G1 x.cells 1 then B1y (s0 (kF x)) (G1 x.cells 1 - 1) (epW x) else s0 (kF x)) = _
  rw [htk]
  by_cases hc : 0 < G2 x
  ·rw [if_pos hc, if_pos hc]
   obtain ⟨k, hk⟩ : ∃ k : Nat, G2 x - 1 = k := ⟨(G2 x - 1).toNat, by omega⟩
   have hkl : k < (kF x).length := by have := h.cur; omega
   have h1 := (hf.at1 k hkl (by rw [hcf]; omega)).1
   unfold B1y A70
   have e3 : stK ((kF x).set s (1, 0)) (k : Nat) = 1 := by rw [B94 hkl, if_neg (by omega)]; exact h1
   rw [show G1 x.cells 1 - 1 = (k : Int) from hk, e3, if_pos ⟨rfl, by omega⟩]
  ·rw [if_neg hc, if_neg hc]
 have hgs : ∀ (k : Nat), k ≠ s → k < (sF x).length → K7 (H2 x p).sl (k : Nat) = K7 (sF x) (k : Nat) := fun k hk hl => by
  rw [hsl', A3b (by rw [List.length_set]; exact hl), A3b hl, List.getElem_set_ne (by omega)]
 have hgs0 : K7 (H2 x p).sl (s : Nat) = .rdy p := by rw [hsl', A3b (by rw [List.length_set]; exact hsl), List.getElem_set_self]
 have hold : K7 (H2 x p).sl (G2 x - 1) = K7 x.sl (G2 x - 1) := by
  rw [← hgf]
  by_cases hc : G2 x = 0
  ·rw [hc]; rfl
  ·have h1 := h.cur
   obtain ⟨k, hk⟩ : ∃ k : Nat, G2 x - 1 = k := ⟨(G2 x - 1).toNat, by omega⟩
   rw [hk]
   exact hgs k (by omega) (by have := hf.kl; simp only at this; omega)
 have hat : ∀ (k : Nat) (hk : k < (kF x).length), ∀ hk', (H2 x p).keep[k]'hk' = if (k : Int) + 1 = G2 x then (2, epW x) else if k = s then (1, 0) else (kF x)[k] := fun k hk hk' => by
  simp only [hkp]
  by_cases hc : 0 < G2 x
  ·simp only [if_pos hc]
   rw [List.getElem_set, List.getElem_set]
   by_cases h1 : (k : Int) + 1 = G2 x
   ·rw [if_pos h1, if_pos (by omega)]
   ·rw [if_neg h1, if_neg (by omega)]
    by_cases h2 : k = s
    ·rw [if_pos h2, if_pos h2.symm]
    ·rw [if_neg h2, if_neg (by omega)]
  ·simp only [if_neg hc]
   rw [List.getElem_set, if_neg (show ¬ (k : Int) + 1 = G2 x by omega)]
   by_cases h2 : k = s
   ·rw [if_pos h2, if_pos h2.symm]
   ·rw [if_neg h2, if_neg (by omega)]
 have hkl' : (H2 x p).keep.length = (kF x).length := by
  rw [hkp]; split <;> simp
 have hsll : (H2 x p).sl.length = (sF x).length := by rw [hsl', List.length_set]
 refine ⟨⟨B7Q h.ok h.kl, by rw [hkl', hsll]; exact hf.kl, by rw [hkl']; exact hf.two, by rw [hcur', hkl']; omega, fun k hk hc => ?_, fun k hk hc => ?_⟩, by rw [hcur']; exact hne, by rw [hcur']; omega, ?_, ?_, fun hc => ?_, hold⟩
 ·rw [hcur'] at hc
  obtain rfl : k = s := by omega
  rw [hat k (by rw [hkl'] at hk; exact hk), if_neg hne, if_pos rfl]
  exact ⟨rfl, p, hgs0⟩
 ·rw [hcur'] at hc
  have hk2 : k < (kF x).length := by rw [hkl'] at hk; exact hk
  rw [hat k hk2]
  by_cases h1 : (k : Int) + 1 = G2 x
  ·rw [if_pos h1]; right; rfl
  ·rw [if_neg h1, if_neg (by omega)]
   exact hf.at2 k hk2 (by rw [hcf]; exact h1)
 ·rw [hcur', show (s : Int) + 1 - 1 = (s : Nat) by omega]; exact hgs0
 ·rw [hcur', show (s : Int) + 1 - 1 = (s : Nat) by omega, B18 (by rw [hkl']; exact hs), hat s hs, if_neg hne, if_pos rfl]
 ·have h1 := h.cur
  obtain ⟨k, hk⟩ : ∃ k : Nat, G2 x - 1 = k := ⟨(G2 x - 1).toNat, by omega⟩
  rw [hk, B18 (by rw [hkl', hlen]; omega), hat k (by omega), if_pos (by omega)]
theorem CurI.free {x : WS} (h : CurI x) (hz : ∀ i : Nat, G1 x.cells ((i : Nat) + 2) = 0) : ¬ Q9 (kF x) < 0 := by
 have hlen : (kF x).length = x.keep.length := M9 _ _
 have h2 := h.two
 have key : ∀ (k : Nat) (hk : k < x.keep.length), (k : Int) + 1 ≠ G2 x → (kF x)[k]'(by rw [hlen]; exact hk) = (0, 0) := fun k hk hc => by
  rw [A5w hk]
  rcases h.at2 k hk hc with h0 | h0
  ·rw [h0, C12]; rfl
  ·have : W7 (pW x) x.keep[k] = true := by unfold W7; rw [h0, B4z hz]; rfl
   rw [this]; rfl
 by_cases hc : G2 x = 1
 ·exact B1E (k := 1) (by omega) (key 1 (by omega) (by omega))
 ·exact B1E (k := 0) (by omega) (key 0 (by omega) (by omega))
theorem CurI.new {c : CfgV} (h : T0 c = true) (hw : WsOk (N2 c)) : CurI (N2 c) := by
 simp only [T0, V5, Bool.and_eq_true, decide_eq_true_eq] at h
 have hcur : G2 (N2 c) = 0 := by
  show G1 (List.replicate _ 0) 1 = 0
  unfold G1; split
  ·rw [List.getD_eq_getElem?_getD, List.getElem?_replicate]; split <;> rfl
  ·rfl
 refine ⟨hw, by simp [N2], by simp only [N2, List.length_replicate]; omega, by rw [hcur]; omega, fun k hk hc => ?_, fun k hk hc => ?_⟩
 ·rw [hcur] at hc; omega
 ·left; simp [N2]
end Go.Proofs.YtjobgnabneddjaaGreat
namespace Go.Proofs.YtjobgnabneddjaaGreat
open Go
theorem C1c (w : World) (b : Nat) (j : JW) (tv : Value) (m : WoH) (P : L9) (h : JwOk j tv m P) (hw : LW false (B3 (D9 b j tv m P)) w (D9 b j tv m P) w) : A1A 81 w b j tv m P (jw5 j m.ws) := by
 refine A5S (TW.goH (κ := false) ?_ hw)
 unfold A0T
 obtain ⟨h1, h2, h3, h4, h5, h6⟩ := h.tabs
 obtain ⟨i, hi⟩ : ∃ i : Nat, j.shard = i := ⟨j.shard.toNat, by have := h.shard; omega⟩
 have hlt : i < m.ts.length := by have := h.shard; omega
 obtain ⟨⟨tv0, tl⟩, hx0⟩ : ∃ x, m.ts[i]? = some x := ⟨_, List.getElem?_eq_getElem hlt⟩
 have hxm := List.mem_of_getElem? hx0
 have g0 : (m.ts.map (·.1))[i]? = some tv0 := by rw [List.getElem?_map, hx0]; rfl
 have gg : m.ts[i]'hlt = (tv0, tl) := (List.getElem?_eq_some_iff.1 hx0).2
 have e5 : jw5 j m.ws = ({ j with table := tl }, m.ws, noT) := by
  unfold jw5
  have : m.ws.tabs.getD j.shard.toNat [] = tl := by simp [WoH.ws, hi, List.getD_eq_getElem?_getD, hx0]
  rw [this]
 rw [e5]
 generalize hS : B3 (D9 b j tv m P) = S at *
 simp only [D9, E8, F4, D5, D7, E1, hi]
 refine A30 (e := 84) (k := 1) (v := m.tv) (q := m.ts.length) (xs := m.ts.map (·.1)) (by (repeat constructor)) (by omega) fun tg tc hta => ?_
 refine A6K (P := P) (v := tv0) (l := tl) (by (repeat constructor)) (h6 _ hxm) fun xa xc hxa => ?_
 rw [hta]
 subst hxa
 (have zz:=trivial;repeat((first|clear zz|with_reducible first|refine A3 ?_|refine A5 fun _=>?_|refine A4 fun _=>?_);try simp(disch:=first|omega|assumption|((repeat(first|exact A1|exact uH|apply A2|apply uT));first|done|fail)|(simp;first|done|omega|fail))[hlt, g0, gg]))
 refine B4 (.slice xa tl.length xc, { m.dz with tv := .slice (some ⟨tg, 0, none⟩) m.ts.length tc }, P) ⟨rfl, H9 rfl rfl h6 (h6 _ hxm)⟩ ?_
 simp only [L0, E8, F4, D5, D7, E1, WoH.uz, WoH.dz, hi]
 (repeat' constructor)
theorem C1N (w : World) (b : Nat) (j : JW) (tv : Value) (m : WoH) (P : L9) (h : JwOk j tv m P) (hw : LW false (B3 (D9 b j tv m P)) w (D9 b j tv m P) w) : A1A 83 w b j tv m P (jw7 j m.ws) := by
 refine A47 (TW.goH (κ := false) ?_ hw)
 unfold x3
 obtain ⟨h1, h2, h3, h4, h5, h6⟩ := h.tabs
 have ht := h.tb
 obtain ⟨i, hi⟩ : ∃ i : Nat, j.shard = i := ⟨j.shard.toNat, by have := h.shard; omega⟩
 have hlt : i < m.ts.length := by have := h.shard; omega
 obtain ⟨⟨tv0, tl⟩, hx0⟩ : ∃ x, m.ts[i]? = some x := ⟨_, List.getElem?_eq_getElem hlt⟩
 have g0 : (m.ts.map (·.1))[i]? = some tv0 := by rw [List.getElem?_map, hx0]; rfl
 have gg : m.ts[i]'hlt = (tv0, tl) := (List.getElem?_eq_some_iff.1 hx0).2
 have e7 : jw7 j m.ws = (j, { m.ws with tabs := m.ws.tabs.set i j.table }, noT) := by unfold jw7; rw [hi, Int.toNat_natCast]
 rw [e7]
 generalize hS : B3 (D9 b j tv m P) = S at *
 simp only [D9, E8, F4, D5, D7, E1, hi]
 refine A30 (e := 84) (k := 1) (v := m.tv) (q := m.ts.length) (xs := m.ts.map (·.1)) (by (repeat constructor)) (by omega) fun tg tc hta => ?_
 refine A6K (P := P) (v := tv) (l := j.table) (by (repeat constructor)) ht fun xa xc hxa => ?_
 rw [hta]
 subst hxa
 (have zz:=trivial;repeat((first|clear zz|with_reducible first|refine A3 ?_|refine A5 fun _=>?_|refine A4 fun _=>?_);try simp(disch:=first|omega|assumption|((repeat(first|exact A1|exact uH|apply A2|apply uT));first|done|fail)|(simp;first|done|omega|fail))[hlt, g0, gg]))
 refine k7 (by (repeat constructor)) (by simp) (by simp; omega) (by simp) ?_
 have e1 : Z5 (m.ts.map (·.1)) i (Value.slice xa j.table.length xc).cells.toList = (m.ts.set i (.slice xa j.table.length xc, j.table)).map (·.1) := B8L (f := (·.1)) m.ts i (.slice xa j.table.length xc, j.table) hlt
 rw [e1]
 (have zz:=trivial;repeat((first|clear zz|with_reducible first|refine A3 ?_|refine A5 fun _=>?_|refine A4 fun _=>?_);try simp(disch:=first|omega|assumption|((repeat(first|exact A1|exact uH|apply A2|apply uT));first|done|fail)|(simp;first|done|omega|fail))[]))
 refine B4 (.slice xa j.table.length xc, { m.dz with tv := .slice (some ⟨tg, 0, none⟩) m.ts.length tc, ts := m.ts.set i (.slice xa j.table.length xc, j.table) }, P) ⟨rfl, by simp only [WoH.ws, WoH.uz, WoH.dz, List.map_set], fun t ht' => ?_, ht, .same _ _⟩ ?_
 ·rcases List.mem_or_eq_of_mem_set ht' with ht' | rfl
  ·exact h6 t ht'
  ·exact ht
 simp only [L0, E8, F4, D5, D7, E1, WoH.uz, WoH.dz, List.length_set, List.map_set, hi]
 (repeat' constructor)
def W3 (l : List EnV) (p : List J0) (key : ByteArray) (now : Int) : Int × Bool :=
 if H6 l key < 0 ∨ (atE l key).dl < now then (0, false) else ((atE l key).bk, decide (0 ≤ Y4 p (atE l key).bk))
theorem B7c (l : List EnV) (p : List J0) (key : ByteArray) (now : Int) : (W3 l p key now).2 = (N7 l p key now).2 := by
 unfold W3 N7
 by_cases c1 : H6 l key < 0 ∨ (atE l key).dl < now
 ·rw [if_pos c1, if_pos (by omega)]
 ·rw [if_neg c1]
  by_cases c2 : Y4 p (atE l key).bk < 0
  ·rw [if_pos (by omega)]; simp; omega
  ·rw [if_neg (by omega)]; simp; omega
theorem B7j (l : List EnV) (p : List J0) (key : ByteArray) (now : Int) (h : (N7 l p key now).2 = true) : (W3 l p key now).1 = (N7 l p key now).1 := by
 unfold N7 at h ⊢
 by_cases c : H6 l key < 0 ∨ (atE l key).dl < now ∨ Y4 p (atE l key).bk < 0
 ·rw [if_pos c] at h; cases h
 ·rw [if_neg c]; unfold W3; rw [if_neg (by omega)]
theorem B52 (x : WS) (i id : Int) : (B1b x.sl i id).1 = decide (0 ≤ Y4 (H8 x i) id) := by
 unfold B1b H8
 cases K7 x.sl i with
 | rdy p => rfl
 | no => rfl
 | bld => rfl
theorem B4w (x : WS) (i : Int) : A8W x.sl i = ((((H8 x i).length : Nat) : Int), B42 x i) := by
 unfold A8W H8 B42
 cases K7 x.sl i <;> rfl
theorem B4l (x : WS) (i : Int) (h : Nat) (hp : H8 x i ≠ []) : (A15 x.sl i h).1 = A8A (H8 x i) h := by
 unfold A15 H8 at *
 cases hg : K7 x.sl i with
 | rdy p => rfl
 | no => rw [hg] at hp; exact absurd rfl hp
 | bld => rw [hg] at hp; exact absurd rfl hp
theorem B4m (w : World) (b b2 b3 : Nat) (j : JW) (tv : Value) (m : WoH) (hk : j.key.size < 2 ^ 60) (hn : j.table.length ≤ 1000000) (hl8 : m.ls.length ≤ 8)
  (h2 : w.cell? ⟨b2, 0, none⟩ = some (.pointer (some ⟨b, 0, none⟩))) (h3 : w.cell? ⟨b3, 0, none⟩ = some (.pointer (some ⟨m.b, 0, none⟩)))
  (hb : bl w b = some (.cells (F4 j tv) 130 (0, 0))) (hm : WoAt w m) (hsl : SlAt w m.bs m.sv m.ls) (hv : K4 w tv j.table.length (j.table.flatMap F7)) :
  Fn PR B7 132 #[.pointer (some ⟨b2, 0, none⟩), .pointer (some ⟨b3, 0, none⟩)] w (fun u w' => u = .tuple #[.int .i64 (W3 j.table (H8 m.ws j.slot) j.key j.now).1, .bool (W3 j.table (H8 m.ws j.slot) j.key j.now).2] ∧ C3 [] w w') := by
 refine Fn.pure (A1s (TW.go (κ := false) (S := []) ?_))
 unfold d4
 have g1 : w.cell? ⟨b, 1, none⟩ = some (.string j.key) := by rw [D8 hb]; rfl
 have g7 : w.cell? ⟨b, 7, none⟩ = some (.int .i64 j.slot) := by rw [D8 hb]; rfl
 have g8 : w.cell? ⟨b, 8, none⟩ = some (.int .i64 j.now) := by rw [D8 hb]; rfl
 have g9 : w.cell? ⟨b, 9, none⟩ = some tv := by rw [D8 hb]; rfl
 have gs : w.cell? ⟨m.b, 6, none⟩ = some (.pointer (some ⟨m.bs, 0, none⟩)) := by rw [D8 hm.b]; rfl
 obtain ⟨a, c, rfl, hr⟩ := hv.form
 (have zz:=trivial;repeat((first|clear zz|with_reducible first|refine A3 ?_|refine A5 fun _=>?_|refine A4 fun _=>?_);try simp(disch:=first|omega|assumption|((repeat(first|exact A1|exact uH|apply A2|apply uT));first|done|fail)|(simp;first|done|omega|fail))[h2, h3, g1, g9]))
 refine B9 a6 (fun w' hw' => p8 w' _ j.table j.key hk hn (hv.ks hw'.ks (by simp))) ?_
 by_cases c1 : H6 j.table j.key < 0
 ·(have zz:=trivial;repeat((first|clear zz|with_reducible first|refine A3 ?_|refine A5 fun _=>?_|refine A4 fun _=>?_);try simp(disch:=first|omega|assumption|((repeat(first|exact A1|exact uH|apply A2|apply uT));first|done|fail)|(simp;first|done|omega|fail))[c1, h2, h3, g1, g9]))
  exact A9 (by simp [W3, c1])
 obtain ⟨i, hi, hlt⟩ := B5Z (l := j.table) (key := j.key) (by omega)
 have hx : j.table[i]? = some (atE j.table j.key) := by rw [atE, hi, Int.toNat_natCast]; exact getD_some noE hlt
 obtain ⟨ba, o, rfl, hrow⟩ := hr (by omega)
 have k2 := hrow.cellAt (f := F7) (k := 4) (j := 2) (fun _ => rfl) hx rfl
 have k3 := hrow.cellAt (f := F7) (k := 4) (j := 3) (fun _ => rfl) hx rfl
 have hk1 : W3 j.table (H8 m.ws j.slot) j.key j.now = if (atE j.table j.key).dl < j.now then (0, false) else ((atE j.table j.key).bk, decide (0 ≤ Y4 (H8 m.ws j.slot) (atE j.table j.key).bk)) := by simp [W3, c1]
 rw [hk1, hi]
 generalize atE j.table j.key = x at *
 have hHas := fun (w' : World) => B9l w' m.bs m.sv m.ls j.slot x.bk hl8
 rw [show m.ls.map SlH.sp = m.ws.sl from rfl, B52] at hHas
 obtain ⟨Q, hQ⟩ : ∃ Q, Q = decide (0 ≤ Y4 (H8 m.ws j.slot) x.bk) := ⟨_, rfl⟩
 rw [← hQ] at hHas ⊢
 clear hk1
 have n1 : ¬ ((i : Nat) : Int) < 0 := by omega
 by_cases c2 : x.dl < j.now
 ·(have zz:=trivial;repeat((first|clear zz|with_reducible first|refine A3 ?_|refine A5 fun _=>?_|refine A4 fun _=>?_);try simp(disch:=first|omega|assumption|((repeat(first|exact A1|exact uH|apply A2|apply uT));first|done|fail)|(simp;first|done|omega|fail))[n1, hlt, h2, h3, g1, g7, g8, g9, k3, c2]))
  exact A9 (by simp [c2])
 (have zz:=trivial;repeat((first|clear zz|with_reducible first|refine A3 ?_|refine A5 fun _=>?_|refine A4 fun _=>?_);try simp(disch:=first|omega|assumption|((repeat(first|exact A1|exact uH|apply A2|apply uT));first|done|fail)|(simp;first|done|omega|fail))[n1, hlt, h2, h3, g1, g7, g8, g9, gs, k3, k2, c2]))
 refine B9 A49 (fun w' hw' => hHas w' (hsl.ks hw'.ks)) ?_
 (have zz:=trivial;repeat((first|clear zz|with_reducible first|refine A3 ?_|refine A5 fun _=>?_|refine A4 fun _=>?_);try simp(disch:=first|omega|assumption|((repeat(first|exact A1|exact uH|apply A2|apply uT));first|done|fail)|(simp;first|done|omega|fail))[hlt, h2, h3, g1, g7, g8, g9, k3, k2, c2]))
 exact A9 (by simp [c2])
end Go.Proofs.YtjobgnabneddjaaGreat
namespace Go.Proofs.YtjobgnabneddjaaGreat
open Go
theorem C0V {κ : Bool} {S : List Nat} {w0 : World} {H : List Res} {F : Value → WP} {A : (Value → WP) → WP} (v : Value) (hF : TW κ S w0 H (F v)) (hA : ∀ J : Value → WP, TW κ S w0 H (J v) → TW κ S w0 H (A J)) : TW κ S w0 H (jn (n := 1) F A) := hA F hF
def idW (l : List EnV) (x : WS) (slot : Int) (key : ByteArray) (now : Int) : Int := if (N7 l (H8 x slot) key now).2 then (W3 l (H8 x slot) key now).1 else (A15 x.sl slot (U2 key)).1
theorem C1W {l : List EnV} {x : WS} {slot : Int} {key : ByteArray} {now : Int} (h : ¬ ((N7 l (H8 x slot) key now).2 = false ∧ H8 x slot = [])) : idW l x slot key now = A34 l (H8 x slot) key now := by
 unfold idW A34
 cases hk : (N7 l (H8 x slot) key now).2 with
 | true => simp only [if_true]; exact B7j _ _ _ _ hk
 | false =>
  simp only [Bool.false_eq_true, if_false]
  exact B4l x slot _ fun hp => h ⟨hk, hp⟩
set_option maxHeartbeats 4000000 in
theorem C1D (w : World) (b : Nat) (j : JW) (tv0 : Value) (m : WoH) (P : L9) (h : JwOk j tv0 m P) (hw : LW false (B3 (D9 b j tv0 m P)) w (D9 b j tv0 m P) w) : A1A 82 w b j tv0 m P (jw6 j m.ws) := by
 refine A3y (TW.goH (κ := false) ?_ hw)
 unfold r7
 have ht := h.tb
 have hP := h.tabs.pool
 have hkey := h.key
 have hkeys := h.keys
 have hlen := h.len
 have hslot := h.slot
 have hl8 : m.ls.length ≤ 8 := by have := h.ws.sl; simpa [WoH.ws] using this
 generalize hS : B3 (D9 b j tv0 m P) = S at *
 simp only [D9, E8, F4, D5, D7, E1]
 refine A6K (P := P) (v := tv0) (l := j.table) (by (repeat constructor)) ht fun xa xc hxa => ?_
 have hSize := fun (w' : World) => B7U w' m.bs m.sv m.ls j.slot hl8
 rw [show m.ls.map SlH.sp = m.ws.sl from rfl, B4w] at hSize
 have hPick := fun (w' : World) => B8Y w' m.bs m.sv m.ls j.slot (U2 j.key) hl8
 rw [show m.ls.map SlH.sp = m.ws.sl from rfl] at hPick
 have hid := C1W (l := j.table) (x := m.ws) (slot := j.slot) (key := j.key) (now := j.now)
 have hdef : idW j.table m.ws j.slot j.key j.now = if (N7 j.table (H8 m.ws j.slot) j.key j.now).2 then (W3 j.table (H8 m.ws j.slot) j.key j.now).1 else (A15 m.ws.sl j.slot (U2 j.key)).1 := rfl
 have hk2 := B7c j.table (H8 m.ws j.slot) j.key j.now
 have hKn := fun (w' : World) (b2 b3 : Nat) => B4m w' b b2 b3 j tv0 m hkey hlen hl8
 unfold jw6
 rw [show m.ws.c.idle = m.c.idle from rfl]
 generalize hrd : B42 m.ws j.slot = rd at *
 generalize A15 m.ws.sl j.slot (U2 j.key) = pk at *
 generalize W3 j.table (H8 m.ws j.slot) j.key j.now = kw at *
 generalize idW j.table m.ws j.slot j.key j.now = idv at *
 generalize H8 m.ws j.slot = p at *
 subst hxa
 (have zz:=trivial;repeat((first|clear zz|with_reducible first|refine A3 ?_|refine A5 fun _=>?_|refine A4 fun _=>?_);try simp(disch:=first|omega|assumption|((repeat(first|exact A1|exact uH|apply A2|apply uT));first|done|fail)|(simp;first|done|omega|fail))[]))
 rename_i b2 b3 b4
 refine B9 A4M (fun w' hw' => hSize w' (SlAt.own hw' (by (repeat constructor)) (by (repeat constructor)) (by (repeat constructor)))) ?_
 (have zz:=trivial;repeat((first|clear zz|with_reducible first|refine A3 ?_|refine A5 fun _=>?_|refine A4 fun _=>?_);try simp(disch:=first|omega|assumption|((repeat(first|exact A1|exact uH|apply A2|apply uT));first|done|fail)|(simp;first|done|omega|fail))[]))
 refine B9 A1c (fun w' hw' => hKn w' b2 b3 (hw'.cell1 (by (repeat constructor))) (hw'.cell1 (by (repeat constructor))) (hw'.pt (b := b) (by unfold F4; (repeat constructor))) ⟨hw'.pt (by unfold E1; (repeat constructor)), hw'.pt (by (repeat constructor)), U6.own (e := 3) (k := 1) (by (repeat constructor)) w' hw'⟩ (SlAt.own hw' (by (repeat constructor)) (by (repeat constructor)) (by (repeat constructor))) (A3D (ts := P) (t := (_, j.table)) hw' (by (repeat constructor)) ht)) ?_
 rw [hk2]
 clear hKn hk2 hSize
 obtain ⟨ok, hok⟩ : ∃ ok, ok = (N7 j.table p j.key j.now).2 := ⟨_, rfl⟩
 rw [← hok] at hid hdef ⊢
 rw [B2c, B2E]
 refine C0V (.int .i64 idv) ?_ ?_
 case refine_2 =>
  intro J hJ
  rw [hdef] at hJ
  clear hdef hid
  cases ok with
  | true =>
   simp only [if_true] at hJ
   (have zz:=trivial;repeat((first|clear zz|with_reducible first|refine A3 ?_|refine A5 fun _=>?_|refine A4 fun _=>?_);try simp(disch:=first|omega|assumption|((repeat(first|exact A1|exact uH|apply A2|apply uT));first|done|fail)|(simp;first|done|omega|fail))[]))
   exact hJ
  | false =>
   simp only [Bool.false_eq_true, if_false] at hJ
   (have zz:=trivial;repeat((first|clear zz|with_reducible first|refine A3 ?_|refine A5 fun _=>?_|refine A4 fun _=>?_);try simp(disch:=first|omega|assumption|((repeat(first|exact A1|exact uH|apply A2|apply uT));first|done|fail)|(simp;first|done|omega|fail))[]))
   refine B9 A2w (fun w' _ => A5k w' j.key hkey) ?_
   (have zz:=trivial;repeat((first|clear zz|with_reducible first|refine A3 ?_|refine A5 fun _=>?_|refine A4 fun _=>?_);try simp(disch:=first|omega|assumption|((repeat(first|exact A1|exact uH|apply A2|apply uT));first|done|fail)|(simp;first|done|omega|fail))[]))
   refine B9 A37 (fun w' hw' => hPick w' (SlAt.own hw' (by (repeat constructor)) (by (repeat constructor)) (by (repeat constructor)))) ?_
   (have zz:=trivial;repeat((first|clear zz|with_reducible first|refine A3 ?_|refine A5 fun _=>?_|refine A4 fun _=>?_);try simp(disch:=first|omega|assumption|((repeat(first|exact A1|exact uH|apply A2|apply uT));first|done|fail)|(simp;first|done|omega|fail))[]))
   exact hJ
 clear hPick hdef
 have htold : ∀ (r : JW), K8 ((r, m.ws, false, false, decide (0 ≤ j.slot) && !rd) : JwR).2.2 = .agg #[.bool false, .bool false, .bool (decide (0 ≤ j.slot) && !rd)] := fun _ => rfl
 by_cases hne : ok = false ∧ p = []
 ·have hd : m6 j.table p j.key j.closing j.now m.c.idle = (j.table, ⟨11, 0, false, 0⟩, false) := if_pos (by rw [← hok]; exact hne)
  rw [hd]
  simp only
  obtain ⟨rfl, rfl⟩ := hne
  by_cases hs0 : 0 ≤ j.slot
  ·(have zz:=trivial;repeat((first|clear zz|with_reducible first|refine A3 ?_|refine A5 fun _=>?_|refine A4 fun _=>?_);try simp(disch:=first|omega|assumption|((repeat(first|exact A1|exact uH|apply A2|apply uT));first|done|fail)|(simp;first|done|omega|fail))[hs0]))
   refine B4 (.slice xa j.table.length xc, m.dz, P) ⟨by simp [K8, hs0], H9 rfl rfl hP ht⟩ ?_
   simp only [L0, E8, F4, D5, D7, E1, WoH.uz, WoH.dz]
   (repeat' constructor)
  ·(have zz:=trivial;repeat((first|clear zz|with_reducible first|refine A3 ?_|refine A5 fun _=>?_|refine A4 fun _=>?_);try simp(disch:=first|omega|assumption|((repeat(first|exact A1|exact uH|apply A2|apply uT));first|done|fail)|(simp;first|done|omega|fail))[hs0]))
   refine B4 (.slice xa j.table.length xc, m.dz, P) ⟨by simp [K8, hs0], H9 rfl rfl hP ht⟩ ?_
   simp only [L0, E8, F4, D5, D7, E1, WoH.uz, WoH.dz]
   (repeat' constructor)
 have hd : m6 j.table p j.key j.closing j.now m.c.idle = if j.closing then (S5 j.table j.key, ⟨0, idv, false, 0⟩, (V9 j.table j.key).isSome)
  else match N5 j.table ⟨1, j.key, idv, IntKind.i64.wrap (j.now + m.c.idle)⟩ with
   | none => (j.table, ⟨12, 0, false, 0⟩, false)
   | some u => (u, ⟨0, idv, !ok, 0⟩, true) := by
  have hd0 : m6 j.table p j.key j.closing j.now m.c.idle = if j.closing then (S5 j.table j.key, ⟨0, A34 j.table p j.key j.now, false, 0⟩, (V9 j.table j.key).isSome)
   else match N5 j.table (B7V j.table p j.key j.now m.c.idle) with
    | none => (j.table, ⟨12, 0, false, 0⟩, false)
    | some u => (u, ⟨0, A34 j.table p j.key j.now, !(N7 j.table p j.key j.now).2, 0⟩, true) := if_neg (by rw [← hok]; exact hne)
  rw [hd0, B7V, ← hid hne, ← hok]
 rw [hd]
 have hgo : ok = true ∨ ¬ (p.length : Int) = 0 := by
  cases ok with
  | true => exact Or.inl rfl
  | false => right; intro h0; exact hne ⟨rfl, List.length_eq_zero_iff.1 (by omega)⟩
 have hgo2 : ok = true ∨ ¬ p = [] := by
  cases ok with
  | true => exact Or.inl rfl
  | false => right; intro h0; exact hne ⟨rfl, h0⟩
 clear hd hid hok hne
 obtain ⟨bad, hbad⟩ : ∃ bad, bad = (decide (0 ≤ j.slot) && !rd) := ⟨_, rfl⟩
 rw [← hbad]
 have hstep : ∀ (P0 : Prop), (0 ≤ j.slot → bad = !rd → P0) → (¬ 0 ≤ j.slot → bad = false → P0) → P0 := fun P0 f g => by
  by_cases hs0 : 0 ≤ j.slot
  ·exact f hs0 (by rw [hbad, decide_eq_true hs0]; rfl)
  ·exact g hs0 (by rw [hbad, decide_eq_false hs0]; rfl)
 cases hcl : j.closing with
 | true =>
  simp only [if_true]
  refine hstep _ (fun hs0 hb => ?_) (fun hs0 hb => ?_)
  all_goals
   rw [hb]
   cases ok with
   | true =>
    (have zz:=trivial;repeat((first|clear zz|with_reducible first|refine A3 ?_|refine A5 fun _=>?_|refine A4 fun _=>?_);try simp(disch:=first|omega|assumption|((repeat(first|exact A1|exact uH|apply A2|apply uT));first|done|fail)|(simp;first|done|omega|fail))[hs0, hcl]))
    refine K3 A1G (fun w' hw' => A3n w' _ j.table j.key hkey hkeys hlen (A3D (ts := P) (t := (_, j.table)) hw' (by (repeat constructor)) ht)) ?_
    rintro r _ rfl
    refine A5y (e := 218) (k := 4) (v := r) (q := (S5 j.table j.key).length) (xs := (S5 j.table j.key).flatMap F7) (by (repeat constructor)) fun hr1 hr2 hr3 => ?_
    have hr4 : r.cells.toList = [r] := by rw [hr1]
    cases h2 : (V9 j.table j.key).isSome with
    | true =>
     (have zz:=trivial;repeat((first|clear zz|with_reducible first|refine A3 ?_|refine A5 fun _=>?_|refine A4 fun _=>?_);try simp(disch:=first|omega|assumption|((repeat(first|exact A1|exact uH|apply A2|apply uT));first|done|fail)|(simp;first|done|omega|fail))[hs0, hcl, hr1, hr2, hr3, hr4]))
     refine V6 (r := r) (l := S5 j.table j.key) (ts := P) (by (repeat' constructor)) ?_
     refine B4 (r, m.dz, P ++ [(r, S5 j.table j.key)]) ⟨by simp [K8], rfl, hP.left _, List.mem_append_right _ (List.mem_singleton.2 rfl), .push _ _ _⟩ ?_
     simp only [L0, E8, F4, D5, D7, E1, WoH.uz, WoH.dz]
     (repeat' constructor)
    | false =>
     have e : S5 j.table j.key = j.table := by
      unfold S5
      cases hd : V9 j.table j.key with
      | none => rfl
      | some u => rw [hd] at h2; cases h2
     rw [e]
     (have zz:=trivial;repeat((first|clear zz|with_reducible first|refine A3 ?_|refine A5 fun _=>?_|refine A4 fun _=>?_);try simp(disch:=first|omega|assumption|((repeat(first|exact A1|exact uH|apply A2|apply uT));first|done|fail)|(simp;first|done|omega|fail))[hs0, hcl, hr1, hr2, hr3, hr4]))
     refine B4 (.slice xa j.table.length xc, m.dz, P) ⟨by simp [K8], H9 rfl rfl hP ht⟩ ?_
     simp only [L0, E8, F4, D5, D7, E1, WoH.uz, WoH.dz]
     (repeat' constructor)
   | false =>
    have hp1 : ¬ (p.length : Int) = 0 := by rcases hgo with g | g; cases g; exact g
    have hp2 : ¬ p = [] := by rcases hgo2 with g | g; cases g; exact g
    (have zz:=trivial;repeat((first|clear zz|with_reducible first|refine A3 ?_|refine A5 fun _=>?_|refine A4 fun _=>?_);try simp(disch:=first|omega|assumption|((repeat(first|exact A1|exact uH|apply A2|apply uT));first|done|fail)|(simp;first|done|omega|fail))[hs0, hcl, hp1, hp2]))
    refine K3 A1G (fun w' hw' => A3n w' _ j.table j.key hkey hkeys hlen (A3D (ts := P) (t := (_, j.table)) hw' (by (repeat constructor)) ht)) ?_
    rintro r _ rfl
    refine A5y (e := 218) (k := 4) (v := r) (q := (S5 j.table j.key).length) (xs := (S5 j.table j.key).flatMap F7) (by (repeat constructor)) fun hr1 hr2 hr3 => ?_
    have hr4 : r.cells.toList = [r] := by rw [hr1]
    cases h2 : (V9 j.table j.key).isSome with
    | true =>
     (have zz:=trivial;repeat((first|clear zz|with_reducible first|refine A3 ?_|refine A5 fun _=>?_|refine A4 fun _=>?_);try simp(disch:=first|omega|assumption|((repeat(first|exact A1|exact uH|apply A2|apply uT));first|done|fail)|(simp;first|done|omega|fail))[hs0, hcl, hp1, hp2, hr1, hr2, hr3, hr4]))
     refine V6 (r := r) (l := S5 j.table j.key) (ts := P) (by (repeat' constructor)) ?_
     refine B4 (r, m.dz, P ++ [(r, S5 j.table j.key)]) ⟨by simp [K8], rfl, hP.left _, List.mem_append_right _ (List.mem_singleton.2 rfl), .push _ _ _⟩ ?_
     simp only [L0, E8, F4, D5, D7, E1, WoH.uz, WoH.dz]
     (repeat' constructor)
    | false =>
     have e : S5 j.table j.key = j.table := by
      unfold S5
      cases hd : V9 j.table j.key with
      | none => rfl
      | some u => rw [hd] at h2; cases h2
     rw [e]
     (have zz:=trivial;repeat((first|clear zz|with_reducible first|refine A3 ?_|refine A5 fun _=>?_|refine A4 fun _=>?_);try simp(disch:=first|omega|assumption|((repeat(first|exact A1|exact uH|apply A2|apply uT));first|done|fail)|(simp;first|done|omega|fail))[hs0, hcl, hp1, hp2, hr1, hr2, hr3, hr4]))
     refine B4 (.slice xa j.table.length xc, m.dz, P) ⟨by simp [K8], H9 rfl rfl hP ht⟩ ?_
     simp only [L0, E8, F4, D5, D7, E1, WoH.uz, WoH.dz]
     (repeat' constructor)
 | false =>
  simp only [Bool.false_eq_true, if_false]
  refine hstep _ (fun hs0 hb => ?_) (fun hs0 hb => ?_)
  all_goals
   rw [hb]
   cases ok with
   | true =>
    (have zz:=trivial;repeat((first|clear zz|with_reducible first|refine A3 ?_|refine A5 fun _=>?_|refine A4 fun _=>?_);try simp(disch:=first|omega|assumption|((repeat(first|exact A1|exact uH|apply A2|apply uT));first|done|fail)|(simp;first|done|omega|fail))[hs0, hcl]))
    refine K3 A4u (fun w' hw' => A62 w' _ j.table j.key idv (IntKind.i64.wrap (j.now + m.c.idle)) hkey hlen (A3D (ts := P) (t := (_, j.table)) hw' (by (repeat constructor)) ht)) ?_
    rintro r _ rfl
    cases h2 : N5 j.table ⟨1, j.key, idv, IntKind.i64.wrap (j.now + m.c.idle)⟩ with
    | none =>
     simp only [Option.isSome_none, Bool.false_eq_true, if_false]
     (have zz:=trivial;repeat((first|clear zz|with_reducible first|refine A3 ?_|refine A5 fun _=>?_|refine A4 fun _=>?_);try simp(disch:=first|omega|assumption|((repeat(first|exact A1|exact uH|apply A2|apply uT));first|done|fail)|(simp;first|done|omega|fail))[hs0, hcl]))
     refine B4 (.slice xa j.table.length xc, m.dz, P) ⟨by simp [K8], H9 rfl rfl hP ht⟩ ?_
     simp only [L0, E8, F4, D5, D7, E1, WoH.uz, WoH.dz]
     (repeat' constructor)
    | some u =>
     simp only [Option.isSome_some, if_true, Option.getD_some]
     refine A5y (e := 218) (k := 4) (v := r) (q := u.length) (xs := u.flatMap F7) (by (repeat constructor)) fun hr1 hr2 hr3 => ?_
     have hr4 : r.cells.toList = [r] := by rw [hr1]
     (have zz:=trivial;repeat((first|clear zz|with_reducible first|refine A3 ?_|refine A5 fun _=>?_|refine A4 fun _=>?_);try simp(disch:=first|omega|assumption|((repeat(first|exact A1|exact uH|apply A2|apply uT));first|done|fail)|(simp;first|done|omega|fail))[hs0, hcl, hr1, hr2, hr3, hr4]))
     refine V6 (r := r) (l := u) (ts := P) (by (repeat' constructor)) ?_
     refine B4 (r, m.dz, P ++ [(r, u)]) ⟨by simp [K8], rfl, hP.left _, List.mem_append_right _ (List.mem_singleton.2 rfl), .push _ _ _⟩ ?_
     simp only [L0, E8, F4, D5, D7, E1, WoH.uz, WoH.dz]
     (repeat' constructor)
   | false =>
    have hp1 : ¬ (p.length : Int) = 0 := by rcases hgo with g | g; cases g; exact g
    have hp2 : ¬ p = [] := by rcases hgo2 with g | g; cases g; exact g
    (have zz:=trivial;repeat((first|clear zz|with_reducible first|refine A3 ?_|refine A5 fun _=>?_|refine A4 fun _=>?_);try simp(disch:=first|omega|assumption|((repeat(first|exact A1|exact uH|apply A2|apply uT));first|done|fail)|(simp;first|done|omega|fail))[hs0, hcl, hp1, hp2]))
    refine K3 A4u (fun w' hw' => A62 w' _ j.table j.key idv (IntKind.i64.wrap (j.now + m.c.idle)) hkey hlen (A3D (ts := P) (t := (_, j.table)) hw' (by (repeat constructor)) ht)) ?_
    rintro r _ rfl
    cases h2 : N5 j.table ⟨1, j.key, idv, IntKind.i64.wrap (j.now + m.c.idle)⟩ with
    | none =>
     simp only [Option.isSome_none, Bool.false_eq_true, if_false]
     (have zz:=trivial;repeat((first|clear zz|with_reducible first|refine A3 ?_|refine A5 fun _=>?_|refine A4 fun _=>?_);try simp(disch:=first|omega|assumption|((repeat(first|exact A1|exact uH|apply A2|apply uT));first|done|fail)|(simp;first|done|omega|fail))[hs0, hcl, hp1, hp2]))
     refine B4 (.slice xa j.table.length xc, m.dz, P) ⟨by simp [K8], H9 rfl rfl hP ht⟩ ?_
     simp only [L0, E8, F4, D5, D7, E1, WoH.uz, WoH.dz]
     (repeat' constructor)
    | some u =>
     simp only [Option.isSome_some, if_true, Option.getD_some]
     refine A5y (e := 218) (k := 4) (v := r) (q := u.length) (xs := u.flatMap F7) (by (repeat constructor)) fun hr1 hr2 hr3 => ?_
     have hr4 : r.cells.toList = [r] := by rw [hr1]
     (have zz:=trivial;repeat((first|clear zz|with_reducible first|refine A3 ?_|refine A5 fun _=>?_|refine A4 fun _=>?_);try simp(disch:=first|omega|assumption|((repeat(first|exact A1|exact uH|apply A2|apply uT));first|done|fail)|(simp;first|done|omega|fail))[hs0, hcl, hp1, hp2, hr1, hr2, hr3, hr4]))
     refine V6 (r := r) (l := u) (ts := P) (by (repeat' constructor)) ?_
     refine B4 (r, m.dz, P ++ [(r, u)]) ⟨by simp [K8], rfl, hP.left _, List.mem_append_right _ (List.mem_singleton.2 rfl), .push _ _ _⟩ ?_
     simp only [L0, E8, F4, D5, D7, E1, WoH.uz, WoH.dz]
     (repeat' constructor)
end Go.Proofs.YtjobgnabneddjaaGreat
namespace Go.Proofs.YtjobgnabneddjaaGreat
open Go
def A0j : Array Value := #[.func (.func 76) #[] #[], .func (.func 77) #[] #[], .func (.func 78) #[] #[], .func (.func 79) #[] #[], .func (.func 80) #[] #[], .func (.func 81) #[] #[], .func (.func 82) #[] #[], .func (.func 83) #[] #[], .func (.func 84) #[] #[], .func (.func 85) #[] #[]]
theorem Y1 (K : Value → WP) : A0 PR (Instr.build 144 #[(0, .func (.func 76) #[] #[]), (1, .func (.func 77) #[] #[]), (2, .func (.func 78) #[] #[]), (3, .func (.func 79) #[] #[]), (4, .func (.func 80) #[] #[]), (5, .func (.func 81) #[] #[]), (6, .func (.func 82) #[] #[]), (7, .func (.func 83) #[] #[]), (8, .func (.func 84) #[] #[]), (9, .func (.func 85) #[] #[])]) K = K (.agg A0j) := E2 (fun w => by unfold A0j; kernel_rfl) K
theorem JwOk.up {j : JW} {tv : Value} {m : WoH} {P : L9} (h : JwOk j tv m P) (st : Int) : JwOk { j with st := st } tv m P := ⟨h.ws, h.tabs, h.tb, h.shn, h.text, h.key, h.shard, h.keys, h.len, h.slot, h.ep, h.cur⟩
theorem B6D {w' : World} {κ : Bool} {S : List Nat} {w0 : World} {H : List Res} {b : Nat} {j : JW} {tv : Value} {m : WoH} (hw : LW κ S w0 H w') (h1 : E8 b j tv ∈ H) (h2 : ∀ r ∈ D5 m, r ∈ H) :
  Fn PR B7 23 #[.pointer (some ⟨b, 0, none⟩), .pointer (some ⟨m.b, 0, none⟩)] w' (fun u w'' => u = .bool (j.ready m.ws) ∧ C3 [] w' w'') := B4v w' b j tv m (hw.pt h1) (WoAt.own hw h2)
set_option maxHeartbeats 4000000 in
theorem B6T (w : World) (b : Nat) (j : JW) (tv : Value) (m : WoH) (P : L9) (h : JwOk j tv m P) (hst : 0 ≤ j.st ∧ j.st ≤ 10) (hw : LW false (B3 (D9 b j tv m P)) w (D9 b j tv m P) w) : A1A 20 w b j tv m P (j.step m.ws) := by
 refine A5z (TW.goH (κ := false) ?_ hw)
 unfold A0M
 have hshn : m.c.sh ≤ 1000 := by have h1 := h.shn; have h2 := h.tabs.few; omega
 generalize hS : B3 (D9 b j tv m P) = S at *
 have hR := fun (w' : World) (H : List Res) (hw' : LW false S w H w') (h1 : E8 b j tv ∈ H) (h2 : ∀ r ∈ D5 m, r ∈ H) => B6D hw' h1 h2
 unfold JW.step
 cases hr : j.ready m.ws with
 | false =>
  rw [hr] at hR
  simp only [Bool.false_eq_true, if_false]
  (have zz:=trivial;repeat((first|clear zz|with_reducible first|refine A3 ?_|refine A5 fun _=>?_|refine A4 fun _=>?_);try simp(disch:=first|omega|assumption|((repeat(first|exact A1|exact uH|apply A2|apply uT));first|done|fail)|(simp;first|done|omega|fail))[]))
  rename_i bx
  refine B9 F3 (fun w' hw' => hR w' _ hw' (by unfold D9; (repeat constructor)) (fun r hr => by unfold D9; exact List.mem_cons_of_mem _ (List.mem_cons_of_mem _ (List.mem_cons_of_mem _ hr)))) ?_
  (have zz:=trivial;repeat((first|clear zz|with_reducible first|refine A3 ?_|refine A5 fun _=>?_|refine A4 fun _=>?_);try simp(disch:=first|omega|assumption|((repeat(first|exact A1|exact uH|apply A2|apply uT));first|done|fail)|(simp;first|done|omega|fail))[]))
  refine B4 (tv, m.dz, P) ⟨rfl, H9 rfl rfl h.tabs.pool h.tb⟩ ?_
  simp only [L0, D9, D5, WoH.uz, WoH.dz]
  (repeat' constructor)
 | true =>
  rw [hr] at hR
  simp only [if_true]
  have hlt : j.st < 10 := by
   unfold JW.ready at hr
   simp only [Bool.and_eq_true, decide_eq_true_eq] at hr
   exact hr.1
  obtain ⟨k, hk⟩ : ∃ k : Nat, j.st = k := ⟨j.st.toNat, by omega⟩
  rw [hk, Int.toNat_natCast]
  clear hr
  have hcase : k = 0 ∨ k = 1 ∨ k = 2 ∨ k = 3 ∨ k = 4 ∨ k = 5 ∨ k = 6 ∨ k = 7 ∨ k = 8 ∨ k = 9 := by omega
  (have zz:=trivial;repeat((first|clear zz|with_reducible first|refine A3 ?_|refine A5 fun _=>?_|refine A4 fun _=>?_);try simp(disch:=first|omega|assumption|((repeat(first|exact A1|exact uH|apply A2|apply uT));first|done|fail)|(simp;first|done|omega|fail))[]))
  rename_i bx
  refine B9 F3 (fun w' hw' => hR w' _ hw' (by unfold D9; (repeat constructor)) (fun r hr => by unfold D9; exact List.mem_cons_of_mem _ (List.mem_cons_of_mem _ (List.mem_cons_of_mem _ hr)))) ?_
  clear hR
  simp only [D9, E8, F4, D5, D7, E1, hk]
  rcases hcase with rfl | rfl | rfl | rfl | rfl | rfl | rfl | rfl | rfl | rfl
  ·rw [show F8 0 = jw0 from rfl, show (((0 : Nat) : Int) + 1) = 1 from rfl, show ((0 : Nat) : Int) = 0 from rfl]
   rw [Y1]
   unfold A0j
   (have zz:=trivial;repeat((first|clear zz|with_reducible first|refine A3 ?_|refine A5 fun _=>?_|refine A4 fun _=>?_);try simp(disch:=first|omega|assumption|((repeat(first|exact A1|exact uH|apply A2|apply uT));first|done|fail)|(simp;first|done|omega|fail))[]))
   refine C6 (Hc := D9 b { j with st := 1 } tv m P) A4T (fun w' _ hs => C0m w' b { j with st := 1 } tv m P (h.up _) hshn hs) (by simp only [D9, E8, F4, D5, D7, E1]; (repeat' constructor)) ?_
   rintro y v ⟨rfl, hy⟩
   generalize jw0 { j with st := 1 } m.ws = r at *
   obtain ⟨r1, r2, t1, t2, t3⟩ := r
   simp only [L0, List.cons_append, List.nil_append, K8, D5]
   (have zz:=trivial;repeat((first|clear zz|with_reducible first|refine A3 ?_|refine A5 fun _=>?_|refine A4 fun _=>?_);try simp(disch:=first|omega|assumption|((repeat(first|exact A1|exact uH|apply A2|apply uT));first|done|fail)|(simp;first|done|omega|fail))[]))
   refine B4 y ⟨rfl, hy⟩ ?_
   simp only [L0, D5]
   (repeat' constructor)
  ·rw [show F8 1 = jw1 from rfl, show (((1 : Nat) : Int) + 1) = 2 from rfl, show ((1 : Nat) : Int) = 1 from rfl]
   rw [Y1]
   unfold A0j
   (have zz:=trivial;repeat((first|clear zz|with_reducible first|refine A3 ?_|refine A5 fun _=>?_|refine A4 fun _=>?_);try simp(disch:=first|omega|assumption|((repeat(first|exact A1|exact uH|apply A2|apply uT));first|done|fail)|(simp;first|done|omega|fail))[]))
   refine C6 (Hc := D9 b { j with st := 2 } tv m P) A5d (fun w' _ hs => C1g w' b { j with st := 2 } tv m P (h.up _) hs) (by simp only [D9, E8, F4, D5, D7, E1]; (repeat' constructor)) ?_
   rintro y v ⟨rfl, hy⟩
   generalize jw1 { j with st := 2 } m.ws = r at *
   obtain ⟨r1, r2, t1, t2, t3⟩ := r
   simp only [L0, List.cons_append, List.nil_append, K8, D5]
   (have zz:=trivial;repeat((first|clear zz|with_reducible first|refine A3 ?_|refine A5 fun _=>?_|refine A4 fun _=>?_);try simp(disch:=first|omega|assumption|((repeat(first|exact A1|exact uH|apply A2|apply uT));first|done|fail)|(simp;first|done|omega|fail))[]))
   refine B4 y ⟨rfl, hy⟩ ?_
   simp only [L0, D5]
   (repeat' constructor)
  ·rw [show F8 2 = jw2 from rfl, show (((2 : Nat) : Int) + 1) = 3 from rfl, show ((2 : Nat) : Int) = 2 from rfl]
   rw [Y1]
   unfold A0j
   (have zz:=trivial;repeat((first|clear zz|with_reducible first|refine A3 ?_|refine A5 fun _=>?_|refine A4 fun _=>?_);try simp(disch:=first|omega|assumption|((repeat(first|exact A1|exact uH|apply A2|apply uT));first|done|fail)|(simp;first|done|omega|fail))[]))
   refine C6 (Hc := D9 b { j with st := 3 } tv m P) A4Y (fun w' _ hs => C0s w' b { j with st := 3 } tv m P (h.up _) hs) (by simp only [D9, E8, F4, D5, D7, E1]; (repeat' constructor)) ?_
   rintro y v ⟨rfl, hy⟩
   generalize jw2 { j with st := 3 } m.ws = r at *
   obtain ⟨r1, r2, t1, t2, t3⟩ := r
   simp only [L0, List.cons_append, List.nil_append, K8, D5]
   (have zz:=trivial;repeat((first|clear zz|with_reducible first|refine A3 ?_|refine A5 fun _=>?_|refine A4 fun _=>?_);try simp(disch:=first|omega|assumption|((repeat(first|exact A1|exact uH|apply A2|apply uT));first|done|fail)|(simp;first|done|omega|fail))[]))
   refine B4 y ⟨rfl, hy⟩ ?_
   simp only [L0, D5]
   (repeat' constructor)
  ·rw [show F8 3 = jw3 from rfl, show (((3 : Nat) : Int) + 1) = 4 from rfl, show ((3 : Nat) : Int) = 3 from rfl]
   rw [Y1]
   unfold A0j
   (have zz:=trivial;repeat((first|clear zz|with_reducible first|refine A3 ?_|refine A5 fun _=>?_|refine A4 fun _=>?_);try simp(disch:=first|omega|assumption|((repeat(first|exact A1|exact uH|apply A2|apply uT));first|done|fail)|(simp;first|done|omega|fail))[]))
   refine C6 (Hc := D9 b { j with st := 4 } tv m P) A5B (fun w' _ hs => C0Y w' b { j with st := 4 } tv m P (h.up _) hs) (by simp only [D9, E8, F4, D5, D7, E1]; (repeat' constructor)) ?_
   rintro y v ⟨rfl, hy⟩
   generalize jw3 { j with st := 4 } m.ws = r at *
   obtain ⟨r1, r2, t1, t2, t3⟩ := r
   simp only [L0, List.cons_append, List.nil_append, K8, D5]
   (have zz:=trivial;repeat((first|clear zz|with_reducible first|refine A3 ?_|refine A5 fun _=>?_|refine A4 fun _=>?_);try simp(disch:=first|omega|assumption|((repeat(first|exact A1|exact uH|apply A2|apply uT));first|done|fail)|(simp;first|done|omega|fail))[]))
   refine B4 y ⟨rfl, hy⟩ ?_
   simp only [L0, D5]
   (repeat' constructor)
  ·rw [show F8 4 = jw4 from rfl, show (((4 : Nat) : Int) + 1) = 5 from rfl, show ((4 : Nat) : Int) = 4 from rfl]
   rw [Y1]
   unfold A0j
   (have zz:=trivial;repeat((first|clear zz|with_reducible first|refine A3 ?_|refine A5 fun _=>?_|refine A4 fun _=>?_);try simp(disch:=first|omega|assumption|((repeat(first|exact A1|exact uH|apply A2|apply uT));first|done|fail)|(simp;first|done|omega|fail))[]))
   refine C6 (Hc := D9 b { j with st := 5 } tv m P) A2Z (fun w' _ hs => C0g w' b { j with st := 5 } tv m P (h.up _) hs) (by simp only [D9, E8, F4, D5, D7, E1]; (repeat' constructor)) ?_
   rintro y v ⟨rfl, hy⟩
   generalize jw4 { j with st := 5 } m.ws = r at *
   obtain ⟨r1, r2, t1, t2, t3⟩ := r
   simp only [L0, List.cons_append, List.nil_append, K8, D5]
   (have zz:=trivial;repeat((first|clear zz|with_reducible first|refine A3 ?_|refine A5 fun _=>?_|refine A4 fun _=>?_);try simp(disch:=first|omega|assumption|((repeat(first|exact A1|exact uH|apply A2|apply uT));first|done|fail)|(simp;first|done|omega|fail))[]))
   refine B4 y ⟨rfl, hy⟩ ?_
   simp only [L0, D5]
   (repeat' constructor)
  ·rw [show F8 5 = jw5 from rfl, show (((5 : Nat) : Int) + 1) = 6 from rfl, show ((5 : Nat) : Int) = 5 from rfl]
   rw [Y1]
   unfold A0j
   (have zz:=trivial;repeat((first|clear zz|with_reducible first|refine A3 ?_|refine A5 fun _=>?_|refine A4 fun _=>?_);try simp(disch:=first|omega|assumption|((repeat(first|exact A1|exact uH|apply A2|apply uT));first|done|fail)|(simp;first|done|omega|fail))[]))
   refine C6 (Hc := D9 b { j with st := 6 } tv m P) A5L (fun w' _ hs => C1c w' b { j with st := 6 } tv m P (h.up _) hs) (by simp only [D9, E8, F4, D5, D7, E1]; (repeat' constructor)) ?_
   rintro y v ⟨rfl, hy⟩
   generalize jw5 { j with st := 6 } m.ws = r at *
   obtain ⟨r1, r2, t1, t2, t3⟩ := r
   simp only [L0, List.cons_append, List.nil_append, K8, D5]
   (have zz:=trivial;repeat((first|clear zz|with_reducible first|refine A3 ?_|refine A5 fun _=>?_|refine A4 fun _=>?_);try simp(disch:=first|omega|assumption|((repeat(first|exact A1|exact uH|apply A2|apply uT));first|done|fail)|(simp;first|done|omega|fail))[]))
   refine B4 y ⟨rfl, hy⟩ ?_
   simp only [L0, D5]
   (repeat' constructor)
  ·rw [show F8 6 = jw6 from rfl, show (((6 : Nat) : Int) + 1) = 7 from rfl, show ((6 : Nat) : Int) = 6 from rfl]
   rw [Y1]
   unfold A0j
   (have zz:=trivial;repeat((first|clear zz|with_reducible first|refine A3 ?_|refine A5 fun _=>?_|refine A4 fun _=>?_);try simp(disch:=first|omega|assumption|((repeat(first|exact A1|exact uH|apply A2|apply uT));first|done|fail)|(simp;first|done|omega|fail))[]))
   refine C6 (Hc := D9 b { j with st := 7 } tv m P) A3Y (fun w' _ hs => C1D w' b { j with st := 7 } tv m P (h.up _) hs) (by simp only [D9, E8, F4, D5, D7, E1]; (repeat' constructor)) ?_
   rintro y v ⟨rfl, hy⟩
   generalize jw6 { j with st := 7 } m.ws = r at *
   obtain ⟨r1, r2, t1, t2, t3⟩ := r
   simp only [L0, List.cons_append, List.nil_append, K8, D5]
   (have zz:=trivial;repeat((first|clear zz|with_reducible first|refine A3 ?_|refine A5 fun _=>?_|refine A4 fun _=>?_);try simp(disch:=first|omega|assumption|((repeat(first|exact A1|exact uH|apply A2|apply uT));first|done|fail)|(simp;first|done|omega|fail))[]))
   refine B4 y ⟨rfl, hy⟩ ?_
   simp only [L0, D5]
   (repeat' constructor)
  ·rw [show F8 7 = jw7 from rfl, show (((7 : Nat) : Int) + 1) = 8 from rfl, show ((7 : Nat) : Int) = 7 from rfl]
   rw [Y1]
   unfold A0j
   (have zz:=trivial;repeat((first|clear zz|with_reducible first|refine A3 ?_|refine A5 fun _=>?_|refine A4 fun _=>?_);try simp(disch:=first|omega|assumption|((repeat(first|exact A1|exact uH|apply A2|apply uT));first|done|fail)|(simp;first|done|omega|fail))[]))
   refine C6 (Hc := D9 b { j with st := 8 } tv m P) A4U (fun w' _ hs => C1N w' b { j with st := 8 } tv m P (h.up _) hs) (by simp only [D9, E8, F4, D5, D7, E1]; (repeat' constructor)) ?_
   rintro y v ⟨rfl, hy⟩
   generalize jw7 { j with st := 8 } m.ws = r at *
   obtain ⟨r1, r2, t1, t2, t3⟩ := r
   simp only [L0, List.cons_append, List.nil_append, K8, D5]
   (have zz:=trivial;repeat((first|clear zz|with_reducible first|refine A3 ?_|refine A5 fun _=>?_|refine A4 fun _=>?_);try simp(disch:=first|omega|assumption|((repeat(first|exact A1|exact uH|apply A2|apply uT));first|done|fail)|(simp;first|done|omega|fail))[]))
   refine B4 y ⟨rfl, hy⟩ ?_
   simp only [L0, D5]
   (repeat' constructor)
  ·rw [show F8 8 = jw8 from rfl, show (((8 : Nat) : Int) + 1) = 9 from rfl, show ((8 : Nat) : Int) = 8 from rfl]
   rw [Y1]
   unfold A0j
   (have zz:=trivial;repeat((first|clear zz|with_reducible first|refine A3 ?_|refine A5 fun _=>?_|refine A4 fun _=>?_);try simp(disch:=first|omega|assumption|((repeat(first|exact A1|exact uH|apply A2|apply uT));first|done|fail)|(simp;first|done|omega|fail))[]))
   refine C6 (Hc := D9 b { j with st := 9 } tv m P) A3F (fun w' _ hs => C03 w' b { j with st := 9 } tv m P (h.up _) hs) (by simp only [D9, E8, F4, D5, D7, E1]; (repeat' constructor)) ?_
   rintro y v ⟨rfl, hy⟩
   generalize jw8 { j with st := 9 } m.ws = r at *
   obtain ⟨r1, r2, t1, t2, t3⟩ := r
   simp only [L0, List.cons_append, List.nil_append, K8, D5]
   (have zz:=trivial;repeat((first|clear zz|with_reducible first|refine A3 ?_|refine A5 fun _=>?_|refine A4 fun _=>?_);try simp(disch:=first|omega|assumption|((repeat(first|exact A1|exact uH|apply A2|apply uT));first|done|fail)|(simp;first|done|omega|fail))[]))
   refine B4 y ⟨rfl, hy⟩ ?_
   simp only [L0, D5]
   (repeat' constructor)
  ·rw [show F8 9 = jw9 from rfl, show (((9 : Nat) : Int) + 1) = 10 from rfl, show ((9 : Nat) : Int) = 9 from rfl]
   rw [Y1]
   unfold A0j
   (have zz:=trivial;repeat((first|clear zz|with_reducible first|refine A3 ?_|refine A5 fun _=>?_|refine A4 fun _=>?_);try simp(disch:=first|omega|assumption|((repeat(first|exact A1|exact uH|apply A2|apply uT));first|done|fail)|(simp;first|done|omega|fail))[]))
   refine C6 (Hc := D9 b { j with st := 10 } tv m P) A4S (fun w' _ hs => C0u w' b { j with st := 10 } tv m P (h.up _) hs) (by simp only [D9, E8, F4, D5, D7, E1]; (repeat' constructor)) ?_
   rintro y v ⟨rfl, hy⟩
   generalize jw9 { j with st := 10 } m.ws = r at *
   obtain ⟨r1, r2, t1, t2, t3⟩ := r
   simp only [L0, List.cons_append, List.nil_append, K8, D5]
   (have zz:=trivial;repeat((first|clear zz|with_reducible first|refine A3 ?_|refine A5 fun _=>?_|refine A4 fun _=>?_);try simp(disch:=first|omega|assumption|((repeat(first|exact A1|exact uH|apply A2|apply uT));first|done|fail)|(simp;first|done|omega|fail))[]))
   refine B4 y ⟨rfl, hy⟩ ?_
   simp only [L0, D5]
   (repeat' constructor)
end Go.Proofs.YtjobgnabneddjaaGreat
namespace Go.Proofs.YtjobgnabneddjaaGreat
open Go
def A20 (t : List EnV) : Prop := (∀ x ∈ t, x = noE) ∧ t.length ≤ 64
theorem B3d (n : Nat) : A20 (N9 n) := ⟨fun x hx => by unfold N9 at hx; exact (List.mem_replicate.1 hx).2, by unfold N9; simp; omega⟩
theorem B19 {t : List EnV} (h : A20 t) : A3V t := fun x hx => by rw [h.1 x hx]; decide
theorem A1J {a b : List Int} (hl : a.length = b.length) (h : ∀ j, j < a.length → a.getD j 0 = b.getD j 0) : a = b := by
 apply List.ext_getElem hl
 intro j h1 h2
 have := h j h1
 rwa [List.getD_eq_getElem?_getD, List.getD_eq_getElem?_getD, List.getElem?_eq_getElem h1, List.getElem?_eq_getElem h2] at this
theorem B1T {a : List Int} {i j : Nat} {v : Int} (h : j < a.length) : (a.set i v).getD j 0 = if i = j then v else a.getD j 0 := by
 rw [List.getD_eq_getElem?_getD, List.getD_eq_getElem?_getD, List.getElem?_eq_getElem (by rw [List.length_set]; exact h), List.getElem?_eq_getElem h, List.getElem_set]; split <;> rfl
theorem B3w {l : List Int} {i : Nat} {a b : Int} (h : i < l.length) : A0C l (i : Nat) a b = if l.getD i 0 = a then l.set i b else l := by
 unfold A0C
 rw [Int.toNat_natCast]
 by_cases c : l.getD i 0 = a
 ·rw [if_pos ⟨by omega, by omega, c⟩, if_pos c]
 ·rw [if_neg (fun h => c h.2.2), if_neg c]
theorem C0l {l : List Int} {i : Nat} (h : i < l.length) : j8 l (i : Nat) = l.getD i 0 := by unfold j8; rw [if_pos (by omega), Int.toNat_natCast]
def Q4 (N : Nat) : List Int := List.replicate N (-1)
theorem A32 {N j : Nat} (h : j < N) : (Q4 N).getD j 0 = -1 := by
 rw [List.getD_eq_getElem?_getD, List.getElem?_eq_getElem (by simp [Q4]; exact h)]; simp [Q4]
theorem B1U {l : List Int} (h : ∀ j, j < l.length → l.getD j 0 = -1) (i : Int) : j8 l i = -1 := by
 unfold j8
 split
 ·rename_i hi; exact h _ (by omega)
 ·rfl
end Go.Proofs.YtjobgnabneddjaaGreat
namespace Go.Proofs.YtjobgnabneddjaaGreat
open Go
end Go.Proofs.YtjobgnabneddjaaGreat
namespace Go.Proofs.YtjobgnabneddjaaGreat
open Go
structure QI (N : Nat) (j : JW) (x : WS) : Prop where
 ok : WsOk x
 n : 1 ≤ N ∧ N ≤ 16
 sh : x.c.sh = (N : Nat)
 tl : x.tabs.length = N
 te : ∀ t ∈ x.tabs, A20 t
 pl : x.places.length = N
 ow : x.own.length = N
 jt : A20 j.table
 sl : ∀ i, K7 x.sl i = .no
 ep : G1 x.cells 0 = 0
 cur : G1 x.cells 1 = 0
 text : j.text.size ≤ 100
 key : j.key.size < 2 ^ 60
 shard : 0 ≤ j.shard ∧ j.shard < N
 slot : -1 ≤ j.slot ∧ j.slot ≤ 0
 st : 0 ≤ j.st ∧ j.st ≤ 10
theorem A93 (l : List EnV) (key : ByteArray) (c : Bool) (now idle : Int) : m6 l [] key c now idle = (l, ⟨11, 0, false, 0⟩, false) := by
 have hk : (N7 l [] key now).2 = false := by
  unfold N7
  have hb : ∀ id, Y4 [] id = -1 := fun _ => rfl
  rw [if_pos (Or.inr (Or.inr (by rw [hb]; omega)))]
 unfold m6
 rw [if_pos ⟨hk, rfl⟩]
theorem A92 (l : List Int) (i w : Int) : (r4 l i w).length = l.length := by unfold r4 A0C; split <;> (try split) <;> simp
theorem A7B (l : List Int) (i w : Int) : (S9 l i w).length = l.length := by unfold S9 A0C; split <;> (try split) <;> simp
theorem C0B (c : CfgV) (who : Int) : M1 c who = -1 ∨ 2 ≤ M1 c who := by unfold M1; split <;> omega
theorem A6f (c : CfgV) (who v : Int) (l : List Int) (k : Int) (hk : k = 0 ∨ k = 1) : G1 (g6 l (M1 c who) v) k = G1 l k := B5Y _ _ (by rcases C0B c who with h | h <;> omega)
theorem QI.stage {N : Nat} {j : JW} {x : WS} (h : QI N j x) (k : Nat) (hk : k < 10) (hs : j.st = (k : Nat)) : QI N (F8 k { j with st := j.st + 1 } x).1 (F8 k { j with st := j.st + 1 } x).2.1 := by
 obtain ⟨⟨w1, w2, w3, w4, w5⟩, h2, h3, h4, h5, h6, h7, h8, h9, h10, h11, h12, h13, h14, h15, h16⟩ := h
 have hst : 0 ≤ j.st + 1 ∧ j.st + 1 ≤ 10 := by omega
 have hok : WsOk x := ⟨w1, w2, w3, w4, w5⟩
 have hcase : k = 0 ∨ k = 1 ∨ k = 2 ∨ k = 3 ∨ k = 4 ∨ k = 5 ∨ k = 6 ∨ k = 7 ∨ k = 8 ∨ k = 9 := by omega
 rcases hcase with rfl | rfl | rfl | rfl | rfl | rfl | rfl | rfl | rfl | rfl
 ·show QI N (jw0 _ x).1 (jw0 _ x).2.1
  unfold jw0
  by_cases c1 : M1 x.c j.who < 0
  ·rw [if_pos c1]; exact ⟨hok, h2, h3, h4, h5, h6, h7, h8, h9, h10, h11, h12, h13, h14, h15, by simp [JW.refuse]⟩
  ·rw [if_neg c1]
   by_cases c2 : (E9 j.text).2.2 = 0
   ·rw [if_neg (by simpa using c2)]
    refine ⟨hok, h2, h3, h4, h5, h6, h7, h8, h9, h10, h11, h12, B0C _, ?_, h15, hst⟩
    show 0 ≤ ((s6 (A6H (E9 j.text).1) x.c.sh : Nat) : Int) ∧ ((s6 (A6H (E9 j.text).1) x.c.sh : Nat) : Int) < N
    have : s6 (A6H (E9 j.text).1) x.c.sh < N := by
     unfold s6; rw [if_neg (by omega), h3, Int.toNat_natCast]; exact Nat.mod_lt _ (by omega)
    omega
   ·rw [if_pos c2]; exact ⟨hok, h2, h3, h4, h5, h6, h7, h8, h9, h10, h11, h12, h13, h14, h15, by simp [JW.refuse]⟩
 ·exact ⟨⟨w1, by simp only [F8, jw1, A9j]; exact w2, w3, w4, w5⟩, h2, h3, h4, h5, h6, h7, h8, h9, by simp only [F8, jw1]; rw [A6f _ _ _ _ _ (Or.inl rfl)]; exact h10, by simp only [F8, jw1]; rw [A6f _ _ _ _ _ (Or.inr rfl)]; exact h11, h12, h13, h14, h15, hst⟩
 ·show QI N (jw2 _ x).1 (jw2 _ x).2.1
  unfold jw2
  by_cases c1 : G1 x.cells 0 = j.ep
  ·rw [if_pos c1]; exact ⟨hok, h2, h3, h4, h5, h6, h7, h8, h9, h10, h11, h12, h13, h14, h15, hst⟩
  ·rw [if_neg c1]; exact ⟨hok, h2, h3, h4, h5, h6, h7, h8, h9, h10, h11, h12, h13, h14, h15, by simp⟩
 ·exact ⟨⟨w1, w2, by simp only [F8, jw3, A92]; exact w3, w4, w5⟩, h2, h3, h4, h5, h6, by simp only [F8, jw3, A92]; exact h7, h8, h9, h10, h11, h12, h13, h14, h15, hst⟩
 ·refine ⟨hok, h2, h3, h4, h5, h6, h7, h8, h9, h10, h11, h12, h13, h14, ?_, hst⟩
  show -1 ≤ IntKind.i64.wrap (G1 x.cells 1 - 1) ∧ IntKind.i64.wrap (G1 x.cells 1 - 1) ≤ 0
  rw [h11, q8 (by omega) (by omega)]; omega
 ·refine ⟨hok, h2, h3, h4, h5, h6, h7, ?_, h9, h10, h11, h12, h13, h14, h15, hst⟩
  show A20 (x.tabs.getD j.shard.toNat [])
  rw [List.getD_eq_getElem?_getD, List.getElem?_eq_getElem (by omega)]
  exact h5 _ (List.getElem_mem _)
 ·have hp : H8 x j.slot = [] := by unfold H8; rw [h9]
  refine ⟨hok, h2, h3, h4, h5, h6, h7, ?_, h9, h10, h11, h12, h13, h14, h15, hst⟩
  show A20 (m6 j.table (H8 x j.slot) j.key j.closing j.now x.c.idle).1
  rw [hp, A93]; exact h8
 ·refine ⟨⟨w1, w2, w3, w4, w5⟩, h2, h3, by simp only [F8, jw7, List.length_set]; exact h4, fun t ht => ?_, h6, h7, h8, h9, h10, h11, h12, h13, h14, h15, hst⟩
  rcases List.mem_or_eq_of_mem_set (show t ∈ x.tabs.set j.shard.toNat j.table from ht) with ht | rfl
  ·exact h5 t ht
  ·exact h8
 ·exact ⟨⟨w1, w2, by simp only [F8, jw8, A7B]; exact w3, w4, w5⟩, h2, h3, h4, h5, h6, by simp only [F8, jw8, A7B]; exact h7, h8, h9, h10, h11, h12, h13, h14, h15, hst⟩
 ·exact ⟨⟨w1, by simp only [F8, jw9, A9j]; exact w2, w3, w4, w5⟩, h2, h3, h4, h5, h6, h7, h8, h9, by simp only [F8, jw9]; rw [A6f _ _ _ _ _ (Or.inl rfl)]; exact h10, by simp only [F8, jw9]; rw [A6f _ _ _ _ _ (Or.inr rfl)]; exact h11, h12, h13, h14, h15, hst⟩
theorem A6k {j : JW} {x : WS} (h : j.ready x = false) : j.step x = (j, x, noT) := by unfold JW.step; rw [h]; rfl
theorem A1g {j : JW} {x : WS} (h : j.ready x = true) : j.step x = F8 j.st.toNat { j with st := j.st + 1 } x := by unfold JW.step; rw [h]; rfl
theorem B8K {j : JW} {x : WS} (h : j.ready x = true) : j.st < 10 := by
 unfold JW.ready at h
 simp only [Bool.and_eq_true, decide_eq_true_eq] at h
 exact h.1
theorem QI.step {N : Nat} {j : JW} {x : WS} (h : QI N j x) : QI N (j.step x).1 (j.step x).2.1 := by
 cases hr : j.ready x with
 | false => rw [A6k hr]; exact h
 | true =>
  have hs := h.st
  have hl := B8K hr
  rw [A1g hr]
  exact h.stage _ (by omega) (by omega)
theorem B6V {j : JW} {x : WS} (hs : j.st = 0) (hp : ¬ M1 x.c j.who < 0) (hb : (E9 j.text).2.2 ≠ 0) : j.step x = (({ j with st := j.st + 1 } : JW).refuse 9, x, true, true, false) := by
 rw [A1g (by simp [JW.ready, hs])]
 rw [hs]
 exact (if_neg hp).trans (if_pos hb)
theorem C1H {j : JW} {x : WS} (hs : j.st = 0) (hp : M1 x.c j.who < 0) : j.step x = (({ j with st := j.st + 1 } : JW).refuse 1, x, true, true, false) := by
 rw [A1g (by simp [JW.ready, hs])]
 rw [hs]
 exact if_pos hp
structure GoI (N : Nat) (who : Int) (text : ByteArray) (k : Nat) (j : JW) (x : WS) : Prop where
 q : QI N j x
 ewho : j.who = who
 etext : j.text = text
 pin : 0 ≤ M1 x.c who
 good : (E9 text).2.2 = 0
 st : j.st = (k : Nat)
 ep : 1 ≤ k → k ≤ 3 → j.ep = 0
 slot : 5 ≤ k → j.slot = -1
 ans : 7 ≤ k → j.ans = ⟨11, 0, false, 0⟩
theorem A6c {N : Nat} {who : Int} {text : ByteArray} {k : Nat} {j : JW} {x : WS} (h : GoI N who text k j x) (hk : k < 10) (ho : k = 3 → j8 x.own j.shard < 0) : j.ready x = true ∧ GoI N who text (k + 1) (j.step x).1 (j.step x).2.1 := by
 obtain ⟨h1, h2, h3, h4, h5, h6, h7, h8, h9⟩ := h
 have hr : j.ready x = true := by
  unfold JW.ready
  rw [decide_eq_true (by omega), Bool.true_and]
  by_cases c : j.st = 3
  ·rw [decide_eq_true (ho (by omega))]; simp
  ·rw [decide_eq_false c]; rfl
 refine ⟨hr, ?_⟩
 have hq := h1.step
 rw [A1g hr] at hq ⊢
 rw [h6, Int.toNat_natCast] at hq ⊢
 have hp : H8 x j.slot = [] := by unfold H8; rw [h1.sl]
 have hcase : k = 0 ∨ k = 1 ∨ k = 2 ∨ k = 3 ∨ k = 4 ∨ k = 5 ∨ k = 6 ∨ k = 7 ∨ k = 8 ∨ k = 9 := by omega
 rcases hcase with rfl | rfl | rfl | rfl | rfl | rfl | rfl | rfl | rfl | rfl
 ·have e : F8 0 { j with st := ((0 : Nat) : Int) + 1 } x = ({ ({ j with st := ((0 : Nat) : Int) + 1 } : JW).rd x.c.sh with ep := G1 x.cells 0 }, x, noT) := by
   show jw0 _ x = _
   unfold jw0
   rw [if_neg (show ¬ M1 x.c j.who < 0 by rw [h2]; omega), if_neg (show ¬ (E9 j.text).2.2 ≠ 0 by rw [h3]; simpa using h5)]
  rw [e] at hq ⊢
  exact ⟨hq, h2, h3, h4, h5, rfl, fun _ _ => h1.ep, fun h => by omega, fun h => by omega⟩
 ·exact ⟨hq, h2, h3, h4, h5, rfl, fun _ _ => h7 (by omega) (by omega), fun h => by omega, fun h => by omega⟩
 ·have e : F8 2 { j with st := ((2 : Nat) : Int) + 1 } x = ({ j with st := ((2 : Nat) : Int) + 1 }, x, noT) := by
   show jw2 _ x = _
   unfold jw2
   rw [if_pos (show G1 x.cells 0 = j.ep by rw [h1.ep, h7 (by omega) (by omega)])]
  rw [e] at hq ⊢
  exact ⟨hq, h2, h3, h4, h5, rfl, fun _ _ => h7 (by omega) (by omega), fun h => by omega, fun h => by omega⟩
 ·exact ⟨hq, h2, h3, h4, h5, rfl, fun _ h => by omega, fun h => by omega, fun h => by omega⟩
 ·refine ⟨hq, h2, h3, h4, h5, rfl, fun _ h => by omega, fun _ => ?_, fun h => by omega⟩
  show IntKind.i64.wrap (G1 x.cells 1 - 1) = -1
  rw [h1.cur]; rfl
 ·exact ⟨hq, h2, h3, h4, h5, rfl, fun _ h => by omega, fun _ => h8 (by omega), fun h => by omega⟩
 ·refine ⟨hq, h2, h3, h4, h5, rfl, fun _ h => by omega, fun _ => h8 (by omega), fun _ => ?_⟩
  show (m6 j.table (H8 x j.slot) j.key j.closing j.now x.c.idle).2.1 = _
  rw [hp, A93]
 ·exact ⟨hq, h2, h3, h4, h5, rfl, fun _ h => by omega, fun _ => h8 (by omega), fun _ => h9 (by omega)⟩
 ·exact ⟨hq, h2, h3, h4, h5, rfl, fun _ h => by omega, fun _ => h8 (by omega), fun _ => h9 (by omega)⟩
 ·exact ⟨hq, h2, h3, h4, h5, rfl, fun _ h => by omega, fun _ => h8 (by omega), fun _ => h9 (by omega)⟩
end Go.Proofs.YtjobgnabneddjaaGreat
namespace Go.Proofs.YtjobgnabneddjaaGreat
open Go
theorem C1Y {c : CfgV} (h : T0 c = true) : WsOk (N2 c) := by
 simp only [T0, V5, Bool.and_eq_true, decide_eq_true_eq] at h
 refine ⟨by simp only [N2]; omega, by simp only [N2, List.length_replicate], by simp only [N2, List.length_replicate]; omega, by simp only [N2, List.length_replicate]; omega, by simp only [N2, List.length_replicate]; omega⟩
theorem B3v (n : Nat) (i : Int) : G1 (List.replicate n 0) i = 0 := by
 unfold G1
 split
 ·rw [List.getD_eq_getElem?_getD, List.getElem?_replicate]; split <;> rfl
 ·rfl
end Go.Proofs.YtjobgnabneddjaaGreat
namespace Go.Proofs.YtjobgnabneddjaaGreat
open Go
abbrev WA := JW × JwY
def F9 (b : Nat) (m : WoH) (a : WA) : List Res := D9 b a.1 a.2.1 (m.uz a.2.2.1) a.2.2.2
def wx (m : WoH) (a : WA) : WS := (m.uz a.2.2.1).ws
structure JwC (m : WoH) (a : WA) : Prop where
 emp : ∀ t ∈ a.2.2.2, A20 t.2
 sub : A7x a.2.2.1.ts a.2.2.2
 tb : (a.2.1, a.1.table) ∈ a.2.2.2
theorem JwC.ok {N : Nat} {m : WoH} {a : WA} (h : JwC m a) (hq : QI N a.1 (wx m a)) : JwOk a.1 a.2.1 (m.uz a.2.2.1) a.2.2.2 := by
 obtain ⟨j, tv, d, P⟩ := a
 have hts : d.ts.length = N := by have := hq.tl; simpa [wx, WoH.ws, WoH.uz] using this
 have hn := hq.n
 have hpl : m.pl.length = N := hq.pl
 have how : d.own.length = N := hq.ow
 have hsh : m.c.sh = (N : Nat) := hq.sh
 have hjt := hq.jt
 have htx : j.text.size ≤ 100 := hq.text
 have hjl : j.table.length ≤ 64 := hjt.2
 have hsl : -1 ≤ j.slot ∧ j.slot ≤ 0 := hq.slot
 have hsd : 0 ≤ j.shard ∧ j.shard < N := hq.shard
 have h0 : G1 d.cells 0 = 0 := hq.ep
 have h1 : G1 d.cells 1 = 0 := hq.cur
 refine ⟨hq.ok, ⟨by show d.ts.length ≤ _; omega, by show m.pl.length = d.ts.length; omega, fun t ht => ?_, fun t ht => B19 (h.emp _ (h.sub _ ht)), by show d.own.length ≤ _; omega, h.sub⟩, h.tb, by show (d.ts.length : Int) = m.c.sh; omega, by show j.text.size < _; omega, hq.key, by show 0 ≤ j.shard ∧ j.shard < (d.ts.length : Int); omega, B19 hjt, by show j.table.length ≤ _; omega, by show -1 ≤ j.slot ∧ j.slot ≤ _; omega, by show 0 ≤ G1 d.cells 0 ∧ G1 d.cells 0 ≤ _; omega, by show 0 ≤ G1 d.cells 1 ∧ G1 d.cells 1 ≤ _; omega⟩
 have := (h.emp _ (h.sub _ ht)).2; omega
theorem m8 {N : Nat} (w' : World) (b : Nat) (m : WoH) (a : WA) (hc : JwC m a) (hq : QI N a.1 (wx m a)) (hs : LW false (B3 (F9 b m a)) w' (F9 b m a) w') :
  Fn PR B7 20 #[.pointer (some ⟨b, 0, none⟩), .pointer (some ⟨m.b, 0, none⟩)] w' (Rn (B3 (F9 b m a)) w' (fun (a' : WA) u => u = K8 (a.1.step (wx m a)).2.2 ∧ a'.1 = (a.1.step (wx m a)).1 ∧ wx m a' = (a.1.step (wx m a)).2.1 ∧ JwC m a' ∧ QI N a'.1 (wx m a')) (F9 b m)) := by
 have hq' := hq.step
 obtain ⟨j, tv, d, P⟩ := a
 refine (B6T w' b j tv (m.uz d) P (hc.ok hq) hq.st hs).mono fun u w'' hr => ?_
 obtain ⟨y, ⟨h1, h2, h3, h4, h5⟩, h6⟩ := hr
 have e2 : wx m ((j.step (m.uz d).ws).1, y) = (j.step (m.uz d).ws).2.1 := h2
 refine ⟨((j.step (m.uz d).ws).1, y), ⟨h1, rfl, e2, ⟨fun t ht => ?_, h3, h4⟩, by rw [e2]; exact hq'⟩, h6⟩
 rcases h5 t ht with h | h
 ·exact hc.emp t h
 ·rw [h]; exact hq'.jt
theorem f8 (w w' : World) (b : Nat) (m : WoH) (a : WA) {κ : Bool} {S : List Nat} {H : List Res} (hw : LW κ S w H w') (hs : ∀ r ∈ F9 b m a, r ∈ H) :
  Fn PR B7 23 #[.pointer (some ⟨b, 0, none⟩), .pointer (some ⟨m.b, 0, none⟩)] w' (fun u w'' => u = .bool (a.1.ready (wx m a)) ∧ C3 [] w' w'') :=
 B6D (m := m.uz a.2.2.1) hw (hs _ (by unfold F9 D9; (repeat constructor))) fun r hr => hs _ (by unfold F9 D9; exact List.mem_cons_of_mem _ (List.mem_cons_of_mem _ hr))
theorem B8d (n : Nat) (i : Int) : K7 (List.replicate n SlV.no) i = .no := by
 unfold K7
 split
 ·rw [List.getD_eq_getElem?_getD, List.getElem?_replicate]; split <;> rfl
 ·rfl
theorem QI.job {N : Nat} {j : JW} {x : WS} (h : QI N j x) (who : Int) (text : ByteArray) (ht : text.size ≤ 100) : QI N (F1 who text) x :=
 ⟨h.ok, h.n, h.sh, h.tl, h.te, h.pl, h.ow, ⟨fun x hx => by simp [F1] at hx, by simp [F1]⟩, h.sl, h.ep, h.cur, ht, by simp [F1, H0], by have := h.n; simp only [F1]; omega, by simp [F1], by simp [F1]⟩
theorem QI.own {N : Nat} {j : JW} {x : WS} (h : QI N j x) (own : List Int) (ho : own.length = N) : QI N j { x with own := own } :=
 ⟨⟨h.ok.wk, h.ok.cells, by show own.length ≤ 16; have := h.n; omega, h.ok.sl, h.ok.keep⟩, h.n, h.sh, h.tl, h.te, h.pl, ho, h.jt, h.sl, h.ep, h.cur, h.text, h.key, h.shard, h.slot, h.st⟩
theorem QI.new {c : CfgV} (hok : T0 c = true) (who : Int) (text : ByteArray) (ht : text.size ≤ 100) : QI c.sh.toNat (F1 who text) (N2 c) := by
 have hw := C1Y hok
 simp only [T0, V5, Bool.and_eq_true, decide_eq_true_eq] at hok
 refine ⟨hw, by omega, by show c.sh = _; omega, by simp [N2], fun t h => ?_, by simp [N2], by simp [N2], ⟨fun x hx => by simp [F1] at hx, by simp [F1]⟩, fun i => B8d _ i, B3v _ _, B3v _ _, ht, by simp [F1, H0], by simp only [F1]; omega, by simp [F1], by simp [F1]⟩
 rw [(List.mem_replicate.1 (show t ∈ List.replicate c.sh.toNat (N9 c.cp.toNat) from h)).2]
 exact B3d _
theorem JwC.new {c : CfgV} {m : WoH} (hws : m.ws = N2 c) (who : Int) (text : ByteArray) : JwC m (F1 who text, F6, m.dz, m.ts ++ [(F6, [])]) := by
 have e1 : m.ts.map (·.2) = List.replicate c.sh.toNat (N9 c.cp.toNat) := congrArg WS.tabs hws
 refine ⟨fun t ht => ?_, fun t ht => List.mem_append_left _ ht, List.mem_append_right _ (List.mem_singleton.2 rfl)⟩
 rcases List.mem_append.1 ht with ht | ht
 ·have : t.2 ∈ m.ts.map (·.2) := List.mem_map.2 ⟨t, ht, rfl⟩
  rw [e1] at this
  rw [(List.mem_replicate.1 this).2]; exact B3d _
 ·rw [List.mem_singleton.1 ht]; exact ⟨fun x hx => by simp at hx, by simp⟩
theorem B1e {j : JW} {x : WS} {k : Nat} (hs : j.st = (k : Nat)) (hk : k < 3) : (j.step x).2.1.own = x.own := by
 cases hr : j.ready x with
 | false => rw [A6k hr]
 | true =>
  rw [A1g hr, hs, Int.toNat_natCast]
  have : k = 0 ∨ k = 1 ∨ k = 2 := by omega
  rcases this with rfl | rfl | rfl
  ·show (jw0 _ x).2.1.own = _
   unfold jw0
   split
   ·rfl
   ·split <;> rfl
  ·rfl
  ·show (jw2 _ x).2.1.own = _
   unfold jw2
   split <;> rfl
end Go.Proofs.YtjobgnabneddjaaGreat
namespace Go.Proofs.YtjobgnabneddjaaGreat
open Go
theorem B4x (w : World) (m : WoH) (hb : bl w m.b = some (.cells (E1 m.c (.pointer (some ⟨m.bc, 0, none⟩)) (.pointer (some ⟨m.bs, 0, none⟩)) (.pointer (some ⟨m.bk, 0, none⟩)) m.tv m.pv (.int .i64 m.now)) 39 (0, 0))) :
  Fn PR B7 18 #[.pointer (some ⟨m.b, 0, none⟩)] w (fun u w' => u = .bool true ∧ C3 [] w w') := by
 refine Fn.pure (A1r (TW.go (κ := false) (S := []) ?_))
 unfold d7
 have h5 : w.cell? ⟨m.b, 5, none⟩ = some (.pointer (some ⟨m.bc, 0, none⟩)) := by rw [D8 hb]; rfl
 have h6 : w.cell? ⟨m.b, 6, none⟩ = some (.pointer (some ⟨m.bs, 0, none⟩)) := by rw [D8 hb]; rfl
 have h7 : w.cell? ⟨m.b, 7, none⟩ = some (.pointer (some ⟨m.bk, 0, none⟩)) := by rw [D8 hb]; rfl
 (have zz:=trivial;repeat((first|clear zz|with_reducible first|refine A3 ?_|refine A5 fun _=>?_|refine A4 fun _=>?_);try simp(disch:=first|omega|assumption|((repeat(first|exact A1|exact uH|apply A2|apply uT));first|done|fail)|(simp;first|done|omega|fail))[h5, h6, h7]))
 exact A9 rfl
def B8l : CfgV := ⟨1, 1, 1, 5, 2⟩
def B0w : KeyV := ⟨4, ByteArray.mk #[97, 98, 99, 100], ByteArray.mk #[101, 102, 103, 104], 1, 2, 17⟩
def W2 : ByteArray := (Y0 B0w 0).1
theorem B4b : (E9 W2).2.2 = 0 := by kernel_rfl
theorem B4H : W2.size ≤ 100 := by decide +kernel
theorem C3U : (Y0 B0w 0).2 = 0 := by kernel_rfl
theorem B9a : (E9 H0).2.2 ≠ 0 := by decide +kernel
theorem C1T : T0 B8l = true := by kernel_rfl
theorem A1S (r : Res) : ∀ A : List Res, Part A (r :: A) [r]
 | [] => Part.nil
 | t :: A => Part.cons (.there .here) (A1S r A)
set_option maxHeartbeats 4000000 in
theorem B36 (w : World) : Fn PR B7 14 #[] w (fun r w' => r = .bool true ∧ C3 [] w w') := by
 refine Fn.pure (A1w (TW.go (κ := false) (S := []) ?_))
 unfold c7
 (have zz:=trivial;repeat((first|clear zz|with_reducible first|refine A3 ?_|refine A5 fun _=>?_|refine A4 fun _=>?_);try simp(disch:=first|omega|assumption|((repeat(first|exact A1|exact uH|apply A2|apply uT));first|done|fail)|(simp;first|done|omega|fail))[]))
 refine K3 A4x (fun w' hw' => B3P w' B8l) ?_
 rw [C1T]
 simp only [if_true]
 rintro m v ⟨rfl, hmc, hws⟩
 (have zz:=trivial;repeat((first|clear zz|with_reducible first|refine A3 ?_|refine A5 fun _=>?_|refine A4 fun _=>?_);try simp(disch:=first|omega|assumption|((repeat(first|exact A1|exact uH|apply A2|apply uT));first|done|fail)|(simp;first|done|omega|fail))[]))
 refine B9 (u := .tuple #[.string W2, .int .i64 (Y0 B0w 0).2]) A9c (fun w' _ => B2N w' B0w 0) ?_
 rw [C3U]
 (have zz:=trivial;repeat((first|clear zz|with_reducible first|refine A3 ?_|refine A5 fun _=>?_|refine A4 fun _=>?_);try simp(disch:=first|omega|assumption|((repeat(first|exact A1|exact uH|apply A2|apply uT));first|done|fail)|(simp;first|done|omega|fail))[]))
 refine K3 y5 (fun w' hw' => A7H w' 1 W2) ?_
 rintro b v rfl
 (have zz:=trivial;repeat((first|clear zz|with_reducible first|refine A3 ?_|refine A5 fun _=>?_|refine A4 fun _=>?_);try simp(disch:=first|omega|assumption|((repeat(first|exact A1|exact uH|apply A2|apply uT));first|done|fail)|(simp;first|done|omega|fail))[]))
 refine K3 y5 (fun w' hw' => A7H w' 1 H0) ?_
 rintro b2 v rfl
 simp only [List.cons_append, List.nil_append]
 refine A0D 218 4 ?_
 have hmz : m.uz m.dz = m := rfl
 refine V6 (r := .slice none 0 0) (l := []) (ts := m.ts) (by simp only [D5, List.cons_append, List.nil_append]; (repeat' constructor)) ?_
 refine Sels.tw (rs := E8 b2 (F1 1 H0) F6 :: F9 b m (F1 1 W2, F6, m.dz, m.ts ++ [(F6, [])])) (by simp only [F9, D9, hmz, D5, F6, List.cons_append, List.nil_append]; (repeat' constructor)) ?_
 have hq0 : QI 1 (F1 1 W2) (wx m (F1 1 W2, F6, m.dz, m.ts ++ [(F6, [])])) := by
  have := QI.new C1T 1 W2 B4H
  show QI 1 _ m.ws
  rw [hws]; exact this
 have hg0 : GoI 1 1 W2 0 (F1 1 W2) (wx m (F1 1 W2, F6, m.dz, m.ts ++ [(F6, [])])) :=
  ⟨hq0, rfl, rfl, by show 0 ≤ M1 m.ws.c 1; rw [hws]; decide, B4b, rfl, fun h => by omega, fun h => by omega, fun h => by omega⟩
 have ho0 : (wx m (F1 1 W2, F6, m.dz, m.ts ++ [(F6, [])])).own = Q4 1 := by show m.ws.own = _; rw [hws]; rfl
 (have zz:=trivial;repeat((first|clear zz|with_reducible first|refine A3 ?_|refine A5 fun _=>?_|refine A4 fun _=>?_);try simp(disch:=first|omega|assumption|((repeat(first|exact A1|exact uH|apply A2|apply uT));first|done|fail)|(simp;first|done|omega|fail))[]))
 refine B4e (fun (y : WA × Nat) => E8 b2 (F1 1 H0) F6 :: F9 b m y.1) (fun y => y.2 ≤ 10 ∧ JwC m y.1 ∧ GoI 1 1 W2 y.2 y.1.1 (wx m y.1) ∧ (y.2 ≤ 3 → (wx m y.1).own = Q4 1)) (fun y => 10 - y.2) ((F1 1 W2, F6, m.dz, m.ts ++ [(F6, [])]), 0) (fun y => .int .i64 (y.2 : Nat)) ⟨Nat.zero_le _, JwC.new hws 1 W2, hg0, fun _ => ho0⟩ ?_
 rintro ⟨a, n⟩ ⟨h1, h2, h3, h4⟩ L hL
 simp only at h1 h2 h3 h4 hL ⊢
 have hR := fun (w' : World) (H : List Res) (hw' : LW false [] w H w') (hs : ∀ r ∈ F9 b m a, r ∈ H) => f8 w w' b m a hw' hs
 have c20 : n < 20 := by omega
 have c20' : ((n : Nat) : Int) < 20 := by omega
 by_cases hn : n < 10
 ·obtain ⟨hr, hg⟩ := A6c h3 hn fun h => by
   rw [h4 (by omega)]
   have : j8 (Q4 1) a.1.shard = -1 := B1U (fun j hj => A32 (by simpa [Q4] using hj)) _
   omega
  have hos := B1e h3.st (x := wx m a)
  rw [hr] at hR
  (have zz:=trivial;repeat((first|clear zz|with_reducible first|refine A3 ?_|refine A5 fun _=>?_|refine A4 fun _=>?_);try simp(disch:=first|omega|assumption|((repeat(first|exact A1|exact uH|apply A2|apply uT));first|done|fail)|(simp;first|done|omega|fail))[c20, c20']))
  refine B9 F3 (fun w' hw' => hR w' _ hw' (fun r hr => List.mem_cons_of_mem _ hr)) ?_
  (have zz:=trivial;repeat((first|clear zz|with_reducible first|refine A3 ?_|refine A5 fun _=>?_|refine A4 fun _=>?_);try simp(disch:=first|omega|assumption|((repeat(first|exact A1|exact uH|apply A2|apply uT));first|done|fail)|(simp;first|done|omega|fail))[c20, c20']))
  refine C6 (Hc := F9 b m a) (Hk := [E8 b2 (F1 1 H0) F6]) N3 (fun w' hw' hs => m8 w' b m a h2 h3.q hs) (A1S _ _) ?_
  rintro a' v ⟨rfl, k1, k2, k3, k4⟩
  refine TW.perm ?_ List.perm_append_comm
  simp only [List.cons_append, List.nil_append]
  (have zz:=trivial;repeat((first|clear zz|with_reducible first|refine A3 ?_|refine A5 fun _=>?_|refine A4 fun _=>?_);try simp(disch:=first|omega|assumption|((repeat(first|exact A1|exact uH|apply A2|apply uT));first|done|fail)|(simp;first|done|omega|fail))[]))
  exact hL (a', n + 1) ⟨by simp only; omega, k3, by rw [← k1, ← k2] at hg; exact hg, fun h => by simp only at h ⊢; rw [k2, hos (by omega)]; exact h4 (by omega)⟩ (by simp only; omega)
 obtain rfl : n = 10 := by omega
 clear hL
 have hst : a.1.st = 10 := h3.st
 have hr : a.1.ready (wx m a) = false := by unfold JW.ready; rw [decide_eq_false (by omega)]; rfl
 have hans := h3.ans (by omega)
 rw [hr] at hR
 (have zz:=trivial;repeat((first|clear zz|with_reducible first|refine A3 ?_|refine A5 fun _=>?_|refine A4 fun _=>?_);try simp(disch:=first|omega|assumption|((repeat(first|exact A1|exact uH|apply A2|apply uT));first|done|fail)|(simp;first|done|omega|fail))[]))
 refine B9 F3 (fun w' hw' => hR w' _ hw' (fun r hr => List.mem_cons_of_mem _ hr)) ?_
 (have zz:=trivial;repeat((first|clear zz|with_reducible first|refine A3 ?_|refine A5 fun _=>?_|refine A4 fun _=>?_);try simp(disch:=first|omega|assumption|((repeat(first|exact A1|exact uH|apply A2|apply uT));first|done|fail)|(simp;first|done|omega|fail))[]))
 obtain ⟨j, tv, d, P⟩ := a
 have hq := h3.q
 have hemp := h2.emp
 have hsub := h2.sub
 simp only at hst hans hq hemp hsub
 refine A0D 218 4 ?_
 simp only [F9, D9]
 refine V6 (r := .slice none 0 0) (l := []) (ts := P) (by (repeat' constructor)) ?_
 have hmb : (m.uz d).b = m.b := rfl
 have hcP : JwC (m.uz d) (F1 1 H0, F6, (m.uz d).dz, P ++ [(F6, [])]) := by
  refine ⟨fun t ht => ?_, fun t ht => List.mem_append_left _ (hsub t ht), List.mem_append_right _ (List.mem_singleton.2 rfl)⟩
  rcases List.mem_append.1 ht with ht | ht
  ·exact hemp t ht
  ·rw [List.mem_singleton.1 ht]; exact ⟨fun x hx => by simp at hx, by simp⟩
 have hq2 : QI 1 (F1 1 H0) (wx (m.uz d) (F1 1 H0, F6, (m.uz d).dz, P ++ [(F6, [])])) := hq.job 1 H0 (by simp [H0])
 have hbad : (F1 1 H0).step (m.uz d).ws = (({ F1 1 H0 with st := 1 } : JW).refuse 9, (m.uz d).ws, true, true, false) := by
  have := B6V (j := F1 1 H0) (x := (m.uz d).ws) rfl (by have : (m.uz d).ws.c = m.ws.c := rfl; rw [this, hws]; decide) B9a
  exact this
 refine C6 (Hc := F9 b2 (m.uz d) (F1 1 H0, F6, (m.uz d).dz, P ++ [(F6, [])])) (Hk := [E8 b j tv]) N3 (fun w' hw' hs => m8 (N := 1) w' b2 (m.uz d) _ hcP hq2 hs) (by simp only [F9, D9, show (m.uz d).uz (m.uz d).dz = m.uz d from rfl, D5, F6, List.cons_append, List.nil_append]; (repeat' constructor)) ?_
 rintro ⟨j2, tv2, d2, P2⟩ v ⟨rfl, k1, _, _, _⟩
 simp only [wx, show (m.uz d).uz (m.uz d).dz = m.uz d from rfl, hbad] at k1 ⊢
 subst k1
 have hA1 := fun (w' : World) (g : bl w' b = some (.cells (F4 j tv) 130 (0, 0))) => A2s w' b j tv g
 have hS1 := fun (w' : World) (g : bl w' b = some (.cells (F4 j tv) 130 (0, 0))) => n7 w' b j tv g
 rw [hans] at hA1
 rw [hst] at hS1
 obtain ⟨j3, hj3⟩ : ∃ j3, j3 = ({ F1 1 H0 with st := 1 } : JW).refuse 9 := ⟨_, rfl⟩
 have e3 : j3.ans = ⟨9, 0, false, 0⟩ ∧ j3.st = 10 := by rw [hj3]; exact ⟨rfl, rfl⟩
 have r3 : j3.ready ((m.uz d).uz d2).ws = false := by unfold JW.ready; rw [decide_eq_false (by omega)]; rfl
 rw [← hj3]
 have hA2 := fun (w' : World) (g : bl w' b2 = some (.cells (F4 j3 tv2) 130 (0, 0))) => A2s w' b2 j3 tv2 g
 have hS2 := fun (w' : World) (g : bl w' b2 = some (.cells (F4 j3 tv2) 130 (0, 0))) => n7 w' b2 j3 tv2 g
 have hR2 := fun (w' : World) (H : List Res) (hw' : LW false [] w H w') (hs : ∀ r ∈ F9 b2 (m.uz d) (j3, tv2, d2, P2), r ∈ H) => f8 w w' b2 (m.uz d) (j3, tv2, d2, P2) hw' hs
 rw [show wx (m.uz d) (j3, tv2, d2, P2) = ((m.uz d).uz d2).ws from rfl, r3] at hR2
 rw [e3.1] at hA2
 rw [e3.2] at hS2
 simp only [F9, D9, List.cons_append, List.nil_append, K8]
 (have zz:=trivial;repeat((first|clear zz|with_reducible first|refine A3 ?_|refine A5 fun _=>?_|refine A4 fun _=>?_);try simp(disch:=first|omega|assumption|((repeat(first|exact A1|exact uH|apply A2|apply uT));first|done|fail)|(simp;first|done|omega|fail))[]))
 rename_i bt
 refine B9 V4 (fun w' hw' => hA1 w' (hw'.pt (b := b) (by unfold E8; simp))) ?_
 simp only [AnsV.val]
 (have zz:=trivial;repeat((first|clear zz|with_reducible first|refine A3 ?_|refine A5 fun _=>?_|refine A4 fun _=>?_);try simp(disch:=first|omega|assumption|((repeat(first|exact A1|exact uH|apply A2|apply uT));first|done|fail)|(simp;first|done|omega|fail))[]))
 refine B9 H4 (fun w' hw' => hS1 w' (hw'.pt (b := b) (by unfold E8; simp))) ?_
 (have zz:=trivial;repeat((first|clear zz|with_reducible first|refine A3 ?_|refine A5 fun _=>?_|refine A4 fun _=>?_);try simp(disch:=first|omega|assumption|((repeat(first|exact A1|exact uH|apply A2|apply uT));first|done|fail)|(simp;first|done|omega|fail))[]))
 refine B9 V4 (fun w' hw' => hA2 w' (hw'.pt (b := b2) (by unfold E8; simp))) ?_
 simp only [AnsV.val]
 (have zz:=trivial;repeat((first|clear zz|with_reducible first|refine A3 ?_|refine A5 fun _=>?_|refine A4 fun _=>?_);try simp(disch:=first|omega|assumption|((repeat(first|exact A1|exact uH|apply A2|apply uT));first|done|fail)|(simp;first|done|omega|fail))[]))
 refine B9 F3 (fun w' hw' => hR2 w' _ hw' (fun r hr => by unfold F9 D9 at hr; simp only [List.mem_cons, List.mem_append] at hr ⊢; rcases hr with h | h | h <;> simp [h])) ?_
 (have zz:=trivial;repeat((first|clear zz|with_reducible first|refine A3 ?_|refine A5 fun _=>?_|refine A4 fun _=>?_);try simp(disch:=first|omega|assumption|((repeat(first|exact A1|exact uH|apply A2|apply uT));first|done|fail)|(simp;first|done|omega|fail))[]))
 refine B9 H4 (fun w' hw' => hS2 w' (hw'.pt (b := b2) (by unfold E8; simp))) ?_
 (have zz:=trivial;repeat((first|clear zz|with_reducible first|refine A3 ?_|refine A5 fun _=>?_|refine A4 fun _=>?_);try simp(disch:=first|omega|assumption|((repeat(first|exact A1|exact uH|apply A2|apply uT));first|done|fail)|(simp;first|done|omega|fail))[]))
 exact A9 rfl
end Go.Proofs.YtjobgnabneddjaaGreat
namespace Go.Proofs.YtjobgnabneddjaaGreat
open Go
def d6 (X : Nat → Prop) (t0 t1 : Value) (R : Value → WP) : WP :=
 jn (n := 1) (fun t4 =>
 jn (n := 2) (fun t4_1 t5 =>
 R (.bool true)) fun J1 =>
 lp (n := 2) (fun L2 t4_2 t5_1 =>
 jn (n := 0) (
 jn (n := 1) (fun t4_3 =>
 A0 PR (binOp .add 3 t5_1 (.int .i64 1)) fun t16 =>
 L2 t4_3 t16) fun J3 =>
 drw <|
 A0 PR (Instr.indexAt 51 t0 t5_1) fun t19 =>
 A6 PR (Instr.loadAt 9 t19) fun t20 =>
 A0 PR (Instr.indexAt 51 t1 t5_1) fun t23 =>
 A6 PR (Instr.loadAt 9 t23) fun t24 =>
 A0 PR (binOp .neq 9 t20 t24) fun t25 =>
 D4 t25 (
 R (.bool false)) (
 J3 t4_2)) fun J4 =>
 A0 PR (A8 .len #[51] 0 [t0]) fun t13 =>
 A0 PR (binOp .lss 3 t5_1 t13) fun t14 =>
 D4 t14 (
 J4) (
 J1 t4_2 t5_1)) t4 (.int .i64 0)) fun J5 =>
 A0 PR (A8 .len #[51] 0 [t0]) fun t7 =>
 A0 PR (A8 .len #[51] 0 [t1]) fun t9 =>
 A0 PR (binOp .neq 3 t7 t9) fun t10 =>
 D4 t10 (
 R (.bool false)) (
 J5 (.bool false))
theorem A1b : B0 PR 26 := A7 Tryz.func26 (by kernel_rfl) rfl
theorem A1v {X : Nat → Prop} {t0 t1 : Value} {R : Value → WP} {w : World} (h : d6 X t0 t1 R w) : Fn PR X 26 #[t0, t1] w R := C4 (args := [t0, t1]) mixed Tryz.func26 (by kernel_rfl) h
end Go.Proofs.YtjobgnabneddjaaGreat
namespace Go.Proofs.YtjobgnabneddjaaGreat
open Go
def B4M (k : ByteArray) : List Value := [.string k]
def H5 (ts : L9) : List ByteArray := ts.flatMap fun t => M5 t.2
abbrev B6l (b : Nat) : Value := .func (.func 146) #[] #[.pointer (some ⟨b, 0, none⟩)]
def RqW (m : WoH) (F : List Res) (w : World) : Prop :=
 (w.cell? ⟨m.b, 8, none⟩ = some m.tv ∧ m.b ∉ B3 F) ∧ RqS m.tv m.ts.length (m.ts.map (·.1)) F w ∧ ∀ t ∈ m.ts, RqS t.1 t.2.length (t.2.flatMap F7) F w
theorem B7L (l : List EnV) : (M5 l).length ≤ l.length := by
 unfold M5
 rw [List.length_map]
 have : ∀ (m : List EnV) (i : Nat), (P8 i m).length ≤ m.length := by
  intro m
  induction m with
  | nil => intro i; simp [P8]
  | cons x m ih => intro i; have := ih (i + 1); simp only [P8]; split <;> simp <;> omega
 exact this l 0
theorem B1A {ts : L9} {i : Nat} {x : Value × List EnV} (hx : ts[i]? = some x) : H5 (ts.take (i + 1)) = H5 (ts.take i) ++ M5 x.2 := by
 unfold H5
 rw [List.take_add_one, hx, List.flatMap_append]
 simp
theorem B5Q {ts : L9} {i n : Nat} {x : Value × List EnV} (hx : ts[i]? = some x) (hn : n < (M5 x.2).length) : (H5 ts)[(H5 (ts.take i)).length + n]? = some (M5 x.2)[n] := by
 have h : H5 ts = H5 (ts.take i) ++ (M5 x.2 ++ H5 (ts.drop (i + 1))) := by
  conv => lhs; rw [← List.take_append_drop (i + 1) ts]
  unfold H5
  rw [List.flatMap_append]
  have := B1A hx
  unfold H5 at this
  rw [this, List.append_assoc]
 rw [h, List.getElem?_append_right (by omega), Nat.add_sub_cancel_left, List.getElem?_append_left hn, List.getElem?_eq_getElem hn]
theorem B7b (b : Nat) (m : WoH) (hn : m.ts.length ≤ 1000) (hl : ∀ t ∈ m.ts, t.2.length ≤ 1000000) : A4B (B6l b) [.pt b (.cells #[.pointer (some ⟨m.b, 0, none⟩)] 26)] (RqW m) ((H5 m.ts).map B4M) := by
 refine ⟨_, _, _, rfl, fun y J E hJ hE stJ stE hy w0 h0 => ?_⟩
 obtain ⟨⟨hc8, hnb⟩, ⟨ta, tc, htv, _⟩, _⟩ := (hJ _ _ _ h0).2
 rw [htv] at hc8
 refine A2Y (A2j (TW.at (κ := true) ?_ (hJ _ _ _ h0).1))
 unfold d9
 (have zz:=trivial;repeat((first|clear zz|with_reducible first|refine A3 ?_|refine A5 fun _=>?_|refine A4 fun _=>?_);try simp(disch:=first|omega|assumption|((repeat(first|exact A1|exact uH|apply A2|apply uT));first|done|fail)|(simp;first|done|omega|fail))[hc8]))
 refine A3e m.ts.length (fun i => (H5 (m.ts.take i)).length) (fun _ => _) hJ stJ (by simpa [H5] using h0) fun i a' hi hJi hRi L hL => ?_
 by_cases hlt : i < m.ts.length
 ·obtain ⟨_, ⟨ta2, tc2, htv2, hr⟩, hts⟩ := hRi
  obtain ⟨tb, to', hta, hrow, hnt⟩ := hr (by omega)
  rw [htv] at htv2
  cases htv2
  subst hta
  obtain ⟨x, hx⟩ : ∃ x, m.ts[i]? = some x := ⟨_, List.getElem?_eq_getElem hlt⟩
  have hxm := List.mem_of_getElem? hx
  have h1 := hrow.one (f := (·.1)) hx
  obtain ⟨xa, xc, hxv, hxr⟩ := hts x hxm
  have hlen : (H5 (m.ts.take (i + 1))).length = (H5 (m.ts.take i)).length + (M5 x.2).length := by rw [B1A hx, List.length_append]
  rw [hlen] at hL
  have hxl := hl x hxm
  have hkl := B7L x.2
  have hRd : ∀ w', KS true (B3 [Res.pt b (.cells #[.pointer (some ⟨m.b, 0, none⟩)] 26)]) a' w' → K4 w' x.1 x.2.length (x.2.flatMap F7) := fun w' hk => by
   rw [hxv]
   by_cases h0 : 0 < x.2.length
   ·obtain ⟨q1, q2, rfl, q4, q5⟩ := hxr h0
    exact Or.inr ⟨q1, q2, xc, rfl, hk.row q5 q4⟩
   ·refine Or.inl ⟨by omega, ?_, xa, xc, by rw [show x.2.length = 0 by omega]⟩
    rw [List.length_eq_zero_iff.1 (show x.2.length = 0 by omega)]; rfl
  rw [hxv] at h1
  (have zz:=trivial;repeat((first|clear zz|with_reducible first|refine A3 ?_|refine A5 fun _=>?_|refine A4 fun _=>?_);try simp(disch:=first|omega|assumption|((repeat(first|exact A1|exact uH|apply A2|apply uT));first|done|fail)|(simp;first|done|omega|fail))[hlt, h1]))
  refine K3 A9p (fun w' hw' => by rw [← hxv]; exact B96 w' x.1 x.2 hxl (hRd w' hw'.ks)) ?_
  rintro _ r rfl
  refine A1y (e := 9) (k := 1) (v := r) (q := (M5 x.2).length) (xs := (M5 x.2).map Value.string) (by (repeat constructor)) fun ra rc hr => ?_
  subst hr
  (have zz:=trivial;repeat((first|clear zz|with_reducible first|refine A3 ?_|refine A5 fun _=>?_|refine A4 fun _=>?_);try simp(disch:=first|omega|assumption|((repeat(first|exact A1|exact uH|apply A2|apply uT));first|done|fail)|(simp;first|done|omega|fail))[]))
  refine A3e (M5 x.2).length (fun n => (H5 (m.ts.take i)).length + n) (fun _ => _) hJ stJ hJi fun n a2 hi2 hJn hRn L2 hL2 => ?_
  by_cases hlt2 : n < (M5 x.2).length
  ·have hg := B5Q hx hlt2
   obtain ⟨hgi, hg'⟩ := List.getElem?_eq_some_iff.1 hg
   have hk : ((M5 x.2).map Value.string)[n]? = some (.string (M5 x.2)[n]) := by rw [List.getElem?_map, List.getElem?_eq_getElem hlt2]; rfl
   obtain ⟨kk, hkk⟩ : ∃ kk, kk = (M5 x.2)[n] := ⟨_, rfl⟩
   rw [← hkk] at hg' hk
   refine A30 (e := 9) (k := 1) (v := .slice ra (M5 x.2).length rc) (q := (M5 x.2).length) (xs := (M5 x.2).map Value.string) (by (repeat constructor)) (by omega) fun g gc hgg => ?_
   cases hgg
   have hkk2 := (List.getElem?_eq_some_iff.1 hk).2
   (have zz:=trivial;repeat((first|clear zz|with_reducible first|refine A3 ?_|refine A5 fun _=>?_|refine A4 fun _=>?_);try simp(disch:=first|omega|assumption|((repeat(first|exact A1|exact uH|apply A2|apply uT));first|done|fail)|(simp;first|done|omega|fail))[hlt2, hk, hkk2]))
   refine A6l hJ hE stJ hy hJn (by simpa using hgi) (by rw [List.getElem_map, hg']; rfl) (fun w3 h => ?_) (fun w3 h => ?_)
   ·(have zz:=trivial;repeat((first|clear zz|with_reducible first|refine A3 ?_|refine A5 fun _=>?_|refine A4 fun _=>?_);try simp(disch:=first|omega|assumption|((repeat(first|exact A1|exact uH|apply A2|apply uT));first|done|fail)|(simp;first|done|omega|fail))[]))
    exact fun w' hw' => hL2 hlt2 w' (stJ _ _ _ _ _ h hw')
   ·(have zz:=trivial;repeat((first|clear zz|with_reducible first|refine A3 ?_|refine A5 fun _=>?_|refine A4 fun _=>?_);try simp(disch:=first|omega|assumption|((repeat(first|exact A1|exact uH|apply A2|apply uT));first|done|fail)|(simp;first|done|omega|fail))[]))
    exact A28 stE h
  ·obtain rfl : n = (M5 x.2).length := by omega
   (have zz:=trivial;repeat((first|clear zz|with_reducible first|refine A3 ?_|refine A5 fun _=>?_|refine A4 fun _=>?_);try simp(disch:=first|omega|assumption|((repeat(first|exact A1|exact uH|apply A2|apply uT));first|done|fail)|(simp;first|done|omega|fail))[]))
   exact fun w' hw' => hL hlt w' (stJ _ _ _ _ _ hJn (hw'.sub (by simp)))
 ·obtain rfl : i = m.ts.length := by omega
  rw [List.take_length] at hJi
  (have zz:=trivial;repeat((first|clear zz|with_reducible first|refine A3 ?_|refine A5 fun _=>?_|refine A4 fun _=>?_);try simp(disch:=first|omega|assumption|((repeat(first|exact A1|exact uH|apply A2|apply uT));first|done|fail)|(simp;first|done|omega|fail))[]))
  exact A3T stJ (by simpa using hJi)
theorem B5z (l : List ByteArray) : ∀ x ∈ l.map B4M, x.length = 1 := by
 intro x hx
 obtain ⟨k, _, rfl⟩ := List.mem_map.1 hx
 rfl
theorem B9Y (w : World) (m : WoH) (hn : m.ts.length ≤ 1000) (hl : ∀ t ∈ m.ts, t.2.length ≤ 1000000) (hk : (H5 m.ts).length ≤ 1000000) (hm : WoAt w m) (htv : K4 w m.tv m.ts.length (m.ts.map (·.1))) (hts : ∀ t ∈ m.ts, K4 w t.1 t.2.length (t.2.flatMap F7)) :
  Fn PR B7 24 #[.pointer (some ⟨m.b, 0, none⟩)] w (Rn [] w (fun r u => u = r) fun r => [.own 9 1 r (H5 m.ts).length ((H5 m.ts).map Value.string)]) := by
 refine A43 (TW.go (κ := false) (S := []) ?_)
 unfold x2
 have hRq : ∀ {A F : List Res} {w1 : World}, LW false [] w (A ++ F) w1 → RqW m F w1 := fun hw => by
  have h8 : w.cell? ⟨m.b, 8, none⟩ = some m.tv := by rw [D8 hm.b]; rfl
  have hb := hw.ks.2.1 _ _ (by simp) rfl hm.b
  refine ⟨⟨by rw [D8 hb]; rfl, hw.notin_old (G5 hm.b) (by simp)⟩, RqS.of htv (fun h => by rw [List.length_map]; exact h) hw, fun t ht => RqS.of (hts t ht) (fun h => by rw [l4]; omega) hw⟩
 (have zz:=trivial;repeat((first|clear zz|with_reducible first|refine A3 ?_|refine A5 fun _=>?_|refine A4 fun _=>?_);try simp(disch:=first|omega|assumption|((repeat(first|exact A1|exact uH|apply A2|apply uT));first|done|fail)|(simp;first|done|omega|fail))[]))
 rename_i bt
 refine K3 (α := Nat) (φ := fun b u => u = B6l b) (Hn := fun b => [.pt b (.cells #[.pointer (some ⟨m.b, 0, none⟩)] 26)]) A38 (fun w' _ => ?_) ?_
 ·refine A5E (TW.go (κ := false) (S := []) ?_)
  unfold u0
  (have zz:=trivial;repeat((first|clear zz|with_reducible first|refine A3 ?_|refine A5 fun _=>?_|refine A4 fun _=>?_);try simp(disch:=first|omega|assumption|((repeat(first|exact A1|exact uH|apply A2|apply uT));first|done|fail)|(simp;first|done|omega|fail))[]))
  rename_i b
  exact B4 b rfl (by (repeat' constructor))
 rintro b _ rfl
 refine A0D 9 1 ?_
 refine TW.perm ?_ (H' := [.pt b (.cells #[.pointer (some ⟨m.b, 0, none⟩)] 26), .own 9 1 (.slice none 0 0) 0 [], .pt bt (.cells #[.slice none 0 0] 51)]) (List.Perm.swap ..)
 refine A03 (B7b b m hn hl) (B5z _) (fun i (x : Option Addr × Nat) => True) (fun i x => [.own 9 1 (.slice x.1 i x.2) i (((H5 m.ts).map Value.string).take i), .pt bt (.cells #[.slice x.1 i x.2] 51)])
  (fun c (y : Unit) => False) (fun y => []) (none, 0) trivial ?_ ?_ ?_ ?_ (by simp)
 ·intro i _ F w1 _ hw
  exact hRq hw
 ·rintro i hi ⟨xa, xc⟩ F _ K' hK _
  have hi' : i < (H5 m.ts).length := by simpa using hi
  have hst : ((H5 m.ts).map Value.string).take (i + 1) = ((H5 m.ts).map Value.string).take i ++ [Value.string (H5 m.ts)[i]] := by
   rw [List.take_add_one, List.getElem?_map, List.getElem?_eq_getElem hi']; rfl
  simp only [hst] at hK
  simp only [List.getElem_map]
  generalize (H5 m.ts)[i] = p at *
  simp only [B4M, VF.app]
  (have zz:=trivial;repeat((first|clear zz|with_reducible first|refine A3 ?_|refine A5 fun _=>?_|refine A4 fun _=>?_|refine C8 fun _=>?_|refine C7 (hK:=fun _=>?_)|refine C9 (hK:=fun _=>?_)|refine D0 (hK:=fun _=>?_)|refine D1 (hK:=fun _=>?_)|refine D2 (hK:=fun _=>?_));try simp(disch:=first|omega|assumption|((repeat(first|exact A1|exact uH|apply A2|apply uT));first|done|fail)|(simp;first|done|omega|fail))[]))
  refine A3q (e := 9) (k := 1) (q := i) (r := 1) (xs := ((H5 m.ts).map Value.string).take i) (news := [Value.string p]) (by (repeat constructor)) (U6.own (by (repeat constructor))) (by decide) (by simp) (by simp) (by simp only [maxLen]; omega) (by omega) fun a' c' => ?_
  (have zz:=trivial;repeat((first|clear zz|with_reducible first|refine A3 ?_|refine A5 fun _=>?_|refine A4 fun _=>?_);try simp(disch:=first|omega|assumption|((repeat(first|exact A1|exact uH|apply A2|apply uT));first|done|fail)|(simp;first|done|omega|fail))[]))
  refine TW.sub (TW.perm (hK (a', c') trivial) ?_) (H' := .own 9 1 (.slice a' (i + 1) c') (i + 1) (((H5 m.ts).map Value.string).take i ++ [Value.string p]) :: .pt bt (.cells #[.slice a' (i + 1) c'] 51) :: F) ?_
  ·exact List.Perm.refl _
  ·((try simp only [List.cons_append, List.nil_append, List.append_assoc]); (repeat (first | exact List.Sublist.refl _ | exact List.nil_sublist _ | with_reducible apply List.Sublist.cons_cons | apply List.Sublist.cons)); first | done | fail)
 ·rintro ⟨xa, xc⟩ _
  (have zz:=trivial;repeat((first|clear zz|with_reducible first|refine A3 ?_|refine A5 fun _=>?_|refine A4 fun _=>?_);try simp(disch:=first|omega|assumption|((repeat(first|exact A1|exact uH|apply A2|apply uT));first|done|fail)|(simp;first|done|omega|fail))[]))
  refine B4 (.slice xa (H5 m.ts).length xc) rfl ?_
  rw [List.take_of_length_le (by simp)]
  exact Sels.cons Sel.here Sels.nil
 ·rintro _ _ h; exact h.elim
end Go.Proofs.YtjobgnabneddjaaGreat
namespace Go.Proofs.YtjobgnabneddjaaGreat
open Go
theorem B5c (w : World) (va vb : Value) (ha : K4 w va 0 []) (hb : K4 w vb 0 []) : Fn PR B7 26 #[va, vb] w (fun u w' => u = .bool true ∧ C3 [] w w') := by
 refine Fn.pure (A1v (TW.go (κ := false) (S := []) ?_))
 unfold d6
 obtain ⟨a, c, rfl, _⟩ := ha.form
 obtain ⟨a2, c2, rfl, _⟩ := hb.form
 (have zz:=trivial;repeat((first|clear zz|with_reducible first|refine A3 ?_|refine A5 fun _=>?_|refine A4 fun _=>?_);try simp(disch:=first|omega|assumption|((repeat(first|exact A1|exact uH|apply A2|apply uT));first|done|fail)|(simp;first|done|omega|fail))[]))
 refine A8Z (α := Unit) 0 (fun _ _ => .bool false) (fun _ _ => []) (fun _ _ => True) () trivial ?_
 rintro i _ hi _ L hL
 obtain rfl : i = 0 := by omega
 (have zz:=trivial;repeat((first|clear zz|with_reducible first|refine A3 ?_|refine A5 fun _=>?_|refine A4 fun _=>?_);try simp(disch:=first|omega|assumption|((repeat(first|exact A1|exact uH|apply A2|apply uT));first|done|fail)|(simp;first|done|omega|fail))[]))
 exact A9 rfl
theorem B6G {l : List EnV} (h : A20 l) : M5 l = [] := by
 have : ∀ (m : List EnV) (i : Nat), (∀ x ∈ m, x = noE) → P8 i m = [] := by
  intro m
  induction m with
  | nil => intro i _; rfl
  | cons x m ih =>
   intro i hx
   have h0 : x = noE := hx x (List.mem_cons_self ..)
   subst h0
   simp only [P8]
   rw [ih _ fun y hy => hx y (List.mem_cons_of_mem _ hy)]
   rfl
 unfold M5 G6
 rw [this l 0 h.1]; rfl
theorem B54 {ts : L9} (h : ∀ t ∈ ts, A20 t.2) : H5 ts = [] := by
 unfold H5
 rw [List.flatMap_eq_nil_iff]
 intro t ht
 exact B6G (h t ht)
def u3 (N i : Nat) : List Int := (List.range N).map fun j => if j < i then (99 : Int) else -1
def unl (N i : Nat) : List Int := (List.range N).map fun j => if j < i then (-1 : Int) else 99
theorem S6 (N i : Nat) : (u3 N i).length = N := by simp [u3]
theorem V2 (N i : Nat) : (unl N i).length = N := by simp [unl]
theorem A3m {N i j : Nat} (h : j < N) : (u3 N i).getD j 0 = if j < i then 99 else -1 := by
 rw [List.getD_eq_getElem?_getD, List.getElem?_eq_getElem (by rw [S6]; exact h)]; simp [u3]
theorem A6T {N i j : Nat} (h : j < N) : (unl N i).getD j 0 = if j < i then -1 else 99 := by
 rw [List.getD_eq_getElem?_getD, List.getElem?_eq_getElem (by rw [V2]; exact h)]; simp [unl]
theorem B8U (N : Nat) : u3 N 0 = Q4 N := A1J (by rw [S6]; simp [Q4]) fun j hj => by
 rw [S6] at hj
 rw [A3m hj, if_neg (by omega), A32 hj]
theorem B8P (N : Nat) : unl N 0 = u3 N N := A1J (by rw [S6, V2]) fun j hj => by
 rw [V2] at hj
 rw [A3m hj, A6T hj, if_neg (by omega), if_pos hj]
theorem B9k (N : Nat) : unl N N = Q4 N := A1J (by rw [V2]; simp [Q4]) fun j hj => by
 rw [V2] at hj
 rw [A6T hj, if_pos hj, A32 hj]
theorem B7P {N i : Nat} (h : i < N) : r4 (u3 N i) (i : Nat) 99 = u3 N (i + 1) := by
 unfold r4
 rw [if_pos (by omega), B3w (by rw [S6]; exact h), if_pos (by rw [A3m h, if_neg (by omega)])]
 refine A1J (by rw [List.length_set, S6, S6]) fun j hj => ?_
 rw [List.length_set, S6] at hj
 rw [B1T (by rw [S6]; exact hj), A3m hj, A3m hj]
 by_cases c : i = j
 ·rw [if_pos c, if_pos (by omega)]
 ·rw [if_neg c]
  by_cases c2 : j < i
  ·rw [if_pos c2, if_pos (by omega)]
  ·rw [if_neg c2, if_neg (by omega)]
theorem B8b {N i : Nat} (h : i < N) : S9 (unl N i) (i : Nat) 99 = unl N (i + 1) := by
 unfold S9
 rw [if_pos (by omega), B3w (by rw [V2]; exact h), if_pos (by rw [A6T h, if_neg (by omega)])]
 refine A1J (by rw [List.length_set, V2, V2]) fun j hj => ?_
 rw [List.length_set, V2] at hj
 rw [B1T (by rw [V2]; exact hj), A6T hj, A6T hj]
 by_cases c : i = j
 ·rw [if_pos c, if_pos (by omega)]
 ·rw [if_neg c]
  by_cases c2 : j < i
  ·rw [if_pos c2, if_pos (by omega)]
  ·rw [if_neg c2, if_neg (by omega)]
theorem B1a {N : Nat} {i : Int} (h : 0 ≤ i ∧ i < N) : j8 (u3 N N) i = 99 := by
 obtain ⟨k, rfl⟩ : ∃ k : Nat, i = k := ⟨i.toNat, by omega⟩
 rw [C0l (by rw [S6]; omega), A3m (by omega), if_pos (by omega)]
theorem B6F {N : Nat} {who : Int} {text : ByteArray} {k : Nat} {j : JW} {x : WS} (h : GoI N who text (min k 3) j x) (ho : x.own = u3 N N) :
  GoI N who text (min (k + 1) 3) (j.step x).1 (j.step x).2.1 ∧ (j.step x).2.1.own = u3 N N := by
 by_cases c : k < 3
 ·rw [Nat.min_eq_left (by omega)] at h
  rw [Nat.min_eq_left (by omega)]
  exact ⟨(A6c h (by omega) fun h => by omega).2, by rw [B1e h.st c]; exact ho⟩
 ·rw [Nat.min_eq_right (by omega)] at h
  rw [Nat.min_eq_right (by omega)]
  have hr : j.ready x = false := by
   unfold JW.ready
   have h1 := h.st
   have h2 := h.q.shard
   rw [ho, B1a h2, decide_eq_true (show j.st = 3 by omega)]
   simp
  rw [A6k hr]
  exact ⟨h, ho⟩
theorem C0H {N : Nat} {who : Int} {text : ByteArray} {j : JW} {x : WS} (h : GoI N who text 3 j x) (ho : x.own = u3 N N) : j.ready x = false := by
 unfold JW.ready
 have h1 := h.st
 have h2 := h.q.shard
 rw [ho, B1a h2, decide_eq_true (show j.st = 3 by omega)]
 simp
def B32 (N : Nat) (who : Int) (text : ByteArray) (k : Nat) (j : JW) (x : WS) : Prop := QI N j x ∧ if k = 0 then j.st = 0 ∧ j.who = who ∧ j.text = text else j.st = 10
theorem B8F {N : Nat} {who : Int} {text : ByteArray} {k : Nat} {j : JW} {x : WS} (h : B32 N who text k j x) (hb : M1 x.c who < 0 ∨ (E9 text).2.2 ≠ 0) : B32 N who text (k + 1) (j.step x).1 (j.step x).2.1 := by
 obtain ⟨hq, h⟩ := h
 refine ⟨hq.step, ?_⟩
 rw [if_neg (by omega)]
 by_cases c : k = 0
 ·rw [if_pos c] at h
  obtain ⟨h1, rfl, rfl⟩ := h
  by_cases c1 : M1 x.c j.who < 0
  ·rw [C1H h1 c1]; rfl
  ·rw [B6V h1 c1 (by rcases hb with hb | hb; exact absurd hb c1; exact hb)]; rfl
 ·rw [if_neg c] at h
  have hr : j.ready x = false := by unfold JW.ready; rw [decide_eq_false (by omega)]; rfl
  rw [A6k hr]; exact h
end Go.Proofs.YtjobgnabneddjaaGreat
namespace Go.Proofs.YtjobgnabneddjaaGreat
open Go
theorem B3Y {κ : Bool} {S : List Nat} {w0 w' : World} {H : List Res} {b : Nat} {m : WoH} {a : WA} {N : Nat} (hw : LW κ S w0 H w') (hs : ∀ r ∈ F9 b m a, r ∈ H) (hc : JwC m a) (hq : QI N a.1 (wx m a)) :
  Fn PR B7 24 #[.pointer (some ⟨m.b, 0, none⟩)] w' (Rn [] w' (fun r u => u = r) fun r => [.own 9 1 r 0 []]) := by
 obtain ⟨j, tv, d, P⟩ := a
 have hts : d.ts.length = N := by have := hq.tl; simpa [wx, WoH.ws, WoH.uz] using this
 have hn := hq.n
 have hem : ∀ t ∈ d.ts, A20 t.2 := fun t ht => hc.emp t (hc.sub t ht)
 have hk : H5 (m.uz d).ts = [] := B54 hem
 have hm : ∀ r ∈ D5 (m.uz d), r ∈ H := fun r hr => hs r (by unfold F9 D9; exact List.mem_cons_of_mem _ (List.mem_cons_of_mem _ hr))
 have h := B9Y w' (m.uz d) (by show d.ts.length ≤ _; omega) (fun t ht => by have := (hem t ht).2; omega) (by rw [hk]; simp) (WoAt.own hw hm) (U6.own (e := 84) (k := 1) (hm _ (by unfold D5; (repeat constructor))) w' hw)
  (fun t ht => A3D (ts := P) (t := t) hw (hs _ (by unfold F9 D9; (repeat constructor))) (hc.sub t ht))
 rw [hk] at h
 exact h
set_option maxHeartbeats 8000000 in
theorem A9U (w : World) (c : CfgV) (who : Int) (text : ByteArray) (n0 : Int) (htm : text.size ≤ 9223372036854775807) :
  Fn PR B7 3 #[c.val, .int .i64 who, .string text, .int .i64 n0] w (fun v w' => v = .bool true ∧ C3 [] w w') := by
 refine Fn.pure (s8 (TW.go (κ := false) (S := []) ?_))
 unfold U7
 simp only [CfgV.val]
 (have zz:=trivial;repeat((first|clear zz|with_reducible first|refine A3 ?_|refine A5 fun _=>?_|refine A4 fun _=>?_);try simp(disch:=first|omega|assumption|((repeat(first|exact A1|exact uH|apply A2|apply uT));first|done|fail)|(simp;first|done|omega|fail))[]))
 rename_i bc
 refine B9 A1d (fun w' _ => B36 w') ?_
 (have zz:=trivial;repeat((first|clear zz|with_reducible first|refine A3 ?_|refine A5 fun _=>?_|refine A4 fun _=>?_);try simp(disch:=first|omega|assumption|((repeat(first|exact A1|exact uH|apply A2|apply uT));first|done|fail)|(simp;first|done|omega|fail))[]))
 refine B9 A1M (fun w' _ => B63 w' c) ?_
 cases hs : A3c c with
 | false => (have zz:=trivial;repeat((first|clear zz|with_reducible first|refine A3 ?_|refine A5 fun _=>?_|refine A4 fun _=>?_);try simp(disch:=first|omega|assumption|((repeat(first|exact A1|exact uH|apply A2|apply uT));first|done|fail)|(simp;first|done|omega|fail))[])); exact A9 rfl
 | true =>
 by_cases htx : text.size ≤ 100
 case neg =>
  have h1 : 100 < (text.size : Int) := by omega
  have h2 : 100 < text.size := by omega
  (have zz:=trivial;repeat((first|clear zz|with_reducible first|refine A3 ?_|refine A5 fun _=>?_|refine A4 fun _=>?_);try simp(disch:=first|omega|assumption|((repeat(first|exact A1|exact uH|apply A2|apply uT));first|done|fail)|(simp;first|done|omega|fail))[h1, h2])); exact A9 rfl
 have h1 : ¬ 100 < (text.size : Int) := by omega
 have h2 : ¬ 100 < text.size := by omega
 by_cases hn1 : n0 < 0
 ·(have zz:=trivial;repeat((first|clear zz|with_reducible first|refine A3 ?_|refine A5 fun _=>?_|refine A4 fun _=>?_);try simp(disch:=first|omega|assumption|((repeat(first|exact A1|exact uH|apply A2|apply uT));first|done|fail)|(simp;first|done|omega|fail))[h1, h2, hn1])); exact A9 rfl
 by_cases hn2 : 20 < n0
 ·(have zz:=trivial;repeat((first|clear zz|with_reducible first|refine A3 ?_|refine A5 fun _=>?_|refine A4 fun _=>?_);try simp(disch:=first|omega|assumption|((repeat(first|exact A1|exact uH|apply A2|apply uT));first|done|fail)|(simp;first|done|omega|fail))[h1, h2, hn1, hn2])); exact A9 rfl
 obtain ⟨n, rfl⟩ : ∃ n : Nat, n0 = n := ⟨n0.toNat, by omega⟩
 (have zz:=trivial;repeat((first|clear zz|with_reducible first|refine A3 ?_|refine A5 fun _=>?_|refine A4 fun _=>?_);try simp(disch:=first|omega|assumption|((repeat(first|exact A1|exact uH|apply A2|apply uT));first|done|fail)|(simp;first|done|omega|fail))[h1, h2, hn1, hn2]))
 refine K3 A4x (fun w' hw' => B3P w' c) ?_
 cases hok : T0 c with
 | false =>
  simp only [Bool.false_eq_true, if_false]
  rintro m v rfl
  (have zz:=trivial;repeat((first|clear zz|with_reducible first|refine A3 ?_|refine A5 fun _=>?_|refine A4 fun _=>?_);try simp(disch:=first|omega|assumption|((repeat(first|exact A1|exact uH|apply A2|apply uT));first|done|fail)|(simp;first|done|omega|fail))[]))
  exact A9 rfl
 | true =>
 simp only [if_true]
 rintro m v ⟨rfl, hmc, hws⟩
 (have zz:=trivial;repeat((first|clear zz|with_reducible first|refine A3 ?_|refine A5 fun _=>?_|refine A4 fun _=>?_);try simp(disch:=first|omega|assumption|((repeat(first|exact A1|exact uH|apply A2|apply uT));first|done|fail)|(simp;first|done|omega|fail))[]))
 refine K3 y5 (fun w' hw' => A7H w' who text) ?_
 rintro b v rfl
 simp only [D5, D7, List.cons_append, List.nil_append]
 (have zz:=trivial;repeat((first|clear zz|with_reducible first|refine A3 ?_|refine A5 fun _=>?_|refine A4 fun _=>?_);try simp(disch:=first|omega|assumption|((repeat(first|exact A1|exact uH|apply A2|apply uT));first|done|fail)|(simp;first|done|omega|fail))[]))
 refine B9 A1Y (fun w' hw' => B4x w' m (hw'.pt (b := m.b) (by unfold E1; (repeat constructor)))) ?_
 have hok2 := hok
 simp only [T0, V5, Bool.and_eq_true, decide_eq_true_eq] at hok2
 obtain ⟨N, hN⟩ : ∃ N : Nat, c.sh = N := ⟨c.sh.toNat, by omega⟩
 have hNt : c.sh.toNat = N := by omega
 have hq0 := QI.new hok who text htx
 rw [hNt, ← hws] at hq0
 have hc0 := JwC.new hws who text
 have hown0 : m.own = u3 N 0 := by
  have : m.own = (N2 c).own := congrArg WS.own hws
  rw [this, B8U]; simp only [N2, hNt, Q4]
 have hcc : m.c = c := congrArg WS.c hws
 clear hmc hws hok
 refine A0D 218 4 ?_
 refine V6 (r := .slice none 0 0) (l := []) (ts := m.ts) (by (repeat' constructor)) ?_
 obtain ⟨P, hP⟩ : ∃ P, P = m.ts ++ [(F6, [])] := ⟨_, rfl⟩
 rw [show ((.slice none 0 0 : Value), ([] : List EnV)) = (F6, []) from rfl, ← hP]
 rw [← hP] at hc0
 clear hP
 refine Sels.tw (rs := .pt bc (.cells (M8 c) 23) :: F9 b m (F1 who text, F6, m.dz, P)) (by simp only [F9, D9, show m.uz m.dz = m from rfl, D5, D7, M8, List.cons_append, List.nil_append]; (repeat' constructor)) ?_
 (have zz:=trivial;repeat((first|clear zz|with_reducible first|refine A3 ?_|refine A5 fun _=>?_|refine A4 fun _=>?_);try simp(disch:=first|omega|assumption|((repeat(first|exact A1|exact uH|apply A2|apply uT));first|done|fail)|(simp;first|done|omega|fail))[]))
 refine m7 (α := WoZ) N (fun i d => .pt bc (.cells (M8 c) 23) :: F9 b m (F1 who text, F6, d, P)) (fun i d => d.own = u3 N i ∧ d.cells = m.cells ∧ d.ts = m.ts) m.dz ⟨hown0, rfl, rfl⟩ ?_
 rintro i d hiN ⟨hd1, hd2, hd3⟩ L hL
 by_cases hlt : i < N
 ·have hlt' : ((i : Nat) : Int) < c.sh := by omega
  have hol : (m.uz d).own.length ≤ 1024 := by show d.own.length ≤ _; rw [hd1, S6]; omega
  simp only [M8]
  (have zz:=trivial;repeat((first|clear zz|with_reducible first|refine A3 ?_|refine A5 fun _=>?_|refine A4 fun _=>?_);try simp(disch:=first|omega|assumption|((repeat(first|exact A1|exact uH|apply A2|apply uT));first|done|fail)|(simp;first|done|omega|fail))[hlt, hlt']))
  simp only [F9, D9, D5, D7, E1, List.cons_append, List.nil_append]
  rw [show m.b = (m.uz d).b from rfl]
  (have zz:=trivial;repeat((first|clear zz|with_reducible first|refine A3 ?_|refine A5 fun _=>?_|refine A4 fun _=>?_);try simp(disch:=first|omega|assumption|((repeat(first|exact A1|exact uH|apply A2|apply uT));first|done|fail)|(simp;first|done|omega|fail))[hlt, hlt']))
  refine C6 (Hc := D3 (m.uz d).bc (m.uz d).cn (m.uz d).cv (m.uz d).ov (m.uz d).cells (m.uz d).own) q9 (fun w' _ hs => B1d w' (m.uz d).bc (m.uz d).cn (m.uz d).cv (m.uz d).ov (m.uz d).cells (m.uz d).own (i : Nat) 99 hol hs) (by unfold D3; (repeat' constructor)) ?_
  rintro n1 v ⟨r, rfl⟩
  simp only [D3, List.cons_append, List.nil_append]
  (have zz:=trivial;repeat((first|clear zz|with_reducible first|refine A3 ?_|refine A5 fun _=>?_|refine A4 fun _=>?_);try simp(disch:=first|omega|assumption|((repeat(first|exact A1|exact uH|apply A2|apply uT));first|done|fail)|(simp;first|done|omega|fail))[]))
  refine Sels.tw (rs := .pt bc (.cells (M8 c) 23) :: F9 b m (F1 who text, F6, { d with cn := n1, own := r4 d.own (i : Nat) 99 }, P)) (by simp only [F9, D9, D5, D7, E1, WoH.uz, M8, List.cons_append, List.nil_append]; (repeat' constructor)) (hL hlt _ ⟨by simp only; rw [hd1, B7P hlt], hd2, hd3⟩)
 obtain rfl : N = i := by omega
 have hshN : ¬ ((N : Nat) : Int) < c.sh := by omega
 have hc1 : JwC m (F1 who text, F6, d, P) := ⟨hc0.emp, fun t ht => hc0.sub t (show t ∈ m.ts by rw [← hd3]; exact ht), hc0.tb⟩
 have hx1 : (m.uz d).ws = { m.ws with own := u3 N N } := by
  show (⟨m.c, d.cells, d.own, m.ls.map SlH.sp, m.keep, d.ts.map (·.2), m.pl, m.now⟩ : WS) = ⟨m.c, m.cells, u3 N N, m.ls.map SlH.sp, m.keep, m.ts.map (·.2), m.pl, m.now⟩
  rw [hd1, hd2, hd3]
 have hq1 : QI N (F1 who text) (wx m (F1 who text, F6, d, P)) := by
  show QI N _ (m.uz d).ws
  rw [hx1]; exact hq0.own _ (S6 N N)
 have ho1 : (wx m (F1 who text, F6, d, P)).own = u3 N N := by show (m.uz d).ws.own = _; rw [hx1]
 clear hL hlt hq0 hc0 hd1 hd2 hd3 hown0 hx1
 simp only [M8]
 (have zz:=trivial;repeat((first|clear zz|with_reducible first|refine A3 ?_|refine A5 fun _=>?_|refine A4 fun _=>?_);try simp(disch:=first|omega|assumption|((repeat(first|exact A1|exact uH|apply A2|apply uT));first|done|fail)|(simp;first|done|omega|fail))[hshN]))
 have hpc : ∀ a : WA, (wx m a).c = c := fun a => hcc
 have hpin : M1 c who < 0 ↔ (who < 1 ∨ c.wk < who) := by unfold M1; split <;> omega
 have h3n : (3 : Int) + (n : Nat) = ((3 + n : Nat) : Int) := by omega
 by_cases hbad : M1 c who < 0 ∨ (E9 text).2.2 ≠ 0
 ·have hb0 : B32 N who text 0 (F1 who text) (wx m (F1 who text, F6, d, P)) := ⟨hq1, by rw [if_pos rfl]; exact ⟨rfl, rfl, rfl⟩⟩
  refine m7 (α := WA) (3 + n) (fun k a => .pt bc (.cells (M8 c) 23) :: F9 b m a) (fun k a => JwC m a ∧ B32 N who text k a.1 (wx m a)) (F1 who text, F6, d, P) ⟨hc1, hb0⟩ ?_
  rintro k a hk ⟨hc, hb⟩ L hL
  by_cases hlt : k < 3 + n
  ·have hlt' : ((k : Nat) : Int) < 3 + (n : Nat) := by omega
   (have zz:=trivial;repeat((first|clear zz|with_reducible first|refine A3 ?_|refine A5 fun _=>?_|refine A4 fun _=>?_);try simp(disch:=first|omega|assumption|((repeat(first|exact A1|exact uH|apply A2|apply uT));first|done|fail)|(simp;first|done|omega|fail))[hlt']))
   refine C6 (Hc := F9 b m a) (Hk := [.pt bc (.cells (M8 c) 23)]) N3 (fun w' hw' hs => m8 w' b m a hc hb.1 hs) (A1S _ _) ?_
   rintro a' v ⟨rfl, k1, k2, k3, k4⟩
   refine TW.perm ?_ List.perm_append_comm
   simp only [List.cons_append, List.nil_append]
   (have zz:=trivial;repeat((first|clear zz|with_reducible first|refine A3 ?_|refine A5 fun _=>?_|refine A4 fun _=>?_);try simp(disch:=first|omega|assumption|((repeat(first|exact A1|exact uH|apply A2|apply uT));first|done|fail)|(simp;first|done|omega|fail))[]))
   exact hL hlt a' ⟨k3, by rw [k1, k2]; exact B8F hb (by rw [hpc]; exact hbad)⟩
  obtain rfl : k = 3 + n := by omega
  clear hL hlt
  have hst : a.1.st = 10 := by have := hb.2; rw [if_neg (by omega)] at this; exact this
  have hr : a.1.ready (wx m a) = false := by unfold JW.ready; rw [decide_eq_false (by omega)]; rfl
  have hS1 := fun (w' : World) (g : bl w' b = some (.cells (F4 a.1 a.2.1) 130 (0, 0))) => n7 w' b a.1 a.2.1 g
  rw [hst] at hS1
  have hR := fun (w' : World) (H : List Res) (hw' : LW false [] w H w') (hs : ∀ r ∈ F9 b m a, r ∈ H) => f8 w w' b m a hw' hs
  rw [hr] at hR
  have hge' : ¬ ((3 + n : Nat) : Int) < 3 + (n : Nat) := by omega
  obtain ⟨q3, hq3⟩ : ∃ q3 : Int, q3 = ((3 + n : Nat) : Int) := ⟨_, rfl⟩
  rw [← hq3] at hge' ⊢
  (have zz:=trivial;repeat((first|clear zz|with_reducible first|refine A3 ?_|refine A5 fun _=>?_|refine A4 fun _=>?_);try simp(disch:=first|omega|assumption|((repeat(first|exact A1|exact uH|apply A2|apply uT));first|done|fail)|(simp;first|done|omega|fail))[hge']))
  refine B9 k8 (fun w' hw' => y7 w' text (by omega)) ?_
  simp only [M8]
  by_cases c2 : (E9 text).2.2 = 0
  ·have hp : who < 1 ∨ c.wk < who := hpin.1 (hbad.resolve_right (by simpa using c2))
   by_cases c3 : who < 1
   ·(have zz:=trivial;repeat((first|clear zz|with_reducible first|refine A3 ?_|refine A5 fun _=>?_|refine A4 fun _=>?_);try simp(disch:=first|omega|assumption|((repeat(first|exact A1|exact uH|apply A2|apply uT));first|done|fail)|(simp;first|done|omega|fail))[packet.val, M3, c2, c3]))
    refine B9 H4 (fun w' hw' => hS1 w' (hw'.pt (b := b) (by unfold F9 D9 E8; simp))) ?_
    (have zz:=trivial;repeat((first|clear zz|with_reducible first|refine A3 ?_|refine A5 fun _=>?_|refine A4 fun _=>?_);try simp(disch:=first|omega|assumption|((repeat(first|exact A1|exact uH|apply A2|apply uT));first|done|fail)|(simp;first|done|omega|fail))[]))
    refine B9 F3 (fun w' hw' => hR w' _ hw' (fun r hr => List.mem_cons_of_mem _ (List.mem_cons_of_mem _ hr))) ?_
    (have zz:=trivial;repeat((first|clear zz|with_reducible first|refine A3 ?_|refine A5 fun _=>?_|refine A4 fun _=>?_);try simp(disch:=first|omega|assumption|((repeat(first|exact A1|exact uH|apply A2|apply uT));first|done|fail)|(simp;first|done|omega|fail))[]))
    exact A9 rfl
   ·have c4 : c.wk < who := by omega
    (have zz:=trivial;repeat((first|clear zz|with_reducible first|refine A3 ?_|refine A5 fun _=>?_|refine A4 fun _=>?_);try simp(disch:=first|omega|assumption|((repeat(first|exact A1|exact uH|apply A2|apply uT));first|done|fail)|(simp;first|done|omega|fail))[packet.val, M3, c2, c3, c4]))
    refine B9 H4 (fun w' hw' => hS1 w' (hw'.pt (b := b) (by unfold F9 D9 E8; simp))) ?_
    (have zz:=trivial;repeat((first|clear zz|with_reducible first|refine A3 ?_|refine A5 fun _=>?_|refine A4 fun _=>?_);try simp(disch:=first|omega|assumption|((repeat(first|exact A1|exact uH|apply A2|apply uT));first|done|fail)|(simp;first|done|omega|fail))[]))
    refine B9 F3 (fun w' hw' => hR w' _ hw' (fun r hr => List.mem_cons_of_mem _ (List.mem_cons_of_mem _ hr))) ?_
    (have zz:=trivial;repeat((first|clear zz|with_reducible first|refine A3 ?_|refine A5 fun _=>?_|refine A4 fun _=>?_);try simp(disch:=first|omega|assumption|((repeat(first|exact A1|exact uH|apply A2|apply uT));first|done|fail)|(simp;first|done|omega|fail))[]))
    exact A9 rfl
  ·(have zz:=trivial;repeat((first|clear zz|with_reducible first|refine A3 ?_|refine A5 fun _=>?_|refine A4 fun _=>?_);try simp(disch:=first|omega|assumption|((repeat(first|exact A1|exact uH|apply A2|apply uT));first|done|fail)|(simp;first|done|omega|fail))[packet.val, M3, c2]))
   refine B9 H4 (fun w' hw' => hS1 w' (hw'.pt (b := b) (by unfold F9 D9 E8; simp))) ?_
   (have zz:=trivial;repeat((first|clear zz|with_reducible first|refine A3 ?_|refine A5 fun _=>?_|refine A4 fun _=>?_);try simp(disch:=first|omega|assumption|((repeat(first|exact A1|exact uH|apply A2|apply uT));first|done|fail)|(simp;first|done|omega|fail))[]))
   refine B9 F3 (fun w' hw' => hR w' _ hw' (fun r hr => List.mem_cons_of_mem _ (List.mem_cons_of_mem _ hr))) ?_
   (have zz:=trivial;repeat((first|clear zz|with_reducible first|refine A3 ?_|refine A5 fun _=>?_|refine A4 fun _=>?_);try simp(disch:=first|omega|assumption|((repeat(first|exact A1|exact uH|apply A2|apply uT));first|done|fail)|(simp;first|done|omega|fail))[]))
   exact A9 rfl
 have c2 : (E9 text).2.2 = 0 := Decidable.byContradiction fun h => hbad (Or.inr h)
 have c3 : ¬ who < 1 := fun h => hbad (Or.inl (hpin.2 (Or.inl h)))
 have c4 : ¬ c.wk < who := fun h => hbad (Or.inl (hpin.2 (Or.inr h)))
 have hpin0 : 0 ≤ M1 c who := by by_cases h : M1 c who < 0; exact absurd (Or.inl h) hbad; omega
 have hg0 : GoI N who text (min 0 3) (F1 who text) (wx m (F1 who text, F6, d, P)) := ⟨hq1, rfl, rfl, by rw [hpc]; exact hpin0, c2, rfl, fun h => by omega, fun h => by omega, fun h => by omega⟩
 clear hbad hpin hq1
 refine m7 (α := WA) (3 + n) (fun k a => .pt bc (.cells (M8 c) 23) :: F9 b m a) (fun k a => JwC m a ∧ GoI N who text (min k 3) a.1 (wx m a) ∧ (wx m a).own = u3 N N) (F1 who text, F6, d, P) ⟨hc1, hg0, ho1⟩ ?_
 rintro k a hk ⟨hc, hg, ho⟩ L hL
 by_cases hlt : k < 3 + n
 ·have hlt' : ((k : Nat) : Int) < 3 + (n : Nat) := by omega
  (have zz:=trivial;repeat((first|clear zz|with_reducible first|refine A3 ?_|refine A5 fun _=>?_|refine A4 fun _=>?_);try simp(disch:=first|omega|assumption|((repeat(first|exact A1|exact uH|apply A2|apply uT));first|done|fail)|(simp;first|done|omega|fail))[hlt']))
  refine C6 (Hc := F9 b m a) (Hk := [.pt bc (.cells (M8 c) 23)]) N3 (fun w' hw' hs => m8 w' b m a hc hg.q hs) (A1S _ _) ?_
  rintro a' v ⟨rfl, k1, k2, k3, k4⟩
  refine TW.perm ?_ List.perm_append_comm
  simp only [List.cons_append, List.nil_append]
  (have zz:=trivial;repeat((first|clear zz|with_reducible first|refine A3 ?_|refine A5 fun _=>?_|refine A4 fun _=>?_);try simp(disch:=first|omega|assumption|((repeat(first|exact A1|exact uH|apply A2|apply uT));first|done|fail)|(simp;first|done|omega|fail))[]))
  obtain ⟨w1, w2⟩ := B6F hg ho
  exact hL hlt a' ⟨k3, by rw [k1, k2]; exact w1, by rw [k2]; exact w2⟩
 obtain rfl : k = 3 + n := by omega
 clear hL hlt hg0 hc1 ho1
 rw [Nat.min_eq_right (by omega)] at hg
 have hr := C0H hg ho
 have hst : a.1.st = 3 := hg.st
 have hS1 := fun (w' : World) (g : bl w' b = some (.cells (F4 a.1 a.2.1) 130 (0, 0))) => n7 w' b a.1 a.2.1 g
 rw [hst] at hS1
 have hR := fun (w' : World) (H : List Res) (hw' : LW false [] w H w') (hs : ∀ r ∈ F9 b m a, r ∈ H) => f8 w w' b m a hw' hs
 rw [hr] at hR
 have hge' : ¬ ((3 + n : Nat) : Int) < 3 + (n : Nat) := by omega
 obtain ⟨q3, hq3⟩ : ∃ q3 : Int, q3 = ((3 + n : Nat) : Int) := ⟨_, rfl⟩
 rw [← hq3] at hge' ⊢
 (have zz:=trivial;repeat((first|clear zz|with_reducible first|refine A3 ?_|refine A5 fun _=>?_|refine A4 fun _=>?_);try simp(disch:=first|omega|assumption|((repeat(first|exact A1|exact uH|apply A2|apply uT));first|done|fail)|(simp;first|done|omega|fail))[hge']))
 refine B9 k8 (fun w' hw' => y7 w' text (by omega)) ?_
 simp only [M8]
 (have zz:=trivial;repeat((first|clear zz|with_reducible first|refine A3 ?_|refine A5 fun _=>?_|refine A4 fun _=>?_);try simp(disch:=first|omega|assumption|((repeat(first|exact A1|exact uH|apply A2|apply uT));first|done|fail)|(simp;first|done|omega|fail))[packet.val, M3, c2, c3, c4]))
 refine B9 H4 (fun w' hw' => hS1 w' (hw'.pt (b := b) (by unfold F9 D9 E8; simp))) ?_
 (have zz:=trivial;repeat((first|clear zz|with_reducible first|refine A3 ?_|refine A5 fun _=>?_|refine A4 fun _=>?_);try simp(disch:=first|omega|assumption|((repeat(first|exact A1|exact uH|apply A2|apply uT));first|done|fail)|(simp;first|done|omega|fail))[]))
 refine B9 F3 (fun w' hw' => hR w' _ hw' (fun r hr => List.mem_cons_of_mem _ (List.mem_cons_of_mem _ hr))) ?_
 (have zz:=trivial;repeat((first|clear zz|with_reducible first|refine A3 ?_|refine A5 fun _=>?_|refine A4 fun _=>?_);try simp(disch:=first|omega|assumption|((repeat(first|exact A1|exact uH|apply A2|apply uT));first|done|fail)|(simp;first|done|omega|fail))[]))
 refine K3 r8 (fun w' hw' => B3Y hw' (fun r hr => List.mem_cons_of_mem _ (List.mem_cons_of_mem _ hr)) hc hg.q) ?_
 rintro _ r rfl
 refine A1y (e := 9) (k := 1) (v := r) (q := 0) (xs := []) (by simp) fun ra rc hrr => ?_
 subst hrr
 (have zz:=trivial;repeat((first|clear zz|with_reducible first|refine A3 ?_|refine A5 fun _=>?_|refine A4 fun _=>?_);try simp(disch:=first|omega|assumption|((repeat(first|exact A1|exact uH|apply A2|apply uT));first|done|fail)|(simp;first|done|omega|fail))[]))
 clear hR hS1
 obtain ⟨j, tv, d0, P2⟩ := a
 refine TW.sub (H' := .pt bc (.cells (M8 c) 23) :: F9 b m (j, tv, d0, P2)) ?_ (by simp only [M8]; ((try simp only [List.cons_append, List.nil_append, List.append_assoc]); (repeat (first | exact List.Sublist.refl _ | exact List.nil_sublist _ | with_reducible apply List.Sublist.cons_cons | apply List.Sublist.cons)); first | done | fail))
 have hown : d0.own = unl N 0 := by rw [B8P]; exact ho
 refine m7 (α := WoZ) N (fun i d => .pt bc (.cells (M8 c) 23) :: F9 b m (j, tv, d, P2)) (fun i d => d.own = unl N i ∧ d.cells = d0.cells ∧ d.ts = d0.ts) d0 ⟨hown, rfl, rfl⟩ ?_
 rintro i d hiN ⟨hd1, hd2, hd3⟩ L hL
 by_cases hlt : i < N
 ·have hlt' : ((i : Nat) : Int) < c.sh := by omega
  have hol : (m.uz d).own.length ≤ 1024 := by show d.own.length ≤ _; rw [hd1, V2]; omega
  simp only [M8]
  (have zz:=trivial;repeat((first|clear zz|with_reducible first|refine A3 ?_|refine A5 fun _=>?_|refine A4 fun _=>?_);try simp(disch:=first|omega|assumption|((repeat(first|exact A1|exact uH|apply A2|apply uT));first|done|fail)|(simp;first|done|omega|fail))[hlt, hlt']))
  simp only [F9, D9, D5, D7, E1, List.cons_append, List.nil_append]
  rw [show m.b = (m.uz d).b from rfl]
  (have zz:=trivial;repeat((first|clear zz|with_reducible first|refine A3 ?_|refine A5 fun _=>?_|refine A4 fun _=>?_);try simp(disch:=first|omega|assumption|((repeat(first|exact A1|exact uH|apply A2|apply uT));first|done|fail)|(simp;first|done|omega|fail))[hlt, hlt']))
  refine C6 (Hc := D3 (m.uz d).bc (m.uz d).cn (m.uz d).cv (m.uz d).ov (m.uz d).cells (m.uz d).own) f5 (fun w' _ hs => A8M w' (m.uz d).bc (m.uz d).cn (m.uz d).cv (m.uz d).ov (m.uz d).cells (m.uz d).own (i : Nat) 99 hol hs) (by unfold D3; (repeat' constructor)) ?_
  rintro n1 v ⟨r, rfl⟩
  simp only [D3, List.cons_append, List.nil_append]
  (have zz:=trivial;repeat((first|clear zz|with_reducible first|refine A3 ?_|refine A5 fun _=>?_|refine A4 fun _=>?_);try simp(disch:=first|omega|assumption|((repeat(first|exact A1|exact uH|apply A2|apply uT));first|done|fail)|(simp;first|done|omega|fail))[]))
  refine Sels.tw (rs := .pt bc (.cells (M8 c) 23) :: F9 b m (j, tv, { d with cn := n1, own := S9 d.own (i : Nat) 99 }, P2)) (by simp only [F9, D9, D5, D7, E1, WoH.uz, M8, List.cons_append, List.nil_append]; (repeat' constructor)) (hL hlt _ ⟨by simp only; rw [hd1, B8b hlt], hd2, hd3⟩)
 obtain rfl : N = i := by omega
 have hc2 : JwC m (j, tv, d, P2) := ⟨hc.emp, fun t ht => hc.sub t (show t ∈ d0.ts by rw [← hd3]; exact ht), hc.tb⟩
 have hx2 : wx m (j, tv, d, P2) = { wx m (j, tv, d0, P2) with own := Q4 N } := by
  show (⟨m.c, d.cells, d.own, m.ls.map SlH.sp, m.keep, d.ts.map (·.2), m.pl, m.now⟩ : WS) = ⟨m.c, d0.cells, Q4 N, m.ls.map SlH.sp, m.keep, d0.ts.map (·.2), m.pl, m.now⟩
  rw [hd1, hd2, hd3, B9k]
 have hg2 : GoI N who text 3 j (wx m (j, tv, d, P2)) := by
  rw [hx2]
  exact ⟨hg.q.own _ (by simp [Q4]), hg.ewho, hg.etext, hg.pin, hg.good, hg.st, hg.ep, hg.slot, hg.ans⟩
 have ho2 : (wx m (j, tv, d, P2)).own = Q4 N := by rw [hx2]
 have hfree : ∀ i, j8 (Q4 N) i = -1 := fun i => B1U (fun j hj => A32 (by simpa [Q4] using hj)) i
 clear hL hlt hc hg ho hd1 hd2 hd3 hown hx2 hr hst
 obtain ⟨hr, _⟩ := A6c hg2 (by omega) fun _ => by rw [ho2, hfree]; omega
 have hR := fun (w' : World) (H : List Res) (hw' : LW false [] w H w') (hs : ∀ r ∈ F9 b m (j, tv, d, P2), r ∈ H) => f8 w w' b m (j, tv, d, P2) hw' hs
 rw [hr] at hR
 simp only [M8]
 (have zz:=trivial;repeat((first|clear zz|with_reducible first|refine A3 ?_|refine A5 fun _=>?_|refine A4 fun _=>?_);try simp(disch:=first|omega|assumption|((repeat(first|exact A1|exact uH|apply A2|apply uT));first|done|fail)|(simp;first|done|omega|fail))[hshN]))
 refine B9 F3 (fun w' hw' => hR w' _ hw' (fun r hr => List.mem_cons_of_mem _ hr)) ?_
 (have zz:=trivial;repeat((first|clear zz|with_reducible first|refine A3 ?_|refine A5 fun _=>?_|refine A4 fun _=>?_);try simp(disch:=first|omega|assumption|((repeat(first|exact A1|exact uH|apply A2|apply uT));first|done|fail)|(simp;first|done|omega|fail))[]))
 refine m7 (α := WA) 7 (fun k a => .pt bc (.cells (M8 c) 23) :: F9 b m a) (fun k a => JwC m a ∧ GoI N who text (3 + k) a.1 (wx m a) ∧ (k = 0 → (wx m a).own = Q4 N)) (j, tv, d, P2) ⟨hc2, hg2, fun _ => ho2⟩ ?_
 rintro k a hk ⟨hc, hg, ho⟩ L hL
 by_cases hlt : k < 7
 ·have hlt' : ((k : Nat) : Int) < 7 := by omega
  (have zz:=trivial;repeat((first|clear zz|with_reducible first|refine A3 ?_|refine A5 fun _=>?_|refine A4 fun _=>?_);try simp(disch:=first|omega|assumption|((repeat(first|exact A1|exact uH|apply A2|apply uT));first|done|fail)|(simp;first|done|omega|fail))[hlt, hlt']))
  refine C6 (Hc := F9 b m a) (Hk := [.pt bc (.cells (M8 c) 23)]) N3 (fun w' hw' hs => m8 w' b m a hc hg.q hs) (A1S _ _) ?_
  rintro a' v ⟨rfl, k1, k2, k3, k4⟩
  refine TW.perm ?_ List.perm_append_comm
  simp only [List.cons_append, List.nil_append]
  (have zz:=trivial;repeat((first|clear zz|with_reducible first|refine A3 ?_|refine A5 fun _=>?_|refine A4 fun _=>?_);try simp(disch:=first|omega|assumption|((repeat(first|exact A1|exact uH|apply A2|apply uT));first|done|fail)|(simp;first|done|omega|fail))[]))
  obtain ⟨_, w1⟩ := A6c hg (by omega) fun h => by rw [ho (by omega), hfree]; omega
  exact hL hlt a' ⟨k3, by rw [k1, k2]; exact w1, fun h => by omega⟩
 obtain rfl : k = 7 := by omega
 clear hL hlt hR
 have hst : a.1.st = 10 := hg.st
 have hans := hg.ans (by omega)
 have hS1 := fun (w' : World) (g : bl w' b = some (.cells (F4 a.1 a.2.1) 130 (0, 0))) => n7 w' b a.1 a.2.1 g
 have hA1 := fun (w' : World) (g : bl w' b = some (.cells (F4 a.1 a.2.1) 130 (0, 0))) => A2s w' b a.1 a.2.1 g
 rw [hst] at hS1
 rw [hans] at hA1
 (have zz:=trivial;repeat((first|clear zz|with_reducible first|refine A3 ?_|refine A5 fun _=>?_|refine A4 fun _=>?_);try simp(disch:=first|omega|assumption|((repeat(first|exact A1|exact uH|apply A2|apply uT));first|done|fail)|(simp;first|done|omega|fail))[]))
 refine K3 r8 (fun w' hw' => B3Y hw' (fun r hr => List.mem_cons_of_mem _ hr) hc hg.q) ?_
 rintro _ r rfl
 refine B9 A1b (fun w' hw' => B5c w' r (.slice none 0 0) (U6.own (e := 9) (k := 1) (by simp) w' hw') (Or.inl ⟨rfl, rfl, none, 0, rfl⟩)) ?_
 (have zz:=trivial;repeat((first|clear zz|with_reducible first|refine A3 ?_|refine A5 fun _=>?_|refine A4 fun _=>?_);try simp(disch:=first|omega|assumption|((repeat(first|exact A1|exact uH|apply A2|apply uT));first|done|fail)|(simp;first|done|omega|fail))[]))
 refine B9 H4 (fun w' hw' => hS1 w' (hw'.pt (b := b) (by unfold F9 D9 E8; simp))) ?_
 (have zz:=trivial;repeat((first|clear zz|with_reducible first|refine A3 ?_|refine A5 fun _=>?_|refine A4 fun _=>?_);try simp(disch:=first|omega|assumption|((repeat(first|exact A1|exact uH|apply A2|apply uT));first|done|fail)|(simp;first|done|omega|fail))[]))
 refine B9 V4 (fun w' hw' => hA1 w' (hw'.pt (b := b) (by unfold F9 D9 E8; simp))) ?_
 simp only [AnsV.val]
 (have zz:=trivial;repeat((first|clear zz|with_reducible first|refine A3 ?_|refine A5 fun _=>?_|refine A4 fun _=>?_);try simp(disch:=first|omega|assumption|((repeat(first|exact A1|exact uH|apply A2|apply uT));first|done|fail)|(simp;first|done|omega|fail))[B5H (show #[Value.int .i64 11, .int .i64 0, .bool false, .int .i64 0][0]? = some (Value.int .i64 11) from rfl)]))
 exact A9 rfl
end Go.Proofs.YtjobgnabneddjaaGreat
