/- The proof of a given statement, a part of it (Atm Cells Cells2 ShEpoch Ep Ep2 ShSlots Slo Slo2 Wor Wor2 Wor3 Con Con2 Con3 Con4 Con5 Con6 Con7 ShL20 Upd Upd2 RunG Job Jw1 Jw2 UpdR BusL CurL Jw3 Jw4 Jw5 LockL LockM JwQ WsN JwK Works19 Tab Tab2 Model8 Tab3 ShR15 ShR16 ShR18 ShR12 ShR11 Rf11 ShR02 Rf02 Rf11b Rf12 ShR08 ShR09 ShR10 ShR01 Rf01 Without Rf09 Makes). No condition but what each lemma says. -/
import Derived.Conc.AtomicLaws2
import Derived.Test.YtjobgnabneddjaaGreatN16
set_option linter.unusedVariables false
set_option linter.unusedSimpArgs false
namespace Go.Proofs.YtjobgnabneddjaaGreat
open Go
theorem B8W {w : World} {b o : Nat} {c : Array Value} {T : TypeId} (v : Value) (hb : bl w b = some (.cells c T (0, 0))) : w.setCell ⟨b, o, none⟩ v = World.putb w b (.cells (c.setIfInBounds o v) T (0, 0)) := by
 unfold World.setCell World.putb
 congr 1
 apply Array.ext_getElem?
 intro r
 rw [Array.getElem?_modify]
 by_cases hr : b = r
 ·subst hr
  have : w.heap[b]? = some (.cells c T (0, 0)) := hb
  rw [Array.getElem?_setIfInBounds_self_of_lt (show b < w.heap.size from L0 hb)]
  simp [this]
 ·rw [Array.getElem?_setIfInBounds_ne hr]; simp [hr]
theorem C3e {w : World} {b o : Nat} {c : Array Value} {T : TypeId} (hb : bl w b = some (.cells c T (0, 0))) : w.frozen? ⟨b, o, none⟩ = false := by
 have : w.heap[b]? = some (.cells c T (0, 0)) := hb
 simp [World.frozen?, this]
theorem B9K {w : World} {b o : Nat} {c : Array Value} {T : TypeId} {x d : Int} (hb : bl w b = some (.cells c T (0, 0))) (ho : c[o]? = some (.int .i64 x)) :
  (callFunc 234 #[.pointer (some ⟨b, o, none⟩), .int .i64 d]).run PR w = .ok (.value (.int .i64 (IntKind.i64.wrap (x + d)))) (World.putb w b (.cells (c.setIfInBounds o (.int .i64 (IntKind.i64.wrap (x + d)))) T (0, 0))) := by
 have h1 : Extern.findNext Tryz.f234 = none := by kernel_rfl
 have h2 : Extern.find Tryz.f234 = some (Extern.Atomic.update (Op.intArith .add) .i64 true) := by kernel_rfl
 have h3 : (Tryz.f234.name == "runtime.NumGoroutine") = false := by kernel_rfl
 have h4 : Tryz.f234.body.isNone = true := by kernel_rfl
 have h5 : PR.funcs[234]? = some Tryz.f234 := Tryz.func234
 have hc : w.cell? ⟨b, o, none⟩ = some (.int .i64 x) := by rw [F3 hb]; exact ho
 have hf := C3e (o := o) hb
 simp only [callFunc, Sem.run_bind, run_program, Result.andThen_ok, h5, h3, h4, Bool.false_eq_true, if_false, if_true, h1, h2]
 have := Conc.run_add_entry (P := PR) (ad := ⟨b, o, none⟩) (k := .i64) (v := x) (d := d) hc hf
 rw [B8W _ hb] at this
 have hm : (mark (Mark.extern 234)).run PR w = .ok () w := rfl
 rw [hm, Result.andThen_ok, this]
 rfl
theorem C2s {κ : Bool} {X : Nat → Prop} {S : List Nat} {w0 : World} {H H' : List Res} {K : Value → WP} {b o : Nat} {c : Array Value} {T : TypeId} {x d : Int} (ho : c[o]? = some (.int .i64 x))
  (hu : Up (.pt b (.cells c T (0, 0))) (.pt b (.cells (c.setIfInBounds o (.int .i64 (IntKind.i64.wrap (x + d)))) T (0, 0))) H H')
  (hK : TW κ S w0 H' (K (.int .i64 (IntKind.i64.wrap (x + d))))) : TW κ S w0 H (B5 PR X 234 [.pointer (some ⟨b, o, none⟩), .int .i64 d] K) := fun w hw => by
 have hm : Res.pt b (.cells c T (0, 0)) ∈ H := by obtain ⟨A, B, rfl, _⟩ := hu.parts; simp
 have hb := hw.pt hm
 refine Or.inr ⟨_, _, B9K hb ho, Sk.putb _ hb, hK _ (hw.up hu ⟨KS.putb hb (by simp [Res.foot]), ?_, ?_, by simp⟩)⟩
 ·simp only [List.mem_singleton, forall_eq, Res.holds]; exact ⟨T0 (L0 hb), rfl⟩
 ·simp only [List.mem_singleton, forall_eq, Res.foot]; exact ⟨Or.inl (by simp), by have := L0 hb; simpa using this⟩
end Go.Proofs.YtjobgnabneddjaaGreat
namespace Go.Proofs.YtjobgnabneddjaaGreat
open Go
def G5 (l : List Int) : List Value := l.map fun n => .int .i64 n
@[simp] theorem D48 (l : List Int) : (G5 l).length = l.length := by unfold G5; rw [List.length_map]
theorem A2q {l : List Int} {i : Nat} (h : i < l.length) : (G5 l)[i]? = some (.int .i64 (l.getD i 0)) := by
 unfold G5; rw [List.getElem?_map, List.getElem?_eq_getElem h, List.getD_eq_getElem?_getD, List.getElem?_eq_getElem h]; rfl
theorem A2w {l : List Int} {i : Nat} (h : i < l.length) (v : Int) : U4 (G5 l) i [.int .i64 v] = G5 (l.set i v) := by
 unfold U4 G5
 rw [List.map_set, List.set_eq_take_append_cons_drop, if_pos (by simpa using h)]
 simp
def D5 (b : Nat) (n : Int) (cv ov : Value) (cs os : List Int) : List Res := [.pt b (.cells #[.int .i64 n, cv, ov] 141), .own 3 1 cv cs.length (G5 cs), .own 3 1 ov os.length (G5 os)]
theorem C6H (w : World) (b : Nat) (n : Int) (cv ov : Value) (hw : LW false [b] w [.pt b (.cells #[.int .i64 n, cv, ov] 141)] w) :
  Fn PR C0 178 #[.pointer (some ⟨b, 0, none⟩), .int .i64 1] w (Rn [b] w (fun (_ : Unit) u => u = .int .i64 (IntKind.i64.wrap (n + 1))) fun _ => [.pt b (.cells #[.int .i64 (IntKind.i64.wrap (n + 1)), cv, ov] 141)]) := by
 refine A4d (TW.goH (κ := false) (S := [b]) ?_ hw)
 unfold w9
 (have zz:=trivial;repeat((first|clear zz|with_reducible first|refine A3 ?_|refine A5 fun _=>?_|refine A4 fun _=>?_);try simp(disch:=first|omega|assumption|((repeat(first|exact A1|exact uH|apply A2|apply uT));first|done|fail)|(simp;first|done|omega|fail))[]))
 refine C2s (x := n) (c := #[.int .i64 n, cv, ov]) (o := 0) rfl Up.here ?_
 exact B1 () rfl (by (repeat' constructor))
theorem C3Q (w : World) (b : Nat) (n : Int) (cv ov : Value) (hw : LW false [b] w [.pt b (.cells #[.int .i64 n, cv, ov] 141)] w) :
  Fn PR C0 129 #[.pointer (some ⟨b, 0, none⟩)] w (Rn [b] w (fun (n : Int) u => u = .tuple #[]) fun n => [.pt b (.cells #[.int .i64 n, cv, ov] 141)]) := by
 refine A6c (TW.goH (κ := false) (S := [b]) ?_ hw)
 unfold A0c
 (have zz:=trivial;repeat((first|clear zz|with_reducible first|refine A3 ?_|refine A5 fun _=>?_|refine A4 fun _=>?_);try simp(disch:=first|omega|assumption|((repeat(first|exact A1|exact uH|apply A2|apply uT));first|done|fail)|(simp;first|done|omega|fail))[]))
 refine D0 (Hc := [.pt b (.cells #[.int .i64 n, cv, ov] 141)]) A4B (fun w' _ hs => C6H w' b n cv ov hs) (by (repeat' constructor)) ?_
 rintro _ v rfl
 exact B1 (IntKind.i64.wrap (n + 1)) rfl (by (repeat' constructor))
def A4E (v : Value) (l : List Int) (i : Int) (u : Value) : Prop := if 0 ≤ i ∧ i < l.length then ∃ g c, v = .slice (some ⟨g, 0, none⟩) l.length c ∧ u = .pointer (some ⟨g, i.toNat, none⟩) else u = .pointer none
theorem A7W (w : World) (b : Nat) (n : Int) (cv ov : Value) (v : Value) (l : List Int) (i : Int) (hl : l.length ≤ 1024) (hv : Q2 w 3 1 v l.length (G5 l)) (hw : LW false [b] w [.pt b (.cells #[.int .i64 n, cv, ov] 141)] w) :
  Fn PR C0 74 #[.pointer (some ⟨b, 0, none⟩), v, .int .i64 i] w (Rn [b] w (fun (n : Int) u => A4E v l i u) fun n => [.pt b (.cells #[.int .i64 n, cv, ov] 141)]) := by
 refine A94 (TW.goH (κ := false) (S := [b]) ?_ hw)
 unfold A2K
 obtain ⟨a, c, rfl⟩ := hv.form
 by_cases c1 : i < 0
 ·(have zz:=trivial;repeat((first|clear zz|with_reducible first|refine A3 ?_|refine A5 fun _=>?_|refine A4 fun _=>?_);try simp(disch:=first|omega|assumption|((repeat(first|exact A1|exact uH|apply A2|apply uT));first|done|fail)|(simp;first|done|omega|fail))[c1]))
  exact B1 n (by unfold A4E; rw [if_neg (by omega)]) (by (repeat' constructor))
 by_cases c2 : (l.length : Int) ≤ i
 ·(have zz:=trivial;repeat((first|clear zz|with_reducible first|refine A3 ?_|refine A5 fun _=>?_|refine A4 fun _=>?_);try simp(disch:=first|omega|assumption|((repeat(first|exact A1|exact uH|apply A2|apply uT));first|done|fail)|(simp;first|done|omega|fail))[c1, c2]))
  exact B1 n (by unfold A4E; rw [if_neg (by omega)]) (by (repeat' constructor))
 obtain ⟨j, rfl⟩ : ∃ j : Nat, i = j := ⟨i.toNat, by omega⟩
 have hj : j < l.length := by omega
 have hj2 : ¬ l.length ≤ j := by omega
 rcases hv.2 with ⟨h, e⟩ | ⟨g, cap, cur, e, h2⟩
 ·omega
 cases e
 (have zz:=trivial;repeat((first|clear zz|with_reducible first|refine A3 ?_|refine A5 fun _=>?_|refine A4 fun _=>?_);try simp(disch:=first|omega|assumption|((repeat(first|exact A1|exact uH|apply A2|apply uT));first|done|fail)|(simp;first|done|omega|fail))[c1, c2, hj, hj2]))
 refine D0 (Hc := [.pt b (.cells #[.int .i64 n, cv, ov] 141)]) A5L (fun w' _ hs => C3Q w' b n cv ov hs) (by (repeat' constructor)) ?_
 rintro m v rfl
 (have zz:=trivial;repeat((first|clear zz|with_reducible first|refine A3 ?_|refine A5 fun _=>?_|refine A4 fun _=>?_);try simp(disch:=first|omega|assumption|((repeat(first|exact A1|exact uH|apply A2|apply uT));first|done|fail)|(simp;first|done|omega|fail))[c1, c2, hj, hj2]))
 exact B1 m (by unfold A4E; rw [if_pos (by omega)]; exact ⟨_, _, rfl, by simp⟩) (by (repeat' constructor))
theorem A49 (w : World) (b : Nat) (n : Int) (cv ov : Value) (cs os : List Int) (i : Int) (hl : cs.length ≤ 1024) (hw : LW false (B6 (D5 b n cv ov cs os)) w (D5 b n cv ov cs os) w) :
  Fn PR C0 35 #[.pointer (some ⟨b, 0, none⟩), .int .i64 i] w (Rn (B6 (D5 b n cv ov cs os)) w (fun (n : Int) u => u = .int .i64 (D3 cs i)) fun n => D5 b n cv ov cs os) := by
 refine A9g (TW.goH (κ := false) (S := B6 (D5 b n cv ov cs os)) ?_ hw)
 unfold A2J
 refine T8 (e := 3) (k := 1) (v := cv) (q := cs.length) (xs := G5 cs) (by simp only [D5]; (repeat constructor)) fun ca cc e => ?_
 subst e
 simp only [D5]
 (have zz:=trivial;repeat((first|clear zz|with_reducible first|refine A3 ?_|refine A5 fun _=>?_|refine A4 fun _=>?_);try simp(disch:=first|omega|assumption|((repeat(first|exact A1|exact uH|apply A2|apply uT));first|done|fail)|(simp;first|done|omega|fail))[]))
 refine D0 (Hc := [.pt b (.cells #[.int .i64 n, .slice ca cs.length cc, ov] 141)]) T3 (fun w' hw' hs => A7W w' b n (.slice ca cs.length cc) ov (.slice ca cs.length cc) cs i hl (hw'.hold (.own 3 1 (.slice ca cs.length cc) cs.length (G5 cs)) ?_) hs) (by (repeat' constructor)) ?_
 ·(repeat constructor)
 intro m u hu
 unfold A4E at hu
 by_cases c1 : 0 ≤ i ∧ i < cs.length
 ·rw [if_pos c1] at hu
  obtain ⟨g, c, e, rfl⟩ := hu
  cases e
  obtain ⟨j, rfl⟩ : ∃ j : Nat, i = j := ⟨i.toNat, by omega⟩
  have hj : j < cs.length := by omega
  have hg := A2q hj
  (have zz:=trivial;repeat((first|clear zz|with_reducible first|refine A3 ?_|refine A5 fun _=>?_|refine A4 fun _=>?_);try simp(disch:=first|omega|assumption|((repeat(first|exact A1|exact uH|apply A2|apply uT));first|done|fail)|(simp;first|done|omega|fail))[hg]))
  exact B1 m (by unfold D3; rw [if_pos c1, Int.toNat_natCast]; exact (List.getElem?_eq_some_iff.1 hg).2) (by (repeat' constructor))
 ·rw [if_neg c1] at hu
  subst hu
  (have zz:=trivial;repeat((first|clear zz|with_reducible first|refine A3 ?_|refine A5 fun _=>?_|refine A4 fun _=>?_);try simp(disch:=first|omega|assumption|((repeat(first|exact A1|exact uH|apply A2|apply uT));first|done|fail)|(simp;first|done|omega|fail))[]))
  exact B1 m (by unfold D3; rw [if_neg c1]) (by (repeat' constructor))
theorem B0p (w : World) (b : Nat) (n : Int) (cv ov : Value) (cs os : List Int) (i v : Int) (hl : cs.length ≤ 1024) (hw : LW false (B6 (D5 b n cv ov cs os)) w (D5 b n cv ov cs os) w) :
  Fn PR C0 31 #[.pointer (some ⟨b, 0, none⟩), .int .i64 i, .int .i64 v] w (Rn (B6 (D5 b n cv ov cs os)) w (fun (n : Int) u => u = .tuple #[]) fun n => D5 b n cv ov (H7 cs i v) os) := by
 refine A78 (TW.goH (κ := false) (S := B6 (D5 b n cv ov cs os)) ?_ hw)
 unfold A1u
 refine T8 (e := 3) (k := 1) (v := cv) (q := cs.length) (xs := G5 cs) (by simp only [D5]; (repeat constructor)) fun ca cc e => ?_
 subst e
 simp only [D5]
 (have zz:=trivial;repeat((first|clear zz|with_reducible first|refine A3 ?_|refine A5 fun _=>?_|refine A4 fun _=>?_);try simp(disch:=first|omega|assumption|((repeat(first|exact A1|exact uH|apply A2|apply uT));first|done|fail)|(simp;first|done|omega|fail))[]))
 refine D0 (Hc := [.pt b (.cells #[.int .i64 n, .slice ca cs.length cc, ov] 141)]) T3 (fun w' hw' hs => A7W w' b n (.slice ca cs.length cc) ov (.slice ca cs.length cc) cs i hl (hw'.hold (.own 3 1 (.slice ca cs.length cc) cs.length (G5 cs)) ?_) hs) (by (repeat' constructor)) ?_
 ·(repeat constructor)
 intro m u hu
 unfold A4E at hu
 by_cases c1 : 0 ≤ i ∧ i < cs.length
 ·rw [if_pos c1] at hu
  obtain ⟨g, c, e, rfl⟩ := hu
  cases e
  obtain ⟨j, rfl⟩ : ∃ j : Nat, i = j := ⟨i.toNat, by omega⟩
  have hj : j < cs.length := by omega
  (have zz:=trivial;repeat((first|clear zz|with_reducible first|refine A3 ?_|refine A5 fun _=>?_|refine A4 fun _=>?_);try simp(disch:=first|omega|assumption|((repeat(first|exact A1|exact uH|apply A2|apply uT));first|done|fail)|(simp;first|done|omega|fail))[]))
  refine N3 (by (repeat constructor)) (by simp) (by simp; omega) (by simp) ?_
  refine B1 m rfl ?_
  have e : U4 (G5 cs) ((j : Nat) : Int).toNat [.int .i64 v] = G5 (H7 cs j v) := by unfold H7; rw [if_pos c1, Int.toNat_natCast, A2w hj]
  have el : (H7 cs j v).length = cs.length := by unfold H7; rw [if_pos c1, List.length_set]
  rw [el, ← e]
  simp
  (repeat' constructor)
 ·rw [if_neg c1] at hu
  subst hu
  (have zz:=trivial;repeat((first|clear zz|with_reducible first|refine A3 ?_|refine A5 fun _=>?_|refine A4 fun _=>?_);try simp(disch:=first|omega|assumption|((repeat(first|exact A1|exact uH|apply A2|apply uT));first|done|fail)|(simp;first|done|omega|fail))[]))
  exact B1 m rfl (by unfold H7; rw [if_neg c1]; (repeat' constructor))
theorem C8K (w : World) (b : Nat) (n : Int) (cv ov : Value) (cs os : List Int) (i d : Int) (hl : cs.length ≤ 1024) (hi : 0 ≤ i ∧ i < cs.length) (hw : LW false (B6 (D5 b n cv ov cs os)) w (D5 b n cv ov cs os) w) :
  Fn PR C0 93 #[.pointer (some ⟨b, 0, none⟩), .int .i64 i, .int .i64 d] w (Rn (B6 (D5 b n cv ov cs os)) w (fun (n : Int) u => u = .int .i64 (IntKind.i64.wrap (D3 cs i + d))) fun n => D5 b n cv ov (H7 cs i (IntKind.i64.wrap (D3 cs i + d))) os) := by
 refine B1M (TW.goH (κ := false) (S := B6 (D5 b n cv ov cs os)) ?_ hw)
 unfold A3T
 refine T8 (e := 3) (k := 1) (v := cv) (q := cs.length) (xs := G5 cs) (by simp only [D5]; (repeat constructor)) fun ca cc e => ?_
 subst e
 simp only [D5]
 (have zz:=trivial;repeat((first|clear zz|with_reducible first|refine A3 ?_|refine A5 fun _=>?_|refine A4 fun _=>?_);try simp(disch:=first|omega|assumption|((repeat(first|exact A1|exact uH|apply A2|apply uT));first|done|fail)|(simp;first|done|omega|fail))[]))
 refine D0 (Hc := [.pt b (.cells #[.int .i64 n, .slice ca cs.length cc, ov] 141)]) T3 (fun w' hw' hs => A7W w' b n (.slice ca cs.length cc) ov (.slice ca cs.length cc) cs i hl (hw'.hold (.own 3 1 (.slice ca cs.length cc) cs.length (G5 cs)) ?_) hs) (by (repeat' constructor)) ?_
 ·(repeat constructor)
 intro m u hu
 unfold A4E at hu
 rw [if_pos hi] at hu
 obtain ⟨g, c, e, rfl⟩ := hu
 cases e
 obtain ⟨j, rfl⟩ : ∃ j : Nat, i = j := ⟨i.toNat, by omega⟩
 have hj : j < cs.length := by omega
 have hg := A2q hj
 have hld : D3 cs j = cs.getD j 0 := by unfold D3; rw [if_pos hi, Int.toNat_natCast]
 rw [hld]
 obtain ⟨z, hz⟩ : ∃ z, z = cs.getD j 0 := ⟨_, rfl⟩
 rw [← hz] at hg ⊢
 have hgg := (List.getElem?_eq_some_iff.1 hg).2
 (have zz:=trivial;repeat((first|clear zz|with_reducible first|refine A3 ?_|refine A5 fun _=>?_|refine A4 fun _=>?_);try simp(disch:=first|omega|assumption|((repeat(first|exact A1|exact uH|apply A2|apply uT));first|done|fail)|(simp;first|done|omega|fail))[hg, hgg]))
 refine N3 (by (repeat constructor)) (by simp) (by simp; omega) (by simp) ?_
 have e : ∀ v : Int, U4 (G5 cs) j (Value.int .i64 v).cells.toList = G5 (H7 cs j v) := fun v => by unfold H7; rw [if_pos hi, Int.toNat_natCast, ← A2w hj]; rfl
 have el : ∀ v : Int, (H7 cs j v).length = cs.length := fun v => by unfold H7; rw [if_pos hi, List.length_set]
 have hr : ∀ v : Int, (G5 (H7 cs j v))[j]? = some (.int .i64 v) := fun v => by
  rw [A2q (by rw [el]; exact hj)]; unfold H7; rw [if_pos hi, Int.toNat_natCast, List.getD_eq_getElem?_getD, List.getElem?_set_self hj]; rfl
 have hrr : ∀ v : Int, ∀ h, (G5 (H7 cs j v))[j]'h = .int .i64 v := fun v h => (List.getElem?_eq_some_iff.1 (hr v)).2
 simp only [Int.toNat_natCast, e]
 (have zz:=trivial;repeat((first|clear zz|with_reducible first|refine A3 ?_|refine A5 fun _=>?_|refine A4 fun _=>?_);try simp(disch:=first|omega|assumption|((repeat(first|exact A1|exact uH|apply A2|apply uT));first|done|fail)|(simp;first|done|omega|fail))[el, e, hr, hrr]))
 exact B1 m rfl (by (repeat' constructor))
theorem B8s (w : World) (v u : Value) (l : List Int) (i x y : Int) (hu : A4E v l i u) (hw : LW false (B6 [.own 3 1 v l.length (G5 l)]) w [.own 3 1 v l.length (G5 l)] w) :
  Fn PR C0 75 #[u, .int .i64 x, .int .i64 y] w (Rn (B6 [.own 3 1 v l.length (G5 l)]) w (fun (_ : Unit) r => r = .bool (decide (0 ≤ i ∧ i < l.length ∧ l.getD i.toNat 0 = x))) fun _ => [.own 3 1 v (A2x l i x y).length (G5 (A2x l i x y))]) := by
 refine B6a (TW.goH (κ := false) (S := B6 [.own 3 1 v l.length (G5 l)]) ?_ hw)
 unfold A9D
 unfold A4E at hu
 by_cases c1 : 0 ≤ i ∧ i < l.length
 ·rw [if_pos c1] at hu
  obtain ⟨g, c, rfl, rfl⟩ := hu
  obtain ⟨j, rfl⟩ : ∃ j : Nat, i = j := ⟨i.toNat, by omega⟩
  have hj : j < l.length := by omega
  have hg := A2q hj
  unfold A2x
  simp only [Int.toNat_natCast]
  by_cases c2 : l.getD j 0 = x
  ·rw [if_pos ⟨c1.1, c1.2, c2⟩, decide_eq_true ⟨c1.1, c1.2, c2⟩]
   obtain ⟨z, hz⟩ : ∃ z, z = l.getD j 0 := ⟨_, rfl⟩
   rw [← hz] at hg c2
   have hgg := (List.getElem?_eq_some_iff.1 hg).2
   subst c2
   (have zz:=trivial;repeat((first|clear zz|with_reducible first|refine A3 ?_|refine A5 fun _=>?_|refine A4 fun _=>?_);try simp(disch:=first|omega|assumption|((repeat(first|exact A1|exact uH|apply A2|apply uT));first|done|fail)|(simp;first|done|omega|fail))[hg, hgg]))
   refine N3 (by (repeat constructor)) (by simp) (by simp; omega) (by simp) ?_
   refine B1 () rfl ?_
   have e : U4 (G5 l) j (Value.int .i64 y).cells.toList = G5 (l.set j y) := by rw [← A2w hj]; rfl
   rw [List.length_set, ← e]
   (repeat' constructor)
  ·rw [if_neg (fun h => c2 h.2.2), decide_eq_false (fun h => c2 h.2.2)]
   obtain ⟨z, hz⟩ : ∃ z, z = l.getD j 0 := ⟨_, rfl⟩
   rw [← hz] at hg c2
   have hgg := (List.getElem?_eq_some_iff.1 hg).2
   (have zz:=trivial;repeat((first|clear zz|with_reducible first|refine A3 ?_|refine A5 fun _=>?_|refine A4 fun _=>?_);try simp(disch:=first|omega|assumption|((repeat(first|exact A1|exact uH|apply A2|apply uT));first|done|fail)|(simp;first|done|omega|fail))[hg, hgg, c2]))
   exact B1 () rfl (by (repeat' constructor))
 ·rw [if_neg c1] at hu
  subst hu
  unfold A2x
  rw [if_neg (fun h => c1 ⟨h.1, h.2.1⟩), decide_eq_false (fun h => c1 ⟨h.1, h.2.1⟩)]
  (have zz:=trivial;repeat((first|clear zz|with_reducible first|refine A3 ?_|refine A5 fun _=>?_|refine A4 fun _=>?_);try simp(disch:=first|omega|assumption|((repeat(first|exact A1|exact uH|apply A2|apply uT));first|done|fail)|(simp;first|done|omega|fail))[]))
  exact B1 () rfl (by (repeat' constructor))
def A4m (u : Value) : Prop := ∃ r : Bool, u = .bool r
theorem d5 (r : Bool) : A4m (.bool r) := ⟨r, rfl⟩
theorem B8G (w : World) (b : Nat) (n : Int) (cv ov : Value) (cs os : List Int) (i who : Int) (hl : os.length ≤ 1024) (hw : LW false (B6 (D5 b n cv ov cs os)) w (D5 b n cv ov cs os) w) :
  Fn PR C0 19 #[.pointer (some ⟨b, 0, none⟩), .int .i64 i, .int .i64 who] w (Rn (B6 (D5 b n cv ov cs os)) w (fun (n : Int) u => A4m u) fun n => D5 b n cv ov cs (U8 os i who)) := by
 refine A9e (TW.goH (κ := false) (S := B6 (D5 b n cv ov cs os)) ?_ hw)
 unfold A2P
 refine T8 (e := 3) (k := 1) (v := ov) (q := os.length) (xs := G5 os) (by simp only [D5]; (repeat constructor)) fun ca cc e => ?_
 subst e
 simp only [D5]
 (have zz:=trivial;repeat((first|clear zz|with_reducible first|refine A3 ?_|refine A5 fun _=>?_|refine A4 fun _=>?_);try simp(disch:=first|omega|assumption|((repeat(first|exact A1|exact uH|apply A2|apply uT));first|done|fail)|(simp;first|done|omega|fail))[]))
 refine D0 (Hc := [.pt b (.cells #[.int .i64 n, cv, .slice ca os.length cc] 141)]) T3 (fun w' hw' hs => A7W w' b n cv (.slice ca os.length cc) (.slice ca os.length cc) os i hl (hw'.hold (.own 3 1 (.slice ca os.length cc) os.length (G5 os)) ?_) hs) (by (repeat' constructor)) ?_
 ·(repeat constructor)
 intro m u hu
 unfold U8
 by_cases c1 : 0 ≤ who
 ·rw [if_pos c1]
  (have zz:=trivial;repeat((first|clear zz|with_reducible first|refine A3 ?_|refine A5 fun _=>?_|refine A4 fun _=>?_);try simp(disch:=first|omega|assumption|((repeat(first|exact A1|exact uH|apply A2|apply uT));first|done|fail)|(simp;first|done|omega|fail))[c1]))
  refine D0 (Hc := [.own 3 1 (.slice ca os.length cc) os.length (G5 os)]) A7P (fun w' _ hs => B8s w' _ u os i (-1) who hu hs) (by (repeat' constructor)) ?_
  rintro _ r rfl
  (have zz:=trivial;repeat((first|clear zz|with_reducible first|refine A3 ?_|refine A5 fun _=>?_|refine A4 fun _=>?_);try simp(disch:=first|omega|assumption|((repeat(first|exact A1|exact uH|apply A2|apply uT));first|done|fail)|(simp;first|done|omega|fail))[]))
  exact B1 m (d5 _) (by (repeat' constructor))
 ·rw [if_neg c1]
  (have zz:=trivial;repeat((first|clear zz|with_reducible first|refine A3 ?_|refine A5 fun _=>?_|refine A4 fun _=>?_);try simp(disch:=first|omega|assumption|((repeat(first|exact A1|exact uH|apply A2|apply uT));first|done|fail)|(simp;first|done|omega|fail))[c1]))
  exact B1 m (d5 _) (by (repeat' constructor))
theorem B31 (w : World) (b : Nat) (n : Int) (cv ov : Value) (cs os : List Int) (i who : Int) (hl : os.length ≤ 1024) (hw : LW false (B6 (D5 b n cv ov cs os)) w (D5 b n cv ov cs os) w) :
  Fn PR C0 25 #[.pointer (some ⟨b, 0, none⟩), .int .i64 i, .int .i64 who] w (Rn (B6 (D5 b n cv ov cs os)) w (fun (n : Int) u => A4m u) fun n => D5 b n cv ov cs (M8 os i who)) := by
 refine A7u (TW.goH (κ := false) (S := B6 (D5 b n cv ov cs os)) ?_ hw)
 unfold A1B
 refine T8 (e := 3) (k := 1) (v := ov) (q := os.length) (xs := G5 os) (by simp only [D5]; (repeat constructor)) fun ca cc e => ?_
 subst e
 simp only [D5]
 (have zz:=trivial;repeat((first|clear zz|with_reducible first|refine A3 ?_|refine A5 fun _=>?_|refine A4 fun _=>?_);try simp(disch:=first|omega|assumption|((repeat(first|exact A1|exact uH|apply A2|apply uT));first|done|fail)|(simp;first|done|omega|fail))[]))
 refine D0 (Hc := [.pt b (.cells #[.int .i64 n, cv, .slice ca os.length cc] 141)]) T3 (fun w' hw' hs => A7W w' b n cv (.slice ca os.length cc) (.slice ca os.length cc) os i hl (hw'.hold (.own 3 1 (.slice ca os.length cc) os.length (G5 os)) ?_) hs) (by (repeat' constructor)) ?_
 ·(repeat constructor)
 intro m u hu
 unfold M8
 by_cases c1 : 0 ≤ who
 ·rw [if_pos c1]
  (have zz:=trivial;repeat((first|clear zz|with_reducible first|refine A3 ?_|refine A5 fun _=>?_|refine A4 fun _=>?_);try simp(disch:=first|omega|assumption|((repeat(first|exact A1|exact uH|apply A2|apply uT));first|done|fail)|(simp;first|done|omega|fail))[c1]))
  refine D0 (Hc := [.own 3 1 (.slice ca os.length cc) os.length (G5 os)]) A7P (fun w' _ hs => B8s w' _ u os i who (-1) hu hs) (by (repeat' constructor)) ?_
  rintro _ r rfl
  (have zz:=trivial;repeat((first|clear zz|with_reducible first|refine A3 ?_|refine A5 fun _=>?_|refine A4 fun _=>?_);try simp(disch:=first|omega|assumption|((repeat(first|exact A1|exact uH|apply A2|apply uT));first|done|fail)|(simp;first|done|omega|fail))[]))
  exact B1 m (d5 _) (by (repeat' constructor))
 ·rw [if_neg c1]
  (have zz:=trivial;repeat((first|clear zz|with_reducible first|refine A3 ?_|refine A5 fun _=>?_|refine A4 fun _=>?_);try simp(disch:=first|omega|assumption|((repeat(first|exact A1|exact uH|apply A2|apply uT));first|done|fail)|(simp;first|done|omega|fail))[c1]))
  exact B1 m (d5 _) (by (repeat' constructor))
theorem B5q (w : World) (b : Nat) (n : Int) (cv ov : Value) (os : List Int) (i : Int) (hb : bl w b = some (.cells #[.int .i64 n, cv, ov] 141 (0, 0))) (hv : F9 w ov os.length (G5 os)) :
  Fn PR C0 37 #[.pointer (some ⟨b, 0, none⟩), .int .i64 i] w (fun u w' => u = .int .i64 (A1p os i) ∧ D2 [] w w') := by
 refine Fn.pure (A8z (TW.go (κ := false) (S := []) ?_))
 unfold A1a
 obtain ⟨a, c, rfl, hr⟩ := hv.form
 have h2 : w.cell? ⟨b, 2, none⟩ = some (.slice a os.length c) := by rw [F3 hb]; rfl
 by_cases c1 : i < 0
 ·(have zz:=trivial;repeat((first|clear zz|with_reducible first|refine A3 ?_|refine A5 fun _=>?_|refine A4 fun _=>?_);try simp(disch:=first|omega|assumption|((repeat(first|exact A1|exact uH|apply A2|apply uT));first|done|fail)|(simp;first|done|omega|fail))[c1, h2]))
  exact B0 (by unfold A1p; rw [if_neg (by omega)])
 by_cases c2 : (os.length : Int) ≤ i
 ·(have zz:=trivial;repeat((first|clear zz|with_reducible first|refine A3 ?_|refine A5 fun _=>?_|refine A4 fun _=>?_);try simp(disch:=first|omega|assumption|((repeat(first|exact A1|exact uH|apply A2|apply uT));first|done|fail)|(simp;first|done|omega|fail))[c1, c2, h2]))
  exact B0 (by unfold A1p; rw [if_neg (by omega)])
 obtain ⟨j, rfl⟩ : ∃ j : Nat, i = j := ⟨i.toNat, by omega⟩
 have hj : j < os.length := by omega
 have hj2 : ¬ os.length ≤ j := by omega
 obtain ⟨g, o, rfl, hrow⟩ := hr (by omega)
 have hx : w.cell? ⟨g, o + j, none⟩ = some (.int .i64 (os.getD j 0)) := hrow.get (A2q hj)
 obtain ⟨z, hz⟩ : ∃ z, z = os.getD j 0 := ⟨_, rfl⟩
 rw [← hz] at hx
 (have zz:=trivial;repeat((first|clear zz|with_reducible first|refine A3 ?_|refine A5 fun _=>?_|refine A4 fun _=>?_);try simp(disch:=first|omega|assumption|((repeat(first|exact A1|exact uH|apply A2|apply uT));first|done|fail)|(simp;first|done|omega|fail))[c1, c2, hj, hj2, h2, hx]))
 exact B0 (by unfold A1p; rw [if_pos (by omega), Int.toNat_natCast, hz])
end Go.Proofs.YtjobgnabneddjaaGreat
namespace Go.Proofs.YtjobgnabneddjaaGreat
open Go
theorem B1u (n : Nat) : (Builtin.zeroCells (Value.int .i64 0).cells n).toList = G5 (List.replicate n 0) := by
 have hz : (Builtin.zeroCells (Value.int .i64 0).cells n).toList.length = n := by simp [size_zeroCells]
 apply List.ext_getElem (by rw [hz]; simp)
 intro i h1 h2
 simp [Builtin.zeroCells, G5, Nat.mod_one]
theorem D5L {l i : Nat} (h : i < l) (a b : Int) : (List.replicate i a ++ List.replicate (l - i) b).set i a = List.replicate (i + 1) a ++ List.replicate (l - (i + 1)) b := by
 rw [List.set_append_right _ _ (by simp)]
 obtain ⟨k, hk⟩ : ∃ k, l - i = k + 1 := ⟨l - i - 1, by omega⟩
 have : l - (i + 1) = k := by omega
 rw [hk, this, List.replicate_succ' (n := i)]
 simp [List.replicate_succ]
theorem A8N (w : World) (n : Nat) (h : n ≤ 1024) : Fn PR C0 128 #[.int .i64 (n : Nat)] w (fun u w' => u = .int .i64 (n : Nat) ∧ D2 [] w w') := by
 refine Fn.pure (B3g (TW.go (κ := false) (S := []) ?_))
 unfold A5d
 have h1 : max ((n : Nat) : Int) 0 = n := by omega
 have h2 : min ((n : Nat) : Int) 1024 = n := by omega
 (have zz:=trivial;repeat((first|clear zz|with_reducible first|refine A3 ?_|refine A5 fun _=>?_|refine A4 fun _=>?_);try simp(disch:=first|omega|assumption|((repeat(first|exact A1|exact uH|apply A2|apply uT));first|done|fail)|(simp;first|done|omega|fail))[h1, h2]))
 exact B0 rfl
theorem B9m (w : World) (a l : Nat) (ha : a ≤ 1024) (hl : l ≤ 1024) : Fn PR C0 68 #[.int .i64 (a : Nat), .int .i64 (l : Nat)] w
  (Rn [] w (fun (x : Nat × Value × Value) u => u = .pointer (some ⟨x.1, 0, none⟩)) fun x => D5 x.1 0 x.2.1 x.2.2 (List.replicate a 0) (List.replicate l (-1))) := by
 refine B7w (TW.go (κ := false) (S := []) ?_)
 unfold B00
 (have zz:=trivial;repeat((first|clear zz|with_reducible first|refine A3 ?_|refine A5 fun _=>?_|refine A4 fun _=>?_);try simp(disch:=first|omega|assumption|((repeat(first|exact A1|exact uH|apply A2|apply uT));first|done|fail)|(simp;first|done|omega|fail))[]))
 refine C0b (α := Nat × Nat × Nat) (fun _ => True) (fun x => D5 x.1 0 (.slice (some ⟨x.2.1, 0, none⟩) a a) (.slice (some ⟨x.2.2, 0, none⟩) l l) (List.replicate a 0) (List.replicate l 0)) (fun x => .pointer (some ⟨x.1, 0, none⟩)) ?_ ?_
 ·rintro ⟨b, bc, bo⟩ _
  simp only [D5]
  (have zz:=trivial;repeat((first|clear zz|with_reducible first|refine A3 ?_|refine A5 fun _=>?_|refine A4 fun _=>?_);try simp(disch:=first|omega|assumption|((repeat(first|exact A1|exact uH|apply A2|apply uT));first|done|fail)|(simp;first|done|omega|fail))[]))
  refine C2f l (fun i => [.pt b (.cells #[.int .i64 0, .slice (some ⟨bc, 0, none⟩) a a, .slice (some ⟨bo, 0, none⟩) l l] 141), .own 3 1 (.slice (some ⟨bc, 0, none⟩) a a) a (G5 (List.replicate a 0)), .own 3 1 (.slice (some ⟨bo, 0, none⟩) l l) l (G5 (List.replicate i (-1) ++ List.replicate (l - i) 0))]) ?_ (by simp)
  intro i hi L hL
  by_cases hlt : i < l
  ·(have zz:=trivial;repeat((first|clear zz|with_reducible first|refine A3 ?_|refine A5 fun _=>?_|refine A4 fun _=>?_);try simp(disch:=first|omega|assumption|((repeat(first|exact A1|exact uH|apply A2|apply uT));first|done|fail)|(simp;first|done|omega|fail))[hlt]))
   refine N3 (by (repeat constructor)) (by simp) (by simp; omega) (by simp) ?_
   have e : U4 (G5 (List.replicate i (-1) ++ List.replicate (l - i) 0)) i (Value.int .i64 (-1)).cells.toList = G5 (List.replicate (i + 1) (-1) ++ List.replicate (l - (i + 1)) 0) := by
    rw [← D5L hlt, ← A2w (by simp; omega)]; rfl
   rw [e]
   (have zz:=trivial;repeat((first|clear zz|with_reducible first|refine A3 ?_|refine A5 fun _=>?_|refine A4 fun _=>?_);try simp(disch:=first|omega|assumption|((repeat(first|exact A1|exact uH|apply A2|apply uT));first|done|fail)|(simp;first|done|omega|fail))[]))
   exact hL hlt
  ·obtain rfl : i = l := by omega
   (have zz:=trivial;repeat((first|clear zz|with_reducible first|refine A3 ?_|refine A5 fun _=>?_|refine A4 fun _=>?_);try simp(disch:=first|omega|assumption|((repeat(first|exact A1|exact uH|apply A2|apply uT));first|done|fail)|(simp;first|done|omega|fail))[]))
   refine B1 (b, .slice (some ⟨bc, 0, none⟩) a a, .slice (some ⟨bo, 0, none⟩) i i) rfl ?_
   simp only [List.length_replicate]
   (repeat' constructor)
 ·intro C hC
  have hC' : ∀ b bc bo, TW false [] w (D5 b 0 (.slice (some ⟨bc, 0, none⟩) a a) (.slice (some ⟨bo, 0, none⟩) l l) (List.replicate a 0) (List.replicate l 0)) (C (.pointer (some ⟨b, 0, none⟩))) := fun b bc bo => hC (b, bc, bo) trivial
  simp only [D5, List.length_replicate] at hC'
  refine C4 A00 (fun w' _ => A8N w' a ha) ?_
  (have zz:=trivial;repeat((first|clear zz|with_reducible first|refine A3 ?_|refine A5 fun _=>?_|refine A4 fun _=>?_);try simp(disch:=first|omega|assumption|((repeat(first|exact A1|exact uH|apply A2|apply uT));first|done|fail)|(simp;first|done|omega|fail))[]))
  refine ⟨?_, ?_, fun _ _ => trivial⟩
  ·refine u6 (by omega) (by omega) (by omega) (by omega) fun bc => ?_
   rw [Int.toNat_natCast, B1u]
   refine C4 A00 (fun w' _ => A8N w' l hl) ?_
   refine u6 (by omega) (by omega) (by omega) (by omega) fun bo => ?_
   rw [Int.toNat_natCast, B1u]
   (have zz:=trivial;repeat((first|clear zz|with_reducible first|refine A3 ?_|refine A5 fun _=>?_|refine A4 fun _=>?_);try simp(disch:=first|omega|assumption|((repeat(first|exact A1|exact uH|apply A2|apply uT));first|done|fail)|(simp;first|done|omega|fail))[]))
   rename_i b
   exact Sels.tw (by (repeat' constructor)) (hC' b bc bo)
  ·refine C4 A00 (fun w' _ => A8N w' l hl) ?_
   (have zz:=trivial;repeat((first|clear zz|with_reducible first|refine A3 ?_|refine A5 fun _=>?_|refine A4 fun _=>?_);try simp(disch:=first|omega|assumption|((repeat(first|exact A1|exact uH|apply A2|apply uT));first|done|fail)|(simp;first|done|omega|fail))[]))
   refine ⟨?_, ?_, fun _ _ => trivial⟩
   ·refine u6 (by omega) (by omega) (by omega) (by omega) fun bc => ?_
    rw [Int.toNat_natCast, B1u]
    refine u6 (by omega) (by omega) (by omega) (by omega) fun bo => ?_
    rw [Int.toNat_natCast, B1u]
    (have zz:=trivial;repeat((first|clear zz|with_reducible first|refine A3 ?_|refine A5 fun _=>?_|refine A4 fun _=>?_);try simp(disch:=first|omega|assumption|((repeat(first|exact A1|exact uH|apply A2|apply uT));first|done|fail)|(simp;first|done|omega|fail))[]))
    rename_i b
    exact Sels.tw (by (repeat' constructor)) (hC' b bc bo)
   ·refine u6 (by omega) (by omega) (by omega) (by omega) fun bo => ?_
    rw [Int.toNat_natCast, B1u]
    refine u6 (by omega) (by omega) (by omega) (by omega) fun bc => ?_
    rw [Int.toNat_natCast, B1u]
    (have zz:=trivial;repeat((first|clear zz|with_reducible first|refine A3 ?_|refine A5 fun _=>?_|refine A4 fun _=>?_);try simp(disch:=first|omega|assumption|((repeat(first|exact A1|exact uH|apply A2|apply uT));first|done|fail)|(simp;first|done|omega|fail))[]))
    rename_i b
    exact Sels.tw (by (repeat' constructor)) (hC' b bc bo)
end Go.Proofs.YtjobgnabneddjaaGreat
namespace Go.Proofs.YtjobgnabneddjaaGreat
open Go
def B0w (X : Nat → Prop) (t0 : Value) (R : Value → WP) : WP :=
 A0 PR (A8 .min #[3, 3] 0 [t0, (.int .i64 8)]) fun t4 =>
 A0 PR (A8 .max #[3, 3] 0 [(.int .i64 0), t4]) fun t5 =>
 A0 PR (Instr.build 203 #[(1, t5)]) fun t6 =>
 B3 PR X (Instr.box 203 t6) fun t7 =>
 R t7
theorem B6w : A9 PR 71 := A7 Tryz.func71 (by kernel_rfl) rfl
theorem B8A {X : Nat → Prop} {t0 : Value} {R : Value → WP} {w : World} (h : B0w X t0 R w) : Fn PR X 71 #[t0] w R := C8 (args := [t0]) mixed Tryz.func71 (by kernel_rfl) h
end Go.Proofs.YtjobgnabneddjaaGreat
namespace Go.Proofs.YtjobgnabneddjaaGreat
open Go
def B3u (s : Int × Int) : List Value := [.int .i64 s.1, .int .i64 s.2]
theorem B0f (s : Int × Int) : (B3u s).length = 2 := rfl
def B0S (l : List (Int × Int)) : List (Int × Int) := l ++ List.replicate (8 - l.length) (0, 0)
def A58 (l : List (Int × Int)) : Array Value := ((B0S l).flatMap B3u ++ [Value.int .i64 (l.length : Nat)]).toArray
theorem C52 {l : List (Int × Int)} (h : l.length ≤ 8) : (B0S l).length = 8 := by unfold B0S; simp; omega
theorem B8y {l : List (Int × Int)} (h : l.length ≤ 8) : ((B0S l).flatMap B3u).length = 16 := by rw [L4 B0f, C52 h]
theorem C7U {l : List (Int × Int)} (h : l.length ≤ 8) : (A58 l)[16]? = some (.int .i64 (l.length : Nat)) := by
 unfold A58
 have := B8y h
 rw [List.getElem?_toArray, List.getElem?_append_right (by omega), this]; rfl
theorem C7S {l : List (Int × Int)} {i : Nat} (hi : i < l.length) : (B0S l)[i]? = some (l.getD i (0, 0)) := by
 unfold B0S
 rw [List.getElem?_append_left hi, List.getD_eq_getElem?_getD, List.getElem?_eq_getElem hi]; rfl
theorem C5H {l : List (Int × Int)} (h : l.length ≤ 8) {i : Nat} (hi : i < l.length) : (A58 l)[i * 2]? = some (.int .i64 (l.getD i (0, 0)).1) ∧ (A58 l)[i * 2 + 1]? = some (.int .i64 (l.getD i (0, 0)).2) := by
 have hl := B8y h
 have h0 := P6 B0f (B0S l) i 0 (by omega)
 have h1 := P6 B0f (B0S l) i 1 (by omega)
 rw [C7S hi] at h0 h1
 unfold A58
 constructor
 ·rw [List.getElem?_toArray, List.getElem?_append_left (by omega)]; simpa [B3u] using h0
 ·rw [List.getElem?_toArray, List.getElem?_append_left (by omega)]; simpa [B3u] using h1
def A72 (b : Nat) (l : List (Int × Int)) : Res := .pt b (.cells (A58 l) 203)
def A77 (w : World) (b : Nat) (l : List (Int × Int)) : Prop := bl w b = some (.cells (A58 l) 203 (0, 0))
theorem A77.n {w : World} {b : Nat} {l : List (Int × Int)} (h : A77 w b l) (hl : l.length ≤ 8) : w.cell? ⟨b, 16, none⟩ = some (.int .i64 (l.length : Nat)) := by rw [F3 h]; exact C7U hl
theorem A77.at {w : World} {b : Nat} {l : List (Int × Int)} (h : A77 w b l) (hl : l.length ≤ 8) {i : Nat} (hi : i < l.length) : w.cell? ⟨b, i * 2, none⟩ = some (.int .i64 (l.getD i (0, 0)).1) ∧ w.cell? ⟨b, i * 2 + 1, none⟩ = some (.int .i64 (l.getD i (0, 0)).2) := by
 rw [F3 h, F3 h]; exact C5H hl hi
theorem A77.ks {κ : Bool} {w w' : World} {b : Nat} {l : List (Int × Int)} {S : List Nat} (h : A77 w b l) (hk : KS κ S w w') (hS : b ∉ S) : A77 w' b l := hk.2.1 _ _ hS rfl h
theorem A77.own {κ : Bool} {S : List Nat} {w0 w : World} {H : List Res} {b : Nat} {l : List (Int × Int)} (hw : LW κ S w0 H w) (hm : A72 b l ∈ H) : A77 w b l := hw.pt hm
theorem C65 (w : World) (n : Nat) (hn : n ≤ 8) : Fn PR C0 71 #[.int .i64 (n : Nat)] w (Rn [] w (fun b u => u = .pointer (some ⟨b, 0, none⟩)) fun b => [A72 b (List.replicate n (0, 0))]) := by
 refine B8A (TW.go (κ := false) (S := []) ?_)
 unfold B0w
 have h1 : min ((n : Nat) : Int) 8 = n := by omega
 have h2 : max 0 ((n : Nat) : Int) = n := by omega
 (have zz:=trivial;repeat((first|clear zz|with_reducible first|refine A3 ?_|refine A5 fun _=>?_|refine A4 fun _=>?_);try simp(disch:=first|omega|assumption|((repeat(first|exact A1|exact uH|apply A2|apply uT));first|done|fail)|(simp;first|done|omega|fail))[h1, h2]))
 rename_i b
 have e : A58 (List.replicate n (0, 0)) = #[.int .i64 0, .int .i64 0, .int .i64 0, .int .i64 0, .int .i64 0, .int .i64 0, .int .i64 0, .int .i64 0, .int .i64 0, .int .i64 0, .int .i64 0, .int .i64 0, .int .i64 0, .int .i64 0, .int .i64 0, .int .i64 0, .int .i64 (n : Nat)] := by
  have h : n = 0 ∨ n = 1 ∨ n = 2 ∨ n = 3 ∨ n = 4 ∨ n = 5 ∨ n = 6 ∨ n = 7 ∨ n = 8 := by omega
  rcases h with rfl | rfl | rfl | rfl | rfl | rfl | rfl | rfl | rfl <;> rfl
 refine B1 b rfl ?_
 unfold A72
 rw [e]
 (repeat' constructor)
end Go.Proofs.YtjobgnabneddjaaGreat
namespace Go.Proofs.YtjobgnabneddjaaGreat
open Go
end Go.Proofs.YtjobgnabneddjaaGreat
namespace Go.Proofs.YtjobgnabneddjaaGreat
open Go
def A2N (X : Nat → Prop) (t0 t1 t2 : Value) (R : Value → WP) : WP :=
 B3 PR X (Instr.box 89 t2) fun t5 =>
 A0 PR (Instr.makeFunc (.func 110) #[] #[t5]) fun t10 =>
 B5 PR X 109 [t0, t1, t10] fun t11 =>
 A0 PR (Instr.extract t11 0) fun t12 =>
 A0 PR (Instr.extract t11 1) fun t13 =>
 R (.tuple #[t12, t13])
theorem A8a : A9 PR 48 := A7 Tryz.func48 (by kernel_rfl) rfl
theorem A9p {X : Nat → Prop} {t0 t1 t2 : Value} {R : Value → WP} {w : World} (h : A2N X t0 t1 t2 R w) : Fn PR X 48 #[t0, t1, t2] w R := C8 (args := [t0, t1, t2]) mixed Tryz.func48 (by kernel_rfl) h
def A2U (X : Nat → Prop) (t0 t1 : Value) (R : Value → WP) : WP :=
 B5 PR X 109 [t0, t1, (.func (.func 113) #[] #[])] fun t8 =>
 A0 PR (Instr.extract t8 0) fun t9 =>
 A0 PR (Instr.extract t8 1) fun t10 =>
 R (.tuple #[t9, t10])
theorem A8m : A9 PR 50 := A7 Tryz.func50 (by kernel_rfl) rfl
theorem A9n {X : Nat → Prop} {t0 t1 : Value} {R : Value → WP} {w : World} (h : A2U X t0 t1 R w) : Fn PR X 50 #[t0, t1] w R := C8 (args := [t0, t1]) mixed Tryz.func50 (by kernel_rfl) h
def B02 (X : Nat → Prop) (t0 : Value) (R : Value → WP) : WP :=
 A0 PR (A8 .min #[3, 3] 0 [t0, (.int .i64 8)]) fun t4 =>
 A0 PR (A8 .max #[3, 3] 0 [(.int .i64 0), t4]) fun t5 =>
 B3 PR X (Instr.makeSlice 229 t5 t5) fun t6 =>
 A0 PR (Instr.build 231 #[(0, t6)]) fun t7 =>
 B3 PR X (Instr.box 231 t7) fun t8 =>
 R t8
theorem B6n : A9 PR 70 := A7 Tryz.func70 (by kernel_rfl) rfl
theorem B8F {X : Nat → Prop} {t0 : Value} {R : Value → WP} {w : World} (h : B02 X t0 R w) : Fn PR X 70 #[t0] w R := C8 (args := [t0]) mixed Tryz.func70 (by kernel_rfl) h
def A1n (X : Nat → Prop) (t0 t1 : Value) (R : Value → WP) : WP :=
 A0 PR (Instr.build 263 #[]) fun t7 =>
 A0 PR (Instr.makeInterface 263 t7) fun t8 =>
 B5 PR X 150 [t0, t1, t8] fun t9 =>
 R t9
theorem A7b : A9 PR 94 := A7 Tryz.func94 (by kernel_rfl) rfl
theorem A70 {X : Nat → Prop} {t0 t1 : Value} {R : Value → WP} {w : World} (h : A1n X t0 t1 R w) : Fn PR X 94 #[t0, t1] w R := C8 (args := [t0, t1]) mixed Tryz.func94 (by kernel_rfl) h
def A2A (X : Nat → Prop) (t0 t1 t2 : Value) (R : Value → WP) : WP :=
 jn (n := 1) (fun t6 =>
 jn (n := 1) (fun t6_1 =>
 B5 PR X 123 [t2] fun t41 =>
 B5 PR X 112 [t2] fun t43 =>
 A0 PR (Instr.build 195 #[(0, t41), (1, t43)]) fun t44 =>
 A0 PR (Instr.makeInterface 195 t44) fun t45 =>
 B5 PR X 150 [t0, t1, t45] fun t46 =>
 R t46) fun J1 =>
 A0 PR (B8 t0) fun t27 =>
 A0 PR (Instr.fieldAt 231 t27 0) fun t28 =>
 A6 PR (Instr.loadAt 229 t28) fun t29 =>
 A0 PR (Instr.indexAt 229 t29 t1) fun t31 =>
 A6 PR (Instr.loadAt 266 t31) fun t32 =>
 A0 PR (Instr.typeAssert t32 266 263 true) fun t33 =>
 A0 PR (Instr.extract t33 0) fun t34 =>
 A0 PR (Instr.extract t33 1) fun t35 =>
 B3 PR X (Instr.alloc 263 true (.tuple #[])) fun t7 =>
 C3 PR X (Instr.storeAt 263 t7 t34) <|
 A0 PR (Op.unary .not t35) fun t37 =>
 C6 t37 (
 R (.bool false)) (
 J1 t6)) fun J2 =>
 A0 PR (binOp .lss 3 t1 (.int .i64 0)) fun t10 =>
 gj t10 false (fun J => J t1) fun t12 =>
 gj t10 false (fun J => J t0) fun t13 =>
 gj t10 false (fun J => A0 PR (B8 t13) J) fun t14 =>
 gj t10 false (fun J => A0 PR (Instr.fieldAt 231 t14 0) J) fun t15 =>
 gj t10 false (fun J => A6 PR (Instr.loadAt 229 t15) J) fun t16 =>
 gj t10 false (fun J => A0 PR (A8 .len #[229] 0 [t16]) J) fun t17 =>
 gj t10 false (fun J => A0 PR (binOp .geq 3 t12 t17) J) fun t18 =>
 A0 PR (do pure (if ← asBool t10 then (.bool true) else t18)) fun t19 =>
 gj t19 false (fun J => J t2) fun t21 =>
 gj t19 false (fun J => B5 PR X 29 [t21] J) fun t22 =>
 gj t19 false (fun J => A0 PR (binOp .neq 27 t22 (.int .i64 0)) J) fun t23 =>
 A0 PR (do pure (if ← asBool t19 then (.bool true) else t23)) fun t24 =>
 C6 t24 (
 R (.bool false)) (
 J2 (.bool false))
theorem A79 : A9 PR 95 := A7 Tryz.func95 (by kernel_rfl) rfl
theorem A93 {X : Nat → Prop} {t0 t1 t2 : Value} {R : Value → WP} {w : World} (h : A2A X t0 t1 t2 R w) : Fn PR X 95 #[t0, t1, t2] w R := C8 (args := [t0, t1, t2]) mixed Tryz.func95 (by kernel_rfl) h
def A1f (X : Nat → Prop) (t0 t1 : Value) (R : Value → WP) : WP :=
 B5 PR X 150 [t0, t1, .nilIface] fun t7 =>
 R t7
theorem A7N : A9 PR 98 := A7 Tryz.func98 (by kernel_rfl) rfl
theorem A8K {X : Nat → Prop} {t0 t1 : Value} {R : Value → WP} {w : World} (h : A1f X t0 t1 R w) : Fn PR X 98 #[t0, t1] w R := C8 (args := [t0, t1]) mixed Tryz.func98 (by kernel_rfl) h
def A3v (X : Nat → Prop) (t0 t1 t2 : Value) (R : Value → WP) : WP :=
 jn (n := 2) (fun t6 t7 =>
 A0 PR (B8 t0) fun t25 =>
 A0 PR (Instr.fieldAt 231 t25 0) fun t26 =>
 A6 PR (Instr.loadAt 229 t26) fun t27 =>
 A0 PR (Instr.indexAt 229 t27 t1) fun t29 =>
 A6 PR (Instr.loadAt 266 t29) fun t30 =>
 A0 PR (Instr.typeAssert t30 266 195 true) fun t31 =>
 A0 PR (Instr.extract t31 0) fun t32 =>
 A0 PR (Instr.extract t31 1) fun t33 =>
 B3 PR X (Instr.alloc 195 true (.tuple #[])) fun t9 =>
 C3 PR X (Instr.storeAt 195 t9 t32) <|
 jn (n := 2) (fun t6_1 t7_1 =>
 A6 PR (Instr.loadAt 195 t9) fun t38 =>
 L8 PR X t2 [t38] fun t39 =>
 R (.tuple #[t39, (.bool true)])) fun J1 =>
 A0 PR (Op.unary .not t33) fun t35 =>
 C6 t35 (
 R (.tuple #[(.int .i64 0), (.bool false)])) (
 J1 t6 t7)) fun J2 =>
 A0 PR (binOp .lss 3 t1 (.int .i64 0)) fun t12 =>
 gj t12 false (fun J => J t1) fun t14 =>
 gj t12 false (fun J => J t0) fun t15 =>
 gj t12 false (fun J => A0 PR (B8 t15) J) fun t16 =>
 gj t12 false (fun J => A0 PR (Instr.fieldAt 231 t16 0) J) fun t17 =>
 gj t12 false (fun J => A6 PR (Instr.loadAt 229 t17) J) fun t18 =>
 gj t12 false (fun J => A0 PR (A8 .len #[229] 0 [t18]) J) fun t19 =>
 gj t12 false (fun J => A0 PR (binOp .geq 3 t14 t19) J) fun t20 =>
 A0 PR (do pure (if ← asBool t12 then (.bool true) else t20)) fun t21 =>
 C6 t21 (
 R (.tuple #[(.int .i64 0), (.bool false)])) (
 J2 (.int .i64 0) (.bool false))
theorem A3L : A9 PR 109 := A7 Tryz.func109 (by kernel_rfl) rfl
theorem B2B {X : Nat → Prop} {t0 t1 t2 : Value} {R : Value → WP} {w : World} (h : A3v X t0 t1 t2 R w) : Fn PR X 109 #[t0, t1, t2] w R := C8 (args := [t0, t1, t2]) mixed Tryz.func109 (by kernel_rfl) h
def A0f (X : Nat → Prop) (t0 t1 : Value) (R : Value → WP) : WP :=
 B3 PR X (Instr.box 195 t0) fun t2 =>
 A0 PR (Instr.fieldAt 195 t2 1) fun t4 =>
 A6 PR (Instr.loadAt 193 t4) fun t5 =>
 A6 PR (Instr.loadAt 89 t1) fun t6 =>
 B5 PR X 111 [t5, t6] fun t7 =>
 R t7
theorem A5S : A9 PR 110 := A7 Tryz.func110 (by kernel_rfl) rfl
theorem A6E {X : Nat → Prop} {t0 t1 : Value} {R : Value → WP} {w : World} (h : A0f X t0 t1 R w) : Fn PR X 110 #[t0, t1] w R := C8 (args := [t0, t1]) mixed Tryz.func110 (by kernel_rfl) h
def A0k (X : Nat → Prop) (t0 : Value) (R : Value → WP) : WP :=
 B3 PR X (Instr.box 195 t0) fun t1 =>
 A0 PR (Instr.fieldAt 195 t1 0) fun t3 =>
 A6 PR (Instr.loadAt 192 t3) fun t4 =>
 A0 PR (A8 .len #[192] 0 [t4]) fun t5 =>
 R t5
theorem A5P : A9 PR 113 := A7 Tryz.func113 (by kernel_rfl) rfl
theorem A6d {X : Nat → Prop} {t0 : Value} {R : Value → WP} {w : World} (h : A0k X t0 R w) : Fn PR X 113 #[t0] w R := C8 (args := [t0]) mixed Tryz.func113 (by kernel_rfl) h
def A3H (X : Nat → Prop) (t0 t1 t2 : Value) (R : Value → WP) : WP :=
 B3 PR X (Instr.box 3 t2) fun t5 =>
 A0 PR (Instr.makeFunc (.func 181) #[] #[t5]) fun t10 =>
 B5 PR X 180 [t0, t1, t10] fun t11 =>
 A0 PR (Instr.extract t11 0) fun t12 =>
 A0 PR (Instr.extract t11 1) fun t13 =>
 R (.tuple #[t12, t13])
theorem A91 : A9 PR 134 := A7 Tryz.func134 (by kernel_rfl) rfl
theorem B0C {X : Nat → Prop} {t0 t1 t2 : Value} {R : Value → WP} {w : World} (h : A3H X t0 t1 t2 R w) : Fn PR X 134 #[t0, t1, t2] w R := C8 (args := [t0, t1, t2]) mixed Tryz.func134 (by kernel_rfl) h
def A3G (X : Nat → Prop) (t0 t1 t2 : Value) (R : Value → WP) : WP :=
 jn (n := 1) (fun t6 =>
 A0 PR (B8 t0) fun t19 =>
 A0 PR (Instr.fieldAt 231 t19 0) fun t20 =>
 A6 PR (Instr.loadAt 229 t20) fun t21 =>
 A0 PR (Instr.indexAt 229 t21 t1) fun t24 =>
 C3 PR X (Instr.storeAt 266 t24 t2) <|
 R (.bool true)) fun J1 =>
 A0 PR (binOp .lss 3 t1 (.int .i64 0)) fun t8 =>
 gj t8 false (fun J => J t1) fun t10 =>
 gj t8 false (fun J => J t0) fun t11 =>
 gj t8 false (fun J => A0 PR (B8 t11) J) fun t12 =>
 gj t8 false (fun J => A0 PR (Instr.fieldAt 231 t12 0) J) fun t13 =>
 gj t8 false (fun J => A6 PR (Instr.loadAt 229 t13) J) fun t14 =>
 gj t8 false (fun J => A0 PR (A8 .len #[229] 0 [t14]) J) fun t15 =>
 gj t8 false (fun J => A0 PR (binOp .geq 3 t10 t15) J) fun t16 =>
 A0 PR (do pure (if ← asBool t8 then (.bool true) else t16)) fun t17 =>
 C6 t17 (
 R (.bool false)) (
 J1 (.bool false))
theorem A92 : A9 PR 150 := A7 Tryz.func150 (by kernel_rfl) rfl
theorem B1P {X : Nat → Prop} {t0 t1 t2 : Value} {R : Value → WP} {w : World} (h : A3G X t0 t1 t2 R w) : Fn PR X 150 #[t0, t1, t2] w R := C8 (args := [t0, t1, t2]) mixed Tryz.func150 (by kernel_rfl) h
def A3Q (X : Nat → Prop) (t0 t1 t2 : Value) (R : Value → WP) : WP :=
 jn (n := 2) (fun t6 t7 =>
 A0 PR (B8 t0) fun t25 =>
 A0 PR (Instr.fieldAt 231 t25 0) fun t26 =>
 A6 PR (Instr.loadAt 229 t26) fun t27 =>
 A0 PR (Instr.indexAt 229 t27 t1) fun t29 =>
 A6 PR (Instr.loadAt 266 t29) fun t30 =>
 A0 PR (Instr.typeAssert t30 266 195 true) fun t31 =>
 A0 PR (Instr.extract t31 0) fun t32 =>
 A0 PR (Instr.extract t31 1) fun t33 =>
 B3 PR X (Instr.alloc 195 true (.tuple #[])) fun t9 =>
 C3 PR X (Instr.storeAt 195 t9 t32) <|
 jn (n := 2) (fun t6_1 t7_1 =>
 A6 PR (Instr.loadAt 195 t9) fun t38 =>
 L8 PR X t2 [t38] fun t39 =>
 R (.tuple #[t39, (.bool true)])) fun J1 =>
 A0 PR (Op.unary .not t33) fun t35 =>
 C6 t35 (
 R (.tuple #[(.bool false), (.bool false)])) (
 J1 t6 t7)) fun J2 =>
 A0 PR (binOp .lss 3 t1 (.int .i64 0)) fun t12 =>
 gj t12 false (fun J => J t1) fun t14 =>
 gj t12 false (fun J => J t0) fun t15 =>
 gj t12 false (fun J => A0 PR (B8 t15) J) fun t16 =>
 gj t12 false (fun J => A0 PR (Instr.fieldAt 231 t16 0) J) fun t17 =>
 gj t12 false (fun J => A6 PR (Instr.loadAt 229 t17) J) fun t18 =>
 gj t12 false (fun J => A0 PR (A8 .len #[229] 0 [t18]) J) fun t19 =>
 gj t12 false (fun J => A0 PR (binOp .geq 3 t14 t19) J) fun t20 =>
 A0 PR (do pure (if ← asBool t12 then (.bool true) else t20)) fun t21 =>
 C6 t21 (
 R (.tuple #[(.bool false), (.bool false)])) (
 J2 (.bool false) (.bool false))
theorem A9l : A9 PR 180 := A7 Tryz.func180 (by kernel_rfl) rfl
theorem B0K {X : Nat → Prop} {t0 t1 t2 : Value} {R : Value → WP} {w : World} (h : A3Q X t0 t1 t2 R w) : Fn PR X 180 #[t0, t1, t2] w R := C8 (args := [t0, t1, t2]) mixed Tryz.func180 (by kernel_rfl) h
def A1H (X : Nat → Prop) (t0 t1 : Value) (R : Value → WP) : WP :=
 B3 PR X (Instr.box 195 t0) fun t2 =>
 A0 PR (Instr.fieldAt 195 t2 0) fun t4 =>
 A6 PR (Instr.loadAt 192 t4) fun t5 =>
 A6 PR (Instr.loadAt 3 t1) fun t6 =>
 B5 PR X 182 [t5, t6] fun t7 =>
 R t7
theorem A6H : A9 PR 181 := A7 Tryz.func181 (by kernel_rfl) rfl
theorem A7w {X : Nat → Prop} {t0 t1 : Value} {R : Value → WP} {w : World} (h : A1H X t0 t1 R w) : Fn PR X 181 #[t0, t1] w R := C8 (args := [t0, t1]) mixed Tryz.func181 (by kernel_rfl) h
def A1K (X : Nat → Prop) (t0 t1 : Value) (R : Value → WP) : WP :=
 B5 PR X 237 [t0, t1] fun t7 =>
 A0 PR (binOp .geq 3 t7 (.int .i64 0)) fun t8 =>
 R t8
theorem A6j : A9 PR 182 := A7 Tryz.func182 (by kernel_rfl) rfl
theorem A7a {X : Nat → Prop} {t0 t1 : Value} {R : Value → WP} {w : World} (h : A1K X t0 t1 R w) : Fn PR X 182 #[t0, t1] w R := C8 (args := [t0, t1]) mixed Tryz.func182 (by kernel_rfl) h
end Go.Proofs.YtjobgnabneddjaaGreat
namespace Go.Proofs.YtjobgnabneddjaaGreat
open Go
section
variable {P : Program} {t x : TypeId} {d : TypeDesc} {n m : Nat} {z : Value} {K : Value → WP}
theorem B8L (h : TI P t d n m z) (hd : ∀ ms, d ≠ .interface ms) : A0 P (Instr.typeAssert .nilIface x t true) K = K (.tuple #[z, .bool false]) :=
 F8 (fun w => by
  simp only [Instr.typeAssert, Sem.run_bind, h.run_und, Result.andThen_ok]
  cases d <;> first | (simp [h.run_zero]; done) | exact absurd rfl (hd _)) K
theorem B7b (h : TI P t d n m z) (hd : ∀ ms, d ≠ .interface ms) (v : Value) : A0 P (Instr.typeAssert (.iface t v) x t true) K = K (.tuple #[v, .bool true]) :=
 F8 (fun w => by
  simp only [Instr.typeAssert, Sem.run_bind, h.run_und, Result.andThen_ok]
  cases d <;> first | (simp; done) | exact absurd rfl (hd _)) K
theorem B95 (h : TI P t d n m z) (hd : ∀ ms, d ≠ .interface ms) {u : TypeId} (hu : u ≠ t) (v : Value) : A0 P (Instr.typeAssert (.iface u v) x t true) K = K (.tuple #[z, .bool false]) :=
 F8 (fun w => by
  simp only [Instr.typeAssert, Sem.run_bind, h.run_und, Result.andThen_ok]
  cases d <;> first | (simp [hu, h.run_zero]; done) | exact absurd rfl (hd _)) K
end
@[simp] theorem D2E (x : TypeId) (K : Value → WP) : A0 PR (Instr.typeAssert .nilIface x 263 true) K = K (.tuple #[.agg #[], .bool false]) := B8L B1m (by intro ms h; cases h)
@[simp] theorem D2T (x : TypeId) (v : Value) (K : Value → WP) : A0 PR (Instr.typeAssert (.iface 263 v) x 263 true) K = K (.tuple #[v, .bool true]) := B7b B1m (by intro ms h; cases h) v
@[simp] theorem D05 (x : TypeId) (v : Value) (K : Value → WP) : A0 PR (Instr.typeAssert (.iface 195 v) x 263 true) K = K (.tuple #[.agg #[], .bool false]) := B95 B1m (by intro ms h; cases h) (by decide) v
@[simp] theorem D1M (x : TypeId) (K : Value → WP) : A0 PR (Instr.typeAssert .nilIface x 195 true) K = K (.tuple #[.agg #[.slice none 0 0, .slice none 0 0], .bool false]) := B8L A5u (by intro ms h; cases h)
@[simp] theorem D0m (x : TypeId) (v : Value) (K : Value → WP) : A0 PR (Instr.typeAssert (.iface 195 v) x 195 true) K = K (.tuple #[v, .bool true]) := B7b A5u (by intro ms h; cases h) v
@[simp] theorem D11 (x : TypeId) (v : Value) (K : Value → WP) : A0 PR (Instr.typeAssert (.iface 263 v) x 195 true) K = K (.tuple #[.agg #[.slice none 0 0, .slice none 0 0], .bool false]) := B95 A5u (by intro ms h; cases h) (by decide) v
inductive SlH where
 | no
 | bld
 | rdy (p : List E9) (pv rv : Value)
def SlH.val : SlH → Value
 | .no => .nilIface
 | .bld => .iface 263 (.agg #[])
 | .rdy _ pv rv => .iface 195 (.agg #[pv, rv])
def SlH.sp : SlH → SlV
 | .no => .no
 | .bld => .bld
 | .rdy p _ _ => .rdy p
def SlH.fo : SlH → List Nat
 | .rdy _ pv rv => M2 pv ++ M2 rv
 | _ => []
def B4N (pv : Value) (p : List E9) : Res := .own 155 2 pv p.length (p.flatMap H3)
def B35 (rv : Value) (p : List E9) : Res := .own 290 2 rv (S5 (K9 p)).length ((S5 (K9 p)).flatMap H9)
def SlH.ok (w : World) : SlH → Prop
 | .rdy p pv rv => (B4N pv p).holds w ∧ (B35 rv p).holds w ∧ p.length ≤ 32
 | _ => True
theorem SlH.keep {w w' : World} {s : SlH} (hk : ∀ b ∈ s.fo, ∀ o, B4v o = true → bl w b = some o → bl w' b = some o) (h : s.ok w) : s.ok w' := by
 cases s with
 | no => trivial
 | bld => trivial
 | rdy p pv rv =>
  refine ⟨Res.stable (fun b hb => hk b ?_) h.1, Res.stable (fun b hb => hk b ?_) h.2.1, h.2.2⟩
  ·exact List.mem_append_left _ hb
  ·exact List.mem_append_right _ hb
def A0r (ls : List SlH) : List Nat := ls.flatMap SlH.fo
def A8Z (ls : List SlH) (w : World) : Prop := ∀ s ∈ ls, s.ok w
def y9 (ls : List SlH) : Res := .ab (A0r ls) (A8Z ls) fun w w' hk h s hs => SlH.keep (fun b hb => hk b (by rw [A0r, List.mem_flatMap]; exact ⟨s, hs, hb⟩)) (h s hs)
def U5 (ls : List SlH) (i : Int) (x : SlH) : List SlH := if 0 ≤ i ∧ i < ls.length then ls.set i.toNat x else ls
theorem B2g (ls : List SlH) (i : Int) (x : SlH) : (U5 ls i x).length = ls.length := by unfold U5; split <;> simp
theorem B1j (ls : List SlH) (i : Int) (x : SlH) : (U5 ls i x).map SlH.sp = p5 (ls.map SlH.sp) i x.sp := by
 unfold U5 p5
 rw [List.length_map]
 split
 ·rw [List.map_set]
 ·rfl
theorem A8W {ls : List SlH} {i : Int} {x s : SlH} (h : s ∈ U5 ls i x) : s ∈ ls ∨ s = x := by
 unfold U5 at h
 split at h
 ·exact List.mem_or_eq_of_mem_set h
 ·exact Or.inl h
def H2 (b : Nat) (sv : Value) (ls : List SlH) : List Res := [.pt b (.cells #[sv] 231), .own 266 1 sv ls.length (ls.map SlH.val), y9 ls]
section
variable {κ : Bool} {S : List Nat} {w0 w : World} {H Hk Hc : List Res} {K0 : WP} {ls : List SlH}
theorem C0A {i : Int} {x : SlH} (hx : x.fo = [] ∧ ∀ w, x.ok w) (hp : Part [y9 ls] H Hk) (h : TW κ S w0 (y9 (U5 ls i x) :: Hk) K0) : TW κ S w0 H K0 := by
 refine A2k (r := y9 (U5 ls i x)) hp (fun w hh => (fun s hs => ?_ : A8Z (U5 ls i x) w)) (fun b hb => ?_) h
 ·rcases A8W hs with hs | rfl
  ·exact (hh _ (List.mem_cons_self ..) : A8Z ls w) s hs
  ·exact hx.2 w
 ·have hb' : b ∈ A0r (U5 ls i x) := hb
  rw [A0r, List.mem_flatMap] at hb'
  obtain ⟨s, hs, hbs⟩ := hb'
  rcases A8W hs with hs | rfl
  ·exact M7.2 ⟨y9 ls, by simp, by show b ∈ A0r ls; rw [A0r, List.mem_flatMap]; exact ⟨s, hs, hbs⟩⟩
  ·rw [hx.1] at hbs; cases hbs
theorem C7K {i : Int} {p : List E9} {pv rv : Value} (hl : p.length ≤ 32) (hp : Part [B4N pv p, B35 rv p, y9 ls] H Hk) (h : TW κ S w0 (y9 (U5 ls i (.rdy p pv rv)) :: Hk) K0) : TW κ S w0 H K0 := by
 refine A2k (r := y9 (U5 ls i (.rdy p pv rv))) hp (fun w hh => (fun s hs => ?_ : A8Z (U5 ls i (.rdy p pv rv)) w)) (fun b hb => ?_) h
 ·rcases A8W hs with hs | rfl
  ·exact (hh (y9 ls) (by simp) : A8Z ls w) s hs
  ·exact ⟨hh (B4N pv p) (by simp), hh (B35 rv p) (by simp), hl⟩
 ·have hb' : b ∈ A0r (U5 ls i (.rdy p pv rv)) := hb
  rw [A0r, List.mem_flatMap] at hb'
  obtain ⟨s, hs, hbs⟩ := hb'
  rcases A8W hs with hs | rfl
  ·exact M7.2 ⟨y9 ls, by simp, by show b ∈ A0r ls; rw [A0r, List.mem_flatMap]; exact ⟨s, hs, hbs⟩⟩
  ·rcases List.mem_append.1 hbs with hbs | hbs
   ·exact M7.2 ⟨B4N pv p, by simp, hbs⟩
   ·exact M7.2 ⟨B35 rv p, by simp, hbs⟩
end
theorem C74 (w : World) (b : Nat) (sv : Value) (xs : List Value) (i : Int) (x : Value) (hx : plain x = true) (hn : xs.length ≤ 1000) (hw : LW false (B6 [.pt b (.cells #[sv] 231), .own 266 1 sv xs.length xs]) w [.pt b (.cells #[sv] 231), .own 266 1 sv xs.length xs] w) :
  Fn PR C0 150 #[.pointer (some ⟨b, 0, none⟩), .int .i64 i, x] w (Rn (B6 [.pt b (.cells #[sv] 231), .own 266 1 sv xs.length xs]) w (fun (_ : Unit) u => A4m u) fun _ => [.pt b (.cells #[sv] 231), .own 266 1 sv xs.length (if 0 ≤ i ∧ i < xs.length then xs.set i.toNat x else xs)]) := by
 refine B1P (TW.goH (κ := false) ?_ hw)
 unfold A3G
 refine T8 (e := 266) (k := 1) (v := sv) (q := xs.length) (xs := xs) (by (repeat constructor)) fun a c e => ?_
 subst e
 by_cases c1 : i < 0
 ·(have zz:=trivial;repeat((first|clear zz|with_reducible first|refine A3 ?_|refine A5 fun _=>?_|refine A4 fun _=>?_);try simp(disch:=first|omega|assumption|((repeat(first|exact A1|exact uH|apply A2|apply uT));first|done|fail)|(simp;first|done|omega|fail))[c1]))
  rw [if_neg (by omega)]
  exact B1 () (d5 _) (by (repeat' constructor))
 by_cases c2 : (xs.length : Int) ≤ i
 ·(have zz:=trivial;repeat((first|clear zz|with_reducible first|refine A3 ?_|refine A5 fun _=>?_|refine A4 fun _=>?_);try simp(disch:=first|omega|assumption|((repeat(first|exact A1|exact uH|apply A2|apply uT));first|done|fail)|(simp;first|done|omega|fail))[c1, c2]))
  rw [if_neg (by omega)]
  exact B1 () (d5 _) (by (repeat' constructor))
 obtain ⟨j, rfl⟩ : ∃ j : Nat, i = j := ⟨i.toNat, by omega⟩
 have hj : j < xs.length := by omega
 have hj2 : ¬ xs.length ≤ j := by omega
 rw [if_pos (by omega)]
 refine g4 (e := 266) (k := 1) (v := .slice a xs.length c) (q := xs.length) (xs := xs) (by (repeat constructor)) (by omega) fun g gc hg => ?_
 cases hg
 (have zz:=trivial;repeat((first|clear zz|with_reducible first|refine A3 ?_|refine A5 fun _=>?_|refine A4 fun _=>?_);try simp(disch:=first|omega|assumption|((repeat(first|exact A1|exact uH|apply A2|apply uT));first|done|fail)|(simp;first|done|omega|fail))[c1, c2, hj, hj2]))
 have hxc : x.cells = #[x] := by cases x <;> first | rfl | cases hx
 refine N3 (by (repeat constructor)) (by rw [hxc]; rfl) (by omega) (by rw [hxc]; simpa using hx) ?_
 have e : U4 xs j x.cells.toList = xs.set j x := by
  rw [hxc, List.set_eq_take_append_cons_drop, if_pos hj]; simp [U4]
 refine B1 () (d5 _) ?_
 rw [Int.toNat_natCast, ← e]
 (repeat' constructor)
theorem C67 (ls : List SlH) (i : Int) (x : SlH) : (if 0 ≤ i ∧ i < (ls.map SlH.val).length then (ls.map SlH.val).set i.toNat x.val else ls.map SlH.val) = (U5 ls i x).map SlH.val := by
 unfold U5
 rw [List.length_map]
 split
 ·rw [List.map_set]
 ·rfl
theorem SlH.plain (x : SlH) : Go.Proofs.YtjobgnabneddjaaGreat.plain x.val = true := by cases x <;> rfl
theorem B0u {κ : Bool} {X : Nat → Prop} {S : List Nat} {w0 : World} {H Hk : List Res} {K : Value → WP} {b : Nat} {sv : Value} {ls : List SlH} {i : Int} {x : SlH} (hl : ls.length ≤ 1000) (hp : Part [.pt b (.cells #[sv] 231), .own 266 1 sv ls.length (ls.map SlH.val)] H Hk)
  (hK : ∀ u, A4m u → TW κ S w0 (.pt b (.cells #[sv] 231) :: .own 266 1 sv (U5 ls i x).length ((U5 ls i x).map SlH.val) :: Hk) (K u)) :
  TW κ S w0 H (B5 PR X 150 [.pointer (some ⟨b, 0, none⟩), .int .i64 i, x.val] K) := by
 have hlm : (ls.map SlH.val).length = ls.length := List.length_map ..
 refine D0 (Hc := [.pt b (.cells #[sv] 231), .own 266 1 sv ls.length (ls.map SlH.val)]) A92 (fun w' _ hs => ?_) hp (fun _ u hu => ?_) (α := Unit) (φ := fun _ u => A4m u) (Hn := fun _ => [.pt b (.cells #[sv] 231), .own 266 1 sv (U5 ls i x).length ((U5 ls i x).map SlH.val)])
 ·have := C74 w' b sv (ls.map SlH.val) i x.val x.plain (by rw [hlm]; exact hl) (by rw [hlm]; exact hs)
  rw [C67, hlm] at this
  rw [B2g]
  exact this
 ·exact hK u hu
theorem C23 (w : World) (b : Nat) (sv : Value) (ls : List SlH) (i : Int) (hl : ls.length ≤ 8) (hw : LW false (B6 (H2 b sv ls)) w (H2 b sv ls) w) :
  Fn PR C0 94 #[.pointer (some ⟨b, 0, none⟩), .int .i64 i] w (Rn (B6 (H2 b sv ls)) w (fun (_ : Unit) u => A4m u) fun _ => H2 b sv (U5 ls i .bld)) := by
 refine A70 (TW.goH (κ := false) ?_ hw)
 unfold A1n
 simp only [H2]
 (have zz:=trivial;repeat((first|clear zz|with_reducible first|refine A3 ?_|refine A5 fun _=>?_|refine A4 fun _=>?_);try simp(disch:=first|omega|assumption|((repeat(first|exact A1|exact uH|apply A2|apply uT));first|done|fail)|(simp;first|done|omega|fail))[]))
 refine B0u (x := .bld) (ls := ls) (sv := sv) (by omega) (by (repeat' constructor)) fun u hu => ?_
 refine C0A (ls := ls) (i := i) (x := .bld) ⟨rfl, fun _ => trivial⟩ (by (repeat' constructor)) ?_
 exact B1 () hu (by (repeat' constructor))
theorem C3L (w : World) (b : Nat) (sv : Value) (ls : List SlH) (i : Int) (hl : ls.length ≤ 8) (hw : LW false (B6 (H2 b sv ls)) w (H2 b sv ls) w) :
  Fn PR C0 98 #[.pointer (some ⟨b, 0, none⟩), .int .i64 i] w (Rn (B6 (H2 b sv ls)) w (fun (_ : Unit) u => A4m u) fun _ => H2 b sv (U5 ls i .no)) := by
 refine A8K (TW.goH (κ := false) ?_ hw)
 unfold A1f
 simp only [H2]
 (have zz:=trivial;repeat((first|clear zz|with_reducible first|refine A3 ?_|refine A5 fun _=>?_|refine A4 fun _=>?_);try simp(disch:=first|omega|assumption|((repeat(first|exact A1|exact uH|apply A2|apply uT));first|done|fail)|(simp;first|done|omega|fail))[]))
 refine B0u (x := .no) (ls := ls) (sv := sv) (by omega) (by (repeat' constructor)) fun u hu => ?_
 refine C0A (ls := ls) (i := i) (x := .no) ⟨rfl, fun _ => trivial⟩ (by (repeat' constructor)) ?_
 exact B1 () hu (by (repeat' constructor))
end Go.Proofs.YtjobgnabneddjaaGreat
namespace Go.Proofs.YtjobgnabneddjaaGreat
open Go
theorem C8E {κ : Bool} {H : List Res} {r : Res} (h : r ∈ H) : Up r r H H := by
 induction H with
 | nil => cases h
 | cons a H ih =>
  rcases List.mem_cons.1 h with rfl | h
  ·exact .here
  ·exact .there (ih h)
theorem C18 {κ : Bool} {X : Nat → Prop} {S : List Nat} {w0 : World} {H : List Res} {K0 : WP} {b : Nat} (hm : Res.pt b (.cells #[] 263) ∈ H) (hK : TW κ S w0 H K0) :
  TW κ S w0 H (C3 PR X (Instr.storeAt 263 (.pointer (some ⟨b, 0, none⟩)) (.agg #[])) K0) := by
 have h := D4Z (κ := κ) (X := X) (S := S) (w0 := w0) (K0 := K0) (t := 263) (v := .agg #[]) (b := b) (o := 0) (c := #[]) (T := 263) rfl (C8E (κ := κ) hm) (by simp) rfl
 exact h ▸ hK
def A2r (ls : List SlH) (i : Int) : SlH := if 0 ≤ i ∧ i < ls.length then ls.getD i.toNat .no else .no
theorem B5W (ls : List SlH) (i : Int) : K8 (ls.map SlH.sp) i = (A2r ls i).sp := by
 unfold K8 A2r
 rw [List.length_map]
 split
 ·rename_i h
  rw [List.getD_eq_getElem?_getD, List.getD_eq_getElem?_getD, List.getElem?_map, List.getElem?_eq_getElem (by omega)]; rfl
 ·rfl
theorem B49 {ls : List SlH} {i : Nat} (h : i < ls.length) : (ls.map SlH.val)[i]? = some (ls.getD i .no).val := by
 rw [List.getElem?_map, List.getD_eq_getElem?_getD, List.getElem?_eq_getElem h]; rfl
theorem C4U {l : List SlV} {i : Int} {p : List E9} (h : K8 l i ≠ .bld ∨ L5 p ≠ 0) : A0C l i p = l := by
 unfold A0C
 cases hg : K8 l i with
 | no => rfl
 | rdy q => rfl
 | bld =>
  rcases h with h | h
  ·exact absurd hg h
  ·simp [h]
set_option maxHeartbeats 400000 in
theorem C6F (w : World) (b : Nat) (sv : Value) (ls : List SlH) (i : Int) (pv : Value) (p : List E9) (hl : ls.length ≤ 8) (hp : p.length ≤ 1000) (hv : ∀ w', KS false (B6 (H2 b sv ls)) w w' → F9 w' pv p.length (p.flatMap H3)) (hw : LW false (B6 (H2 b sv ls)) w (H2 b sv ls) w) :
  Fn PR C0 95 #[.pointer (some ⟨b, 0, none⟩), .int .i64 i, pv] w (Rn (B6 (H2 b sv ls)) w (fun (ls' : List SlH) u => A4m u ∧ ls'.length = ls.length ∧ ls'.map SlH.sp = A0C (ls.map SlH.sp) i p) fun ls' => H2 b sv ls') := by
 refine A93 (TW.goH (κ := false) ?_ hw)
 unfold A2A
 refine T8 (e := 266) (k := 1) (v := sv) (q := ls.length) (xs := ls.map SlH.val) (by simp only [H2]; (repeat constructor)) fun a c e => ?_
 subst e
 have no : K8 (ls.map SlH.sp) i ≠ .bld ∨ L5 p ≠ 0 → ∀ u, A4m u → A4m u ∧ ls.length = ls.length ∧ ls.map SlH.sp = A0C (ls.map SlH.sp) i p := fun h u hu => ⟨hu, rfl, (C4U h).symm⟩
 simp only [H2] at hv ⊢
 by_cases c1 : i < 0
 ·(have zz:=trivial;repeat((first|clear zz|with_reducible first|refine A3 ?_|refine A5 fun _=>?_|refine A4 fun _=>?_);try simp(disch:=first|omega|assumption|((repeat(first|exact A1|exact uH|apply A2|apply uT));first|done|fail)|(simp;first|done|omega|fail))[c1]))
  exact B1 ls (no (Or.inl (by unfold K8; rw [if_neg (by omega)]; simp)) _ (d5 _)) (by (repeat' constructor))
 by_cases c2 : (ls.length : Int) ≤ i
 ·(have zz:=trivial;repeat((first|clear zz|with_reducible first|refine A3 ?_|refine A5 fun _=>?_|refine A4 fun _=>?_);try simp(disch:=first|omega|assumption|((repeat(first|exact A1|exact uH|apply A2|apply uT));first|done|fail)|(simp;first|done|omega|fail))[c1, c2]))
  exact B1 ls (no (Or.inl (by unfold K8; rw [if_neg (by simp; omega)]; simp)) _ (d5 _)) (by (repeat' constructor))
 obtain ⟨j, rfl⟩ : ∃ j : Nat, i = j := ⟨i.toNat, by omega⟩
 have hj : j < ls.length := by omega
 have hj2 : ¬ ls.length ≤ j := by omega
 refine g4 (e := 266) (k := 1) (v := .slice a ls.length c) (q := ls.length) (xs := ls.map SlH.val) (by (repeat constructor)) (by omega) fun g gc hg => ?_
 cases hg
 (have zz:=trivial;repeat((first|clear zz|with_reducible first|refine A3 ?_|refine A5 fun _=>?_|refine A4 fun _=>?_);try simp(disch:=first|omega|assumption|((repeat(first|exact A1|exact uH|apply A2|apply uT));first|done|fail)|(simp;first|done|omega|fail))[c1, c2, hj, hj2]))
 refine C4 A2s (fun w' hw' => A4U w' pv p (by omega) (hv w' hw'.ks)) ?_
 by_cases c3 : L5 p = 0
 case neg =>
  (have zz:=trivial;repeat((first|clear zz|with_reducible first|refine A3 ?_|refine A5 fun _=>?_|refine A4 fun _=>?_);try simp(disch:=first|omega|assumption|((repeat(first|exact A1|exact uH|apply A2|apply uT));first|done|fail)|(simp;first|done|omega|fail))[c3]))
  exact B1 ls (no (Or.inr c3) _ (d5 _)) (by (repeat' constructor))
 have hat := B49 hj
 have hget : K8 (ls.map SlH.sp) j = (ls.getD j .no).sp := by rw [B5W]; unfold A2r; rw [if_pos (by omega), Int.toNat_natCast]
 obtain ⟨x, hx⟩ : ∃ x, x = ls.getD j .no := ⟨_, rfl⟩
 rw [← hx] at hat hget
 have hatt := (List.getElem?_eq_some_iff.1 hat).2
 cases x with
 | no =>
  simp only [SlH.val] at hat hatt
  (have zz:=trivial;repeat((first|clear zz|with_reducible first|refine A3 ?_|refine A5 fun _=>?_|refine A4 fun _=>?_);try simp(disch:=first|omega|assumption|((repeat(first|exact A1|exact uH|apply A2|apply uT));first|done|fail)|(simp;first|done|omega|fail))[c3, hat, hatt, hj, hj2]))
  refine C18 (by (repeat constructor)) ?_
  (have zz:=trivial;repeat((first|clear zz|with_reducible first|refine A3 ?_|refine A5 fun _=>?_|refine A4 fun _=>?_);try simp(disch:=first|omega|assumption|((repeat(first|exact A1|exact uH|apply A2|apply uT));first|done|fail)|(simp;first|done|omega|fail))[]))
  exact B1 ls (no (Or.inl (by rw [hget]; simp [SlH.sp])) _ (d5 _)) (by (repeat' constructor))
 | rdy q qv rv =>
  simp only [SlH.val] at hat hatt
  (have zz:=trivial;repeat((first|clear zz|with_reducible first|refine A3 ?_|refine A5 fun _=>?_|refine A4 fun _=>?_);try simp(disch:=first|omega|assumption|((repeat(first|exact A1|exact uH|apply A2|apply uT));first|done|fail)|(simp;first|done|omega|fail))[c3, hat, hatt, hj, hj2]))
  refine C18 (by (repeat constructor)) ?_
  (have zz:=trivial;repeat((first|clear zz|with_reducible first|refine A3 ?_|refine A5 fun _=>?_|refine A4 fun _=>?_);try simp(disch:=first|omega|assumption|((repeat(first|exact A1|exact uH|apply A2|apply uT));first|done|fail)|(simp;first|done|omega|fail))[]))
  exact B1 ls (no (Or.inl (by rw [hget]; simp [SlH.sp])) _ (d5 _)) (by (repeat' constructor))
 | bld =>
  simp only [SlH.val] at hat hatt
  have hp32 : p.length ≤ 32 := by
   unfold L5 at c3
   by_cases h : m0 p && decide (p.length ≤ 32)
   ·simp at h; exact h.2
   ·rw [if_neg h] at c3; omega
  (have zz:=trivial;repeat((first|clear zz|with_reducible first|refine A3 ?_|refine A5 fun _=>?_|refine A4 fun _=>?_);try simp(disch:=first|omega|assumption|((repeat(first|exact A1|exact uH|apply A2|apply uT));first|done|fail)|(simp;first|done|omega|fail))[c3, hat, hatt, hj, hj2]))
  refine C18 (by (repeat constructor)) ?_
  (have zz:=trivial;repeat((first|clear zz|with_reducible first|refine A3 ?_|refine A5 fun _=>?_|refine A4 fun _=>?_);try simp(disch:=first|omega|assumption|((repeat(first|exact A1|exact uH|apply A2|apply uT));first|done|fail)|(simp;first|done|omega|fail))[]))
  refine G4 S9 (fun w' hw' => B5n w' pv p.length (p.flatMap H3) (by omega) (L4 (k := 2) (fun _ => rfl) p) (B3e p) (hv w' hw'.ks)) ?_
  rintro _ qv rfl
  refine G4 A9M (fun w' hw' => C6M w' pv p (by omega) (hv w' hw'.ks)) ?_
  rintro _ rv rfl
  refine Z5 (e := 155) (k := 2) (v := qv) (q := p.length) (xs := p.flatMap H3) (by (repeat constructor)) fun hq1 hq2 hq3 => ?_
  refine Z5 (e := 290) (k := 2) (v := rv) (q := (S5 (K9 p)).length) (xs := (S5 (K9 p)).flatMap H9) (by (repeat constructor)) fun hr1 hr2 hr3 => ?_
  (have zz:=trivial;repeat((first|clear zz|with_reducible first|refine A3 ?_|refine A5 fun _=>?_|refine A4 fun _=>?_);try simp(disch:=first|omega|assumption|((repeat(first|exact A1|exact uH|apply A2|apply uT));first|done|fail)|(simp;first|done|omega|fail))[hq1, hq2, hr1, hr2]))
  refine B0u (x := .rdy p qv rv) (ls := ls) (by omega) (by (repeat' constructor)) fun u hu => ?_
  refine C7K (ls := ls) (i := (j : Nat)) (p := p) (pv := qv) (rv := rv) hp32 (by unfold B4N B35; (repeat' constructor)) ?_
  refine B1 (U5 ls (j : Nat) (.rdy p qv rv)) ⟨hu, B2g _ _ _, ?_⟩ (by (repeat' constructor))
  rw [B1j]
  unfold A0C
  rw [hget]
  show p5 _ _ (.rdy p) = (if L5 p = 0 then p5 _ _ (.rdy p) else _)
  rw [if_pos c3]
def SlH.rd (w : World) : SlH → Prop
 | .rdy p pv rv => F9 w pv p.length (p.flatMap H3) ∧ F9 w rv (S5 (K9 p)).length ((S5 (K9 p)).flatMap H9) ∧ p.length ≤ 32
 | _ => True
structure SlAt (w : World) (b : Nat) (sv : Value) (ls : List SlH) : Prop where
 blk : bl w b = some (.cells #[sv] 231 (0, 0))
 rd : F9 w sv ls.length (ls.map SlH.val)
 all : ∀ s ∈ ls, s.rd w
theorem SlAt.own {κ : Bool} {S : List Nat} {w0 w : World} {H : List Res} {b : Nat} {sv : Value} {ls : List SlH} (hw : LW κ S w0 H w) (h1 : Res.pt b (.cells #[sv] 231) ∈ H) (h2 : Res.own 266 1 sv ls.length (ls.map SlH.val) ∈ H) (h3 : y9 ls ∈ H) : SlAt w b sv ls := by
 refine ⟨hw.pt h1, N9.own (e := 266) (k := 1) h2 w hw, fun s hs => ?_⟩
 have := (hw.hold _ h3 : A8Z ls w) s hs
 cases s with
 | no => trivial
 | bld => trivial
 | rdy p pv rv => exact ⟨Q2.rd this.1, Q2.rd this.2.1, this.2.2⟩
theorem SlAt.at {w : World} {b : Nat} {sv : Value} {ls : List SlH} (h : SlAt w b sv ls) {i : Nat} (hi : i < ls.length) : (ls.getD i .no).rd w := by
 apply h.all
 rw [List.getD_eq_getElem?_getD, List.getElem?_eq_getElem hi]
 exact List.getElem_mem hi
def A21 (l : List SlH) (i : Int) (f : List E9 → Int) : Int × Bool :=
 match A2r l i with
 | .rdy p _ _ => (f p, true)
 | _ => (0, false)
theorem B90 (w : World) (b : Nat) (sv : Value) (ls : List SlH) (i : Int) (g : FuncId) (cap : List Value) (f : List E9 → Int) (hl : ls.length ≤ 8) (h : SlAt w b sv ls) (he : A9 PR g)
  (hg : ∀ p pv rv, (SlH.rdy p pv rv).rd w → ∀ w', KS false [] w w' → Fn PR C0 g (Value.agg #[pv, rv] :: cap).toArray w' (fun u w'' => u = .int .i64 (f p) ∧ D2 [] w' w'')) :
  Fn PR C0 109 #[.pointer (some ⟨b, 0, none⟩), .int .i64 i, .func (.func g) #[] cap.toArray] w (fun u w' => u = .tuple #[.int .i64 (A21 ls i f).1, .bool (A21 ls i f).2] ∧ D2 [] w w') := by
 refine Fn.pure (B2B (TW.go (κ := false) (S := []) ?_))
 unfold A3v
 obtain ⟨a, c, rfl, hr⟩ := h.rd.form
 have h0 : w.cell? ⟨b, 0, none⟩ = some (.slice a ls.length c) := by rw [F3 h.blk]; rfl
 by_cases c1 : i < 0
 ·have e : A21 ls i f = (0, false) := by unfold A21 A2r; rw [if_neg (by omega)]
  rw [e]
  (have zz:=trivial;repeat((first|clear zz|with_reducible first|refine A3 ?_|refine A5 fun _=>?_|refine A4 fun _=>?_);try simp(disch:=first|omega|assumption|((repeat(first|exact A1|exact uH|apply A2|apply uT));first|done|fail)|(simp;first|done|omega|fail))[c1]))
  exact B0 rfl
 by_cases c2 : (ls.length : Int) ≤ i
 ·have e : A21 ls i f = (0, false) := by unfold A21 A2r; rw [if_neg (by omega)]
  rw [e]
  (have zz:=trivial;repeat((first|clear zz|with_reducible first|refine A3 ?_|refine A5 fun _=>?_|refine A4 fun _=>?_);try simp(disch:=first|omega|assumption|((repeat(first|exact A1|exact uH|apply A2|apply uT));first|done|fail)|(simp;first|done|omega|fail))[c1, c2, h0]))
  exact B0 rfl
 obtain ⟨j, rfl⟩ : ∃ j : Nat, i = j := ⟨i.toNat, by omega⟩
 have hj : j < ls.length := by omega
 have hj2 : ¬ ls.length ≤ j := by omega
 obtain ⟨gb, o, rfl, hrow⟩ := hr (by omega)
 have hrd := h.at hj
 have hx : w.cell? ⟨gb, o + j, none⟩ = some (ls.getD j .no).val := hrow.get (B49 hj)
 have e : A21 ls j f = match ls.getD j .no with | .rdy p _ _ => (f p, true) | _ => (0, false) := by unfold A21 A2r; rw [if_pos (by omega), Int.toNat_natCast]
 rw [e]
 generalize ls.getD j .no = x at *
 cases x with
 | no =>
  simp only [SlH.val] at hx
  (have zz:=trivial;repeat((first|clear zz|with_reducible first|refine A3 ?_|refine A5 fun _=>?_|refine A4 fun _=>?_);try simp(disch:=first|omega|assumption|((repeat(first|exact A1|exact uH|apply A2|apply uT));first|done|fail)|(simp;first|done|omega|fail))[c1, c2, hj, hj2, h0, hx]))
  exact B0 rfl
 | bld =>
  simp only [SlH.val] at hx
  (have zz:=trivial;repeat((first|clear zz|with_reducible first|refine A3 ?_|refine A5 fun _=>?_|refine A4 fun _=>?_);try simp(disch:=first|omega|assumption|((repeat(first|exact A1|exact uH|apply A2|apply uT));first|done|fail)|(simp;first|done|omega|fail))[c1, c2, hj, hj2, h0, hx]))
  exact B0 rfl
 | rdy p pv rv =>
  simp only [SlH.val] at hx
  have hpv := hrd.1.form
  have hrv := hrd.2.1.form
  obtain ⟨pa, pc, hpe, _⟩ := hpv
  obtain ⟨ra, rc, hre, _⟩ := hrv
  subst hpe hre
  (have zz:=trivial;repeat((first|clear zz|with_reducible first|refine A3 ?_|refine A5 fun _=>?_|refine A4 fun _=>?_);try simp(disch:=first|omega|assumption|((repeat(first|exact A1|exact uH|apply A2|apply uT));first|done|fail)|(simp;first|done|omega|fail))[c1, c2, hj, hj2, h0, hx]))
  refine C4 he (fun w' hw' => hg _ _ _ hrd w' hw'.ks) ?_
  exact B0 rfl
def A20 (l : List SlH) (i : Int) (f : List E9 → Bool) : Bool × Bool :=
 match A2r l i with
 | .rdy p _ _ => (f p, true)
 | _ => (false, false)
theorem C8G (w : World) (b : Nat) (sv : Value) (ls : List SlH) (i : Int) (g : FuncId) (cap : List Value) (f : List E9 → Bool) (hl : ls.length ≤ 8) (h : SlAt w b sv ls) (he : A9 PR g)
  (hg : ∀ p pv rv, (SlH.rdy p pv rv).rd w → ∀ w', KS false [] w w' → Fn PR C0 g (Value.agg #[pv, rv] :: cap).toArray w' (fun u w'' => u = .bool (f p) ∧ D2 [] w' w'')) :
  Fn PR C0 180 #[.pointer (some ⟨b, 0, none⟩), .int .i64 i, .func (.func g) #[] cap.toArray] w (fun u w' => u = .tuple #[.bool (A20 ls i f).1, .bool (A20 ls i f).2] ∧ D2 [] w w') := by
 refine Fn.pure (B0K (TW.go (κ := false) (S := []) ?_))
 unfold A3Q
 obtain ⟨a, c, rfl, hr⟩ := h.rd.form
 have h0 : w.cell? ⟨b, 0, none⟩ = some (.slice a ls.length c) := by rw [F3 h.blk]; rfl
 by_cases c1 : i < 0
 ·have e : A20 ls i f = (false, false) := by unfold A20 A2r; rw [if_neg (by omega)]
  rw [e]
  (have zz:=trivial;repeat((first|clear zz|with_reducible first|refine A3 ?_|refine A5 fun _=>?_|refine A4 fun _=>?_);try simp(disch:=first|omega|assumption|((repeat(first|exact A1|exact uH|apply A2|apply uT));first|done|fail)|(simp;first|done|omega|fail))[c1]))
  exact B0 rfl
 by_cases c2 : (ls.length : Int) ≤ i
 ·have e : A20 ls i f = (false, false) := by unfold A20 A2r; rw [if_neg (by omega)]
  rw [e]
  (have zz:=trivial;repeat((first|clear zz|with_reducible first|refine A3 ?_|refine A5 fun _=>?_|refine A4 fun _=>?_);try simp(disch:=first|omega|assumption|((repeat(first|exact A1|exact uH|apply A2|apply uT));first|done|fail)|(simp;first|done|omega|fail))[c1, c2, h0]))
  exact B0 rfl
 obtain ⟨j, rfl⟩ : ∃ j : Nat, i = j := ⟨i.toNat, by omega⟩
 have hj : j < ls.length := by omega
 have hj2 : ¬ ls.length ≤ j := by omega
 obtain ⟨gb, o, rfl, hrow⟩ := hr (by omega)
 have hrd := h.at hj
 have hx : w.cell? ⟨gb, o + j, none⟩ = some (ls.getD j .no).val := hrow.get (B49 hj)
 have e : A20 ls j f = match ls.getD j .no with | .rdy p _ _ => (f p, true) | _ => (false, false) := by unfold A20 A2r; rw [if_pos (by omega), Int.toNat_natCast]
 rw [e]
 generalize ls.getD j .no = x at *
 cases x with
 | no =>
  simp only [SlH.val] at hx
  (have zz:=trivial;repeat((first|clear zz|with_reducible first|refine A3 ?_|refine A5 fun _=>?_|refine A4 fun _=>?_);try simp(disch:=first|omega|assumption|((repeat(first|exact A1|exact uH|apply A2|apply uT));first|done|fail)|(simp;first|done|omega|fail))[c1, c2, hj, hj2, h0, hx]))
  exact B0 rfl
 | bld =>
  simp only [SlH.val] at hx
  (have zz:=trivial;repeat((first|clear zz|with_reducible first|refine A3 ?_|refine A5 fun _=>?_|refine A4 fun _=>?_);try simp(disch:=first|omega|assumption|((repeat(first|exact A1|exact uH|apply A2|apply uT));first|done|fail)|(simp;first|done|omega|fail))[c1, c2, hj, hj2, h0, hx]))
  exact B0 rfl
 | rdy p pv rv =>
  simp only [SlH.val] at hx
  have hpv := hrd.1.form
  have hrv := hrd.2.1.form
  obtain ⟨pa, pc, hpe, _⟩ := hpv
  obtain ⟨ra, rc, hre, _⟩ := hrv
  subst hpe hre
  (have zz:=trivial;repeat((first|clear zz|with_reducible first|refine A3 ?_|refine A5 fun _=>?_|refine A4 fun _=>?_);try simp(disch:=first|omega|assumption|((repeat(first|exact A1|exact uH|apply A2|apply uT));first|done|fail)|(simp;first|done|omega|fail))[c1, c2, hj, hj2, h0, hx]))
  refine C4 he (fun w' hw' => hg _ _ _ hrd w' hw'.ks) ?_
  exact B0 rfl
theorem B7g (ls : List SlH) (i : Int) (f : List E9 → Int) : A21 ls i f = match K8 (ls.map SlH.sp) i with | .rdy p => (f p, true) | _ => (0, false) := by
 rw [B5W]; unfold A21; cases A2r ls i <;> rfl
theorem C5r (ls : List SlH) (i : Int) (f : List E9 → Bool) : A20 ls i f = match K8 (ls.map SlH.sp) i with | .rdy p => (f p, true) | _ => (false, false) := by
 rw [B5W]; unfold A20; cases A2r ls i <;> rfl
theorem SlH.rdks {κ : Bool} {w w' : World} {s : SlH} (hk : KS κ [] w w') (h : s.rd w) : s.rd w' := by
 cases s with
 | no => trivial
 | bld => trivial
 | rdy p pv rv => exact ⟨h.1.ks hk (by simp), h.2.1.ks hk (by simp), h.2.2⟩
theorem SlAt.ks {κ : Bool} {w w' : World} {b : Nat} {sv : Value} {ls : List SlH} (h : SlAt w b sv ls) (hk : KS κ [] w w') : SlAt w' b sv ls :=
 ⟨hk.2.1 _ _ (by simp) rfl h.blk, h.rd.ks hk (by simp), fun s hs => SlH.rdks hk (h.all s hs)⟩
theorem C26 (w : World) (p : List E9) (pv rv : Value) (bh h : Nat) (hx : (SlH.rdy p pv rv).rd w) (hb : w.cell? ⟨bh, 0, none⟩ = some (.int .u64 (h : Nat))) :
  Fn PR C0 110 #[.agg #[pv, rv], .pointer (some ⟨bh, 0, none⟩)] w (fun u w' => u = .int .i64 (A8k p h) ∧ D2 [] w w') := by
 refine Fn.pure (A6E (TW.go (κ := false) (S := []) ?_))
 unfold A0f
 obtain ⟨h1, h2, h3⟩ := hx
 obtain ⟨pa, pc, rfl, _⟩ := h1.form
 obtain ⟨ra, rc, rfl, _⟩ := h2.form
 have hll := A7z p
 have hpl : (S5 (K9 p)).length = (K9 p).length := n5 _
 (have zz:=trivial;repeat((first|clear zz|with_reducible first|refine A3 ?_|refine A5 fun _=>?_|refine A4 fun _=>?_);try simp(disch:=first|omega|assumption|((repeat(first|exact A1|exact uH|apply A2|apply uT));first|done|fail)|(simp;first|done|omega|fail))[hb]))
 refine C4 A9U (fun w' hw' => B9v w' _ (S5 (K9 p)) h (by omega) (h2.ks hw'.ks (by simp))) ?_
 exact B0 rfl
theorem C46 (w : World) (b : Nat) (sv : Value) (ls : List SlH) (i : Int) (h : Nat) (hl : ls.length ≤ 8) (hs : SlAt w b sv ls) :
  Fn PR C0 48 #[.pointer (some ⟨b, 0, none⟩), .int .i64 i, .int .u64 (h : Nat)] w (fun u w' => u = .tuple #[.int .i64 (A5l (ls.map SlH.sp) i h).1, .bool (A5l (ls.map SlH.sp) i h).2] ∧ D2 [] w w') := by
 refine Fn.pure (A9p (TW.go (κ := false) (S := []) ?_))
 unfold A2N
 (have zz:=trivial;repeat((first|clear zz|with_reducible first|refine A3 ?_|refine A5 fun _=>?_|refine A4 fun _=>?_);try simp(disch:=first|omega|assumption|((repeat(first|exact A1|exact uH|apply A2|apply uT));first|done|fail)|(simp;first|done|omega|fail))[]))
 rename_i bh
 refine C4 A3L (fun w' hw' => B90 w' b sv ls i 110 [.pointer (some ⟨bh, 0, none⟩)] (fun p => A8k p h) hl (hs.ks hw'.ks) A5S fun p pv rv hrd w'' hk => C26 w'' p pv rv bh h (SlH.rdks hk hrd) (hk.cell (by simp) (hw'.cell1 (by (repeat constructor))))) ?_
 (have zz:=trivial;repeat((first|clear zz|with_reducible first|refine A3 ?_|refine A5 fun _=>?_|refine A4 fun _=>?_);try simp(disch:=first|omega|assumption|((repeat(first|exact A1|exact uH|apply A2|apply uT));first|done|fail)|(simp;first|done|omega|fail))[]))
 exact B0 (by rw [B7g]; unfold A5l; cases K8 (ls.map SlH.sp) i <;> rfl)
theorem C4D (w : World) (p : List E9) (pv rv : Value) (hx : (SlH.rdy p pv rv).rd w) :
  Fn PR C0 113 #[.agg #[pv, rv]] w (fun u w' => u = .int .i64 (p.length : Nat) ∧ D2 [] w w') := by
 refine Fn.pure (A6d (TW.go (κ := false) (S := []) ?_))
 unfold A0k
 obtain ⟨h1, h2, h3⟩ := hx
 obtain ⟨pa, pc, rfl, _⟩ := h1.form
 obtain ⟨ra, rc, rfl, _⟩ := h2.form
 (have zz:=trivial;repeat((first|clear zz|with_reducible first|refine A3 ?_|refine A5 fun _=>?_|refine A4 fun _=>?_);try simp(disch:=first|omega|assumption|((repeat(first|exact A1|exact uH|apply A2|apply uT));first|done|fail)|(simp;first|done|omega|fail))[]))
 exact B0 rfl
theorem C4b (w : World) (b : Nat) (sv : Value) (ls : List SlH) (i : Int) (hl : ls.length ≤ 8) (hs : SlAt w b sv ls) :
  Fn PR C0 50 #[.pointer (some ⟨b, 0, none⟩), .int .i64 i] w (fun u w' => u = .tuple #[.int .i64 (A8u (ls.map SlH.sp) i).1, .bool (A8u (ls.map SlH.sp) i).2] ∧ D2 [] w w') := by
 refine Fn.pure (A9n (TW.go (κ := false) (S := []) ?_))
 unfold A2U
 refine C4 A3L (fun w' hw' => B90 w' b sv ls i 113 [] (fun p => (p.length : Nat)) hl (hs.ks hw'.ks) A5P fun p pv rv hrd w'' hk => C4D w'' p pv rv (SlH.rdks hk hrd)) ?_
 (have zz:=trivial;repeat((first|clear zz|with_reducible first|refine A3 ?_|refine A5 fun _=>?_|refine A4 fun _=>?_);try simp(disch:=first|omega|assumption|((repeat(first|exact A1|exact uH|apply A2|apply uT));first|done|fail)|(simp;first|done|omega|fail))[]))
 exact B0 (by rw [B7g]; unfold A8u; cases K8 (ls.map SlH.sp) i <;> rfl)
theorem C5f (w : World) (p : List E9) (pv : Value) (id : Int) (hv : F9 w pv p.length (p.flatMap H3)) (hp : p.length ≤ 32) :
  Fn PR C0 182 #[pv, .int .i64 id] w (fun u w' => u = .bool (decide (0 ≤ Q9 p id)) ∧ D2 [] w w') := by
 refine Fn.pure (A7a (TW.go (κ := false) (S := []) ?_))
 unfold A1K
 refine C4 A9Z (fun w' hw' => B2Y w' pv p id (by omega) (hv.ks hw'.ks (by simp))) ?_
 by_cases c1 : 0 ≤ Q9 p id
 ·(have zz:=trivial;repeat((first|clear zz|with_reducible first|refine A3 ?_|refine A5 fun _=>?_|refine A4 fun _=>?_);try simp(disch:=first|omega|assumption|((repeat(first|exact A1|exact uH|apply A2|apply uT));first|done|fail)|(simp;first|done|omega|fail))[c1]))
  exact B0 rfl
 ·(have zz:=trivial;repeat((first|clear zz|with_reducible first|refine A3 ?_|refine A5 fun _=>?_|refine A4 fun _=>?_);try simp(disch:=first|omega|assumption|((repeat(first|exact A1|exact uH|apply A2|apply uT));first|done|fail)|(simp;first|done|omega|fail))[c1]))
  exact B0 rfl
theorem C4y (w : World) (p : List E9) (pv rv : Value) (bh : Nat) (id : Int) (hx : (SlH.rdy p pv rv).rd w) (hb : w.cell? ⟨bh, 0, none⟩ = some (.int .i64 id)) :
  Fn PR C0 181 #[.agg #[pv, rv], .pointer (some ⟨bh, 0, none⟩)] w (fun u w' => u = .bool (decide (0 ≤ Q9 p id)) ∧ D2 [] w w') := by
 refine Fn.pure (A7w (TW.go (κ := false) (S := []) ?_))
 unfold A1H
 obtain ⟨h1, h2, h3⟩ := hx
 obtain ⟨pa, pc, rfl, _⟩ := h1.form
 obtain ⟨ra, rc, rfl, _⟩ := h2.form
 (have zz:=trivial;repeat((first|clear zz|with_reducible first|refine A3 ?_|refine A5 fun _=>?_|refine A4 fun _=>?_);try simp(disch:=first|omega|assumption|((repeat(first|exact A1|exact uH|apply A2|apply uT));first|done|fail)|(simp;first|done|omega|fail))[hb]))
 refine C4 A6j (fun w' hw' => C5f w' p _ id (h1.ks hw'.ks (by simp)) h3) ?_
 exact B0 rfl
theorem C66 (w : World) (b : Nat) (sv : Value) (ls : List SlH) (i id : Int) (hl : ls.length ≤ 8) (hs : SlAt w b sv ls) :
  Fn PR C0 134 #[.pointer (some ⟨b, 0, none⟩), .int .i64 i, .int .i64 id] w (fun u w' => u = .tuple #[.bool (B8z (ls.map SlH.sp) i id).1, .bool (B8z (ls.map SlH.sp) i id).2] ∧ D2 [] w w') := by
 refine Fn.pure (B0C (TW.go (κ := false) (S := []) ?_))
 unfold A3H
 (have zz:=trivial;repeat((first|clear zz|with_reducible first|refine A3 ?_|refine A5 fun _=>?_|refine A4 fun _=>?_);try simp(disch:=first|omega|assumption|((repeat(first|exact A1|exact uH|apply A2|apply uT));first|done|fail)|(simp;first|done|omega|fail))[]))
 rename_i bh
 refine C4 A9l (fun w' hw' => C8G w' b sv ls i 181 [.pointer (some ⟨bh, 0, none⟩)] (fun p => decide (0 ≤ Q9 p id)) hl (hs.ks hw'.ks) A6H fun p pv rv hrd w'' hk => C4y w'' p pv rv bh id (SlH.rdks hk hrd) (hk.cell (by simp) (hw'.cell1 (by (repeat constructor))))) ?_
 (have zz:=trivial;repeat((first|clear zz|with_reducible first|refine A3 ?_|refine A5 fun _=>?_|refine A4 fun _=>?_);try simp(disch:=first|omega|assumption|((repeat(first|exact A1|exact uH|apply A2|apply uT));first|done|fail)|(simp;first|done|omega|fail))[]))
 exact B0 (by rw [C5r]; unfold B8z; cases K8 (ls.map SlH.sp) i <;> rfl)
theorem C9l (n : Nat) : (Builtin.zeroCells Value.nilIface.cells n).toList = (List.replicate n SlH.no).map SlH.val := by
 have hz : (Builtin.zeroCells Value.nilIface.cells n).toList.length = n := by simp [size_zeroCells, Value.cells]
 apply List.ext_getElem (by rw [hz]; simp)
 intro i h1 h2
 simp [Builtin.zeroCells, Value.cells, SlH.val, Nat.mod_one]
theorem C7P (w : World) (n : Nat) (hn : n ≤ 8) : Fn PR C0 70 #[.int .i64 (n : Nat)] w (Rn [] w (fun (x : Nat × Value) u => u = .pointer (some ⟨x.1, 0, none⟩)) fun x => H2 x.1 x.2 (List.replicate n SlH.no)) := by
 refine B8F (TW.go (κ := false) (S := []) ?_)
 unfold B02
 have h1 : min ((n : Nat) : Int) 8 = n := by omega
 have h2 : max 0 ((n : Nat) : Int) = n := by omega
 (have zz:=trivial;repeat((first|clear zz|with_reducible first|refine A3 ?_|refine A5 fun _=>?_|refine A4 fun _=>?_);try simp(disch:=first|omega|assumption|((repeat(first|exact A1|exact uH|apply A2|apply uT));first|done|fail)|(simp;first|done|omega|fail))[h1, h2]))
 refine u6 (by omega) (by omega) (by omega) (by omega) fun bs => ?_
 rw [Int.toNat_natCast, C9l]
 (have zz:=trivial;repeat((first|clear zz|with_reducible first|refine A3 ?_|refine A5 fun _=>?_|refine A4 fun _=>?_);try simp(disch:=first|omega|assumption|((repeat(first|exact A1|exact uH|apply A2|apply uT));first|done|fail)|(simp;first|done|omega|fail))[]))
 rename_i b
 refine A2k (r := y9 (List.replicate n SlH.no)) (Hc := []) Part.nil (fun w _ => (fun s hs => by rw [List.eq_of_mem_replicate hs]; trivial : A8Z _ w)) (fun b hb => ?_) ?_
 ·have hb' : b ∈ A0r (List.replicate n SlH.no) := hb
  rw [A0r, List.mem_flatMap] at hb'
  obtain ⟨s, hs, hbs⟩ := hb'
  rw [List.eq_of_mem_replicate hs] at hbs; cases hbs
 ·refine B1 (b, .slice (some ⟨bs, 0, none⟩) n n) rfl ?_
  simp only [H2, List.length_replicate, List.map_replicate]
  (repeat' constructor)
end Go.Proofs.YtjobgnabneddjaaGreat
namespace Go.Proofs.YtjobgnabneddjaaGreat
open Go
def A3g (c : CfgV) : Array Value := #[.int .i64 c.wk, .int .i64 c.sh, .int .i64 c.cp, .int .i64 c.idle, .int .i64 c.sl]
def E5 (c : CfgV) (pc ps pk tv pv now : Value) : Array Value := #[.int .i64 c.wk, .int .i64 c.sh, .int .i64 c.cp, .int .i64 c.idle, .int .i64 c.sl, pc, ps, pk, tv, pv, now]
def D8 (b : Nat) (c : CfgV) (pc ps pk tv pv now : Value) : Res := .pt b (.cells (E5 c pc ps pk tv pv now) 39)
theorem C5a (w : World) (b b1 : Nat) (c : CfgV) (pc ps pk tv pv now : Value) (hw1 : 0 ≤ c.wk ∧ c.wk ≤ 64) (hs1 : 0 ≤ c.sh ∧ c.sh ≤ 16) (hb1 : bl w b1 = some (.cells (A3g c) 23 (0, 0))) (hne : b1 ≠ b) (hw : LW false [b] w [D8 b c pc ps pk tv pv now] w) :
  Fn PR C0 67 #[.pointer (some ⟨b, 0, none⟩), .pointer (some ⟨b1, 0, none⟩)] w (Rn [b] w (fun (x : Nat × Value × Value) u => u = .tuple #[]) fun x => D8 b c (.pointer (some ⟨x.1, 0, none⟩)) ps pk tv pv now :: D5 x.1 0 x.2.1 x.2.2 (List.replicate (2 + c.wk.toNat) 0) (List.replicate c.sh.toNat (-1))) := by
 refine B4l (TW.goH (κ := false) (S := [b]) ?_ hw)
 unfold A54
 have h0 : w.cell? ⟨b1, 0, none⟩ = some (.int .i64 c.wk) := by rw [F3 hb1]; rfl
 have h1 : w.cell? ⟨b1, 1, none⟩ = some (.int .i64 c.sh) := by rw [F3 hb1]; rfl
 obtain ⟨n, hn⟩ : ∃ n : Nat, c.wk = n := ⟨c.wk.toNat, by omega⟩
 obtain ⟨k, hk⟩ : ∃ k : Nat, c.sh = k := ⟨c.sh.toNat, by omega⟩
 rw [hn] at h0
 rw [hk] at h1
 simp only [D8, E5, hn, hk, Int.toNat_natCast]
 (have zz:=trivial;repeat((first|clear zz|with_reducible first|refine A3 ?_|refine A5 fun _=>?_|refine A4 fun _=>?_);try simp(disch:=first|omega|assumption|((repeat(first|exact A1|exact uH|apply A2|apply uT));first|done|fail)|(simp;first|done|omega|fail))[h0, h1, hne]))
 rw [show (2 + (n : Int)) = ((2 + n : Nat) : Int) by omega]
 refine G4 B6W (fun w' _ => B9m w' (2 + n) k (by omega) (by omega)) ?_
 rintro x v rfl
 simp only [D5]
 (have zz:=trivial;repeat((first|clear zz|with_reducible first|refine A3 ?_|refine A5 fun _=>?_|refine A4 fun _=>?_);try simp(disch:=first|omega|assumption|((repeat(first|exact A1|exact uH|apply A2|apply uT));first|done|fail)|(simp;first|done|omega|fail))[]))
 exact B1 x rfl (by (repeat' constructor))
theorem C4j (w : World) (b b1 : Nat) (c : CfgV) (pc ps pk tv pv now : Value) (hsl : 0 ≤ c.sl ∧ c.sl ≤ 8) (hb1 : bl w b1 = some (.cells (A3g c) 23 (0, 0))) (hne : b1 ≠ b) (hw : LW false [b] w [D8 b c pc ps pk tv pv now] w) :
  Fn PR C0 69 #[.pointer (some ⟨b, 0, none⟩), .pointer (some ⟨b1, 0, none⟩)] w (Rn [b] w (fun (x : Nat × Value × Nat) u => u = .tuple #[]) fun x => D8 b c pc (.pointer (some ⟨x.1, 0, none⟩)) (.pointer (some ⟨x.2.2, 0, none⟩)) tv pv now :: A72 x.2.2 (List.replicate c.sl.toNat (0, 0)) :: H2 x.1 x.2.1 (List.replicate c.sl.toNat SlH.no)) := by
 refine B4f (TW.goH (κ := false) (S := [b]) ?_ hw)
 unfold A5w
 have h0 : w.cell? ⟨b1, 4, none⟩ = some (.int .i64 c.sl) := by rw [F3 hb1]; rfl
 obtain ⟨n, hn⟩ : ∃ n : Nat, c.sl = n := ⟨c.sl.toNat, by omega⟩
 rw [hn] at h0
 simp only [D8, E5, hn, Int.toNat_natCast]
 (have zz:=trivial;repeat((first|clear zz|with_reducible first|refine A3 ?_|refine A5 fun _=>?_|refine A4 fun _=>?_);try simp(disch:=first|omega|assumption|((repeat(first|exact A1|exact uH|apply A2|apply uT));first|done|fail)|(simp;first|done|omega|fail))[h0, hne]))
 refine G4 B6n (fun w' _ => C7P w' n (by omega)) ?_
 rintro x v rfl
 simp only [H2]
 (have zz:=trivial;repeat((first|clear zz|with_reducible first|refine A3 ?_|refine A5 fun _=>?_|refine A4 fun _=>?_);try simp(disch:=first|omega|assumption|((repeat(first|exact A1|exact uH|apply A2|apply uT));first|done|fail)|(simp;first|done|omega|fail))[h0, hne]))
 refine G4 B6w (fun w' _ => C65 w' n (by omega)) ?_
 rintro bk v rfl
 (have zz:=trivial;repeat((first|clear zz|with_reducible first|refine A3 ?_|refine A5 fun _=>?_|refine A4 fun _=>?_);try simp(disch:=first|omega|assumption|((repeat(first|exact A1|exact uH|apply A2|apply uT));first|done|fail)|(simp;first|done|omega|fail))[]))
 refine B1 (x.1, x.2, bk) rfl ?_
 simp only [List.length_replicate, List.map_replicate]
 (repeat' constructor)
def A3l (l : List Nat) : List Value := l.map fun n : Nat => .int .i64 (n : Int)
theorem C5v (w : World) (b b1 : Nat) (c : CfgV) (pc ps pk now : Value) (hs1 : 1 ≤ c.sh ∧ c.sh ≤ 16) (hc1 : 1 ≤ c.cp ∧ c.cp ≤ 64) (hb1 : bl w b1 = some (.cells (A3g c) 23 (0, 0))) (hne : b1 ≠ b) (hw : LW false [b] w [D8 b c pc ps pk (.slice none 0 0) (.slice none 0 0) now] w) :
  Fn PR C0 72 #[.pointer (some ⟨b, 0, none⟩), .pointer (some ⟨b1, 0, none⟩)] w (Rn [b] w (fun (x : Value × Value × List (Value × List EnV)) u => u = .tuple #[] ∧ x.2.2.map (·.2) = List.replicate c.sh.toNat (newE c.cp.toNat)) fun x => [D8 b c pc ps pk x.1 x.2.1 now, .own 84 1 x.1 x.2.2.length (x.2.2.map (·.1)), .own 3 1 x.2.1 x.2.2.length (A3l (List.replicate c.sh.toNat 0)), N4 x.2.2]) := by
 refine B4A (TW.goH (κ := false) (S := [b]) ?_ hw)
 unfold A59
 have h0 : w.cell? ⟨b1, 1, none⟩ = some (.int .i64 c.sh) := by rw [F3 hb1]; rfl
 have h1 : w.cell? ⟨b1, 2, none⟩ = some (.int .i64 c.cp) := by rw [F3 hb1]; rfl
 obtain ⟨n, hn⟩ : ∃ n : Nat, c.sh = n := ⟨c.sh.toNat, by omega⟩
 obtain ⟨k, hk⟩ : ∃ k : Nat, c.cp = k := ⟨c.cp.toNat, by omega⟩
 rw [hn] at h0
 rw [hk] at h1
 simp only [D8, E5, hn, hk, Int.toNat_natCast]
 (have zz:=trivial;repeat((first|clear zz|with_reducible first|refine A3 ?_|refine A5 fun _=>?_|refine A4 fun _=>?_);try simp(disch:=first|omega|assumption|((repeat(first|exact A1|exact uH|apply A2|apply uT));first|done|fail)|(simp;first|done|omega|fail))[h0, h1, hne]))
 refine l3 84 1 ?_
 refine l3 3 1 ?_
 refine B2d ?_
 refine Sels.tw (rs := [.pt b (.cells #[.int .i64 c.wk, .int .i64 (n : Nat), .int .i64 (k : Nat), .int .i64 c.idle, .int .i64 c.sl, pc, ps, pk, .slice none 0 0, .slice none 0 0, now] 39), .own 84 1 (.slice none 0 0) 0 [], .own 3 1 (.slice none 0 0) 0 [], N4 []]) (by (repeat' constructor)) ?_
 refine A7B (α := Option Addr × Nat × Option Addr × Nat × List (Value × List EnV)) n (fun i x => [.pt b (.cells #[.int .i64 c.wk, .int .i64 (n : Nat), .int .i64 (k : Nat), .int .i64 c.idle, .int .i64 c.sl, pc, ps, pk, .slice x.1 i x.2.1, .slice x.2.2.1 i x.2.2.2.1, now] 39), .own 84 1 (.slice x.1 i x.2.1) i (x.2.2.2.2.map (·.1)), .own 3 1 (.slice x.2.2.1 i x.2.2.2.1) i (A3l (List.replicate i 0)), N4 x.2.2.2.2]) (fun i x => x.2.2.2.2.length = i ∧ x.2.2.2.2.map (·.2) = List.replicate i (newE k)) (none, 0, none, 0, []) ⟨rfl, rfl⟩ ?_
 ·rintro i ⟨ta, tc, pa, qc, ts⟩ hi ⟨hlen, hmap⟩ L hL
  simp only at hlen hmap ⊢
  by_cases hlt : i < n
  ·(have zz:=trivial;repeat((first|clear zz|with_reducible first|refine A3 ?_|refine A5 fun _=>?_|refine A4 fun _=>?_);try simp(disch:=first|omega|assumption|((repeat(first|exact A1|exact uH|apply A2|apply uT));first|done|fail)|(simp;first|done|omega|fail))[h1, hne, hlt]))
   refine G4 A3k (fun w' _ => A6Q w' k (by omega)) ?_
   intro y u hu
   subst hu
   refine T8 (e := 218) (k := 4) (v := u) (q := (newE k).length) (xs := (newE k).flatMap F6) (by (repeat constructor)) fun ua uc hu => ?_
   subst hu
   (have zz:=trivial;repeat((first|clear zz|with_reducible first|refine A3 ?_|refine A5 fun _=>?_|refine A4 fun _=>?_|refine E2 fun _=>?_|refine D9 (hK:=fun _=>?_)|refine E4 (hK:=fun _=>?_)|refine E1 (hK:=fun _=>?_)|refine E0 (hK:=fun _=>?_)|refine E3 (hK:=fun _=>?_));try simp(disch:=first|omega|assumption|((repeat(first|exact A1|exact uH|apply A2|apply uT));first|done|fail)|(simp;first|done|omega|fail))[h1, hne, hlt]))
   refine A1W (e := 84) (k := 1) (q := i) (r := 1) (xs := ts.map (·.1)) (news := [.slice ua (newE k).length uc]) (by (repeat constructor)) (N9.own (by (repeat constructor))) (by decide) (by simp [hlen]) (by simp) (by simp only [maxLen]; omega) (by omega) fun a' c' => ?_
   (have zz:=trivial;repeat((first|clear zz|with_reducible first|refine A3 ?_|refine A5 fun _=>?_|refine A4 fun _=>?_|refine E2 fun _=>?_|refine D9 (hK:=fun _=>?_)|refine E4 (hK:=fun _=>?_)|refine E1 (hK:=fun _=>?_)|refine E0 (hK:=fun _=>?_)|refine E3 (hK:=fun _=>?_));try simp(disch:=first|omega|assumption|((repeat(first|exact A1|exact uH|apply A2|apply uT));first|done|fail)|(simp;first|done|omega|fail))[h1, hne, hlt]))
   refine A1W (e := 3) (k := 1) (q := i) (r := 1) (xs := A3l (List.replicate i 0)) (news := [.int .i64 0]) (by (repeat constructor)) (N9.own (by (repeat constructor))) (by decide) (by simp) (by simp) (by simp only [maxLen]; omega) (by omega) fun a'' c'' => ?_
   (have zz:=trivial;repeat((first|clear zz|with_reducible first|refine A3 ?_|refine A5 fun _=>?_|refine A4 fun _=>?_);try simp(disch:=first|omega|assumption|((repeat(first|exact A1|exact uH|apply A2|apply uT));first|done|fail)|(simp;first|done|omega|fail))[]))
   refine Y8 (r := .slice ua (newE k).length uc) (l := newE k) (ts := ts) (by (repeat' constructor)) ?_
   have h := hL hlt (a', c', a'', c'', ts ++ [(.slice ua (newE k).length uc, newE k)]) ⟨by simp [hlen], by rw [List.map_append, hmap, List.replicate_succ']; rfl⟩
   have e : A3l (List.replicate (i + 1) 0) = A3l (List.replicate i 0) ++ [.int .i64 0] := by rw [List.replicate_succ', A3l, List.map_append]; rfl
   simp only [List.map_append, List.map_cons, List.map_nil, e] at h
   exact Sels.tw (by (repeat' constructor)) h
  ·obtain rfl : i = n := by omega
   (have zz:=trivial;repeat((first|clear zz|with_reducible first|refine A3 ?_|refine A5 fun _=>?_|refine A4 fun _=>?_);try simp(disch:=first|omega|assumption|((repeat(first|exact A1|exact uH|apply A2|apply uT));first|done|fail)|(simp;first|done|omega|fail))[]))
   refine B1 (.slice ta i tc, .slice pa i qc, ts) ⟨rfl, hmap⟩ ?_
   simp only [hlen]
   (repeat' constructor)
end Go.Proofs.YtjobgnabneddjaaGreat
namespace Go.Proofs.YtjobgnabneddjaaGreat
open Go
structure WoH where
 b : Nat
 bc : Nat
 bs : Nat
 bk : Nat
 cn : Int
 cv : Value
 ov : Value
 sv : Value
 tv : Value
 pv : Value
 c : CfgV
 cells : List Int
 own : List Int
 ls : List SlH
 keep : List (Int × Int)
 ts : List (Value × List EnV)
 pl : List Nat
 now : Int
def C7 (m : WoH) : List Res := [D8 m.b m.c (.pointer (some ⟨m.bc, 0, none⟩)) (.pointer (some ⟨m.bs, 0, none⟩)) (.pointer (some ⟨m.bk, 0, none⟩)) m.tv m.pv (.int .i64 m.now),
 .pt m.bc (.cells #[.int .i64 m.cn, m.cv, m.ov] 141), .own 3 1 m.cv m.cells.length (G5 m.cells), .own 3 1 m.ov m.own.length (G5 m.own),
 .pt m.bs (.cells #[m.sv] 231), .own 266 1 m.sv m.ls.length (m.ls.map SlH.val), y9 m.ls, A72 m.bk m.keep,
 .own 84 1 m.tv m.ts.length (m.ts.map (·.1)), .own 3 1 m.pv m.pl.length (A3l m.pl)]
def WoH.ws (m : WoH) : WS := ⟨m.c, m.cells, m.own, m.ls.map SlH.sp, m.keep, m.ts.map (·.2), m.pl, m.now⟩
def K1 (c : CfgV) : WS := ⟨c, List.replicate (2 + c.wk.toNat) 0, List.replicate c.sh.toNat (-1), List.replicate c.sl.toNat .no, List.replicate c.sl.toNat (0, 0), List.replicate c.sh.toNat (newE c.cp.toNat), List.replicate c.sh.toNat 0, 0⟩
abbrev C6z := (Nat × Value × Value) × (Nat × Value × Nat) × (Value × Value × List (Value × List EnV))
def V3 : Value := .pointer none
def L9 : Value := .slice none 0 0
def B1v (b : Nat) (c : CfgV) : Nat → C6z → List Res
 | 0, x => [D8 b c V3 V3 V3 L9 L9 (.int .i64 0)]
 | 1, x => D8 b c (.pointer (some ⟨x.1.1, 0, none⟩)) V3 V3 L9 L9 (.int .i64 0) :: D5 x.1.1 0 x.1.2.1 x.1.2.2 (List.replicate (2 + c.wk.toNat) 0) (List.replicate c.sh.toNat (-1))
 | 2, x => D8 b c (.pointer (some ⟨x.1.1, 0, none⟩)) (.pointer (some ⟨x.2.1.1, 0, none⟩)) (.pointer (some ⟨x.2.1.2.2, 0, none⟩)) L9 L9 (.int .i64 0) :: (D5 x.1.1 0 x.1.2.1 x.1.2.2 (List.replicate (2 + c.wk.toNat) 0) (List.replicate c.sh.toNat (-1)) ++ A72 x.2.1.2.2 (List.replicate c.sl.toNat (0, 0)) :: H2 x.2.1.1 x.2.1.2.1 (List.replicate c.sl.toNat SlH.no))
 | _, x => D8 b c (.pointer (some ⟨x.1.1, 0, none⟩)) (.pointer (some ⟨x.2.1.1, 0, none⟩)) (.pointer (some ⟨x.2.1.2.2, 0, none⟩)) x.2.2.1 x.2.2.2.1 (.int .i64 0) :: (D5 x.1.1 0 x.1.2.1 x.1.2.2 (List.replicate (2 + c.wk.toNat) 0) (List.replicate c.sh.toNat (-1)) ++ A72 x.2.1.2.2 (List.replicate c.sl.toNat (0, 0)) :: (H2 x.2.1.1 x.2.1.2.1 (List.replicate c.sl.toNat SlH.no) ++ [.own 84 1 x.2.2.1 x.2.2.2.2.length (x.2.2.2.2.map (·.1)), .own 3 1 x.2.2.2.1 x.2.2.2.2.length (A3l (List.replicate c.sh.toNat 0)), N4 x.2.2.2.2]))
theorem C4m (w : World) (b1 : Nat) (c : CfgV) (pv : Value) (hok : M1 c = true) (hb1 : bl w b1 = some (.cells (A3g c) 23 (0, 0)))
  (hv : F9 w pv 3 [.func (.func 67) #[] #[.pointer (some ⟨b1, 0, none⟩)], .func (.func 69) #[] #[.pointer (some ⟨b1, 0, none⟩)], .func (.func 72) #[] #[.pointer (some ⟨b1, 0, none⟩)]]) :
  Fn PR C0 66 #[c.val, pv] w (Rn [] w (fun (y : WoH) u => u = .pointer (some ⟨y.b, 0, none⟩) ∧ y.c = c ∧ y.ws = K1 c) fun y => C7 y ++ [N4 y.ts]) := by
 refine B6k (TW.go (κ := false) (S := []) ?_)
 unfold A9G
 have hb : (1 ≤ c.wk ∧ c.wk ≤ 64) ∧ (1 ≤ c.sh ∧ c.sh ≤ 16) ∧ (1 ≤ c.cp ∧ c.cp ≤ 64) ∧ (2 ≤ c.sl ∧ c.sl ≤ 8) := by
  simp [M1, Y7] at hok; omega
 obtain ⟨a, cap, rfl, hr⟩ := hv.form
 obtain ⟨g, o, rfl, hrow⟩ := hr (by omega)
 simp only [CfgV.val]
 (have zz:=trivial;repeat((first|clear zz|with_reducible first|refine A3 ?_|refine A5 fun _=>?_|refine A4 fun _=>?_);try simp(disch:=first|omega|assumption|((repeat(first|exact A1|exact uH|apply A2|apply uT));first|done|fail)|(simp;first|done|omega|fail))[]))
 rename_i b2 b
 refine A7B (α := C6z) 3 (fun i x => B1v b c i x ++ [.pt b2 (.cells (A3g c) 23)]) (fun i x => i = 3 → x.2.2.2.2.map (·.2) = List.replicate c.sh.toNat (newE c.cp.toNat)) ((0, V3, V3), (0, V3, 0), (V3, V3, [])) (by omega) ?_ (by simp [B1v, D8, E5, A3g, V3, L9])
 have r0 : w.cell? ⟨g, o, none⟩ = some (.func (.func 67) #[] #[.pointer (some ⟨b1, 0, none⟩)]) := hrow 0 (by simp)
 have r1 : w.cell? ⟨g, o + 1, none⟩ = some (.func (.func 69) #[] #[.pointer (some ⟨b1, 0, none⟩)]) := hrow 1 (by simp)
 have r2 : w.cell? ⟨g, o + 2, none⟩ = some (.func (.func 72) #[] #[.pointer (some ⟨b1, 0, none⟩)]) := hrow 2 (by simp)
 have hne : ∀ {w' : World} {A : List Res}, LW false [] w A w' → ∀ pc ps pk tv pv now, D8 b c pc ps pk tv pv now ∈ A → b1 ≠ b := fun {w' A} hw' pc ps pk tv pv now hm e => by
  have := (hw'.own _ hm b (by simp [D8, Res.foot])).1
  have h1 := L0 hb1
  rcases this with h | h
  ·cases h
  ·omega
 have hbb : ∀ w', KS false [] w w' → bl w' b1 = some (.cells (A3g c) 23 (0, 0)) := fun w' hk => hk.2.1 _ _ (by simp) rfl hb1
 rintro i ⟨⟨bc, cv, ov⟩, ⟨bs, sv, bk⟩, ⟨tv, pv', ts⟩⟩ hi hφ L hL
 have hi4 : i = 0 ∨ i = 1 ∨ i = 2 ∨ i = 3 := by omega
 rcases hi4 with rfl | rfl | rfl | rfl
 ·simp only [B1v, List.cons_append, List.nil_append, D5] at hL ⊢
  (have zz:=trivial;repeat((first|clear zz|with_reducible first|refine A3 ?_|refine A5 fun _=>?_|refine A4 fun _=>?_);try simp(disch:=first|omega|assumption|((repeat(first|exact A1|exact uH|apply A2|apply uT));first|done|fail)|(simp;first|done|omega|fail))[r0]))
  refine D0 (Hc := [D8 b c V3 V3 V3 L9 L9 (.int .i64 0)]) B2p (fun w' hw' hs => C5a w' b b1 c _ _ _ _ _ _ (by omega) (by omega) (hbb w' hw'.ks) (hne hw' _ _ _ _ _ _ (List.mem_cons_self ..)) hs) (by (repeat' constructor)) ?_
  rintro x v rfl
  simp only [D5, List.cons_append, List.nil_append]
  (have zz:=trivial;repeat((first|clear zz|with_reducible first|refine A3 ?_|refine A5 fun _=>?_|refine A4 fun _=>?_);try simp(disch:=first|omega|assumption|((repeat(first|exact A1|exact uH|apply A2|apply uT));first|done|fail)|(simp;first|done|omega|fail))[]))
  have h := hL (by omega) (x, (0, V3, 0), (V3, V3, [])) (by omega)
  simp only [List.length_replicate, List.map_replicate] at h ⊢
  exact Sels.tw (by (repeat' constructor)) h
 ·simp only [B1v, List.cons_append, List.nil_append, D5, H2] at hL ⊢
  (have zz:=trivial;repeat((first|clear zz|with_reducible first|refine A3 ?_|refine A5 fun _=>?_|refine A4 fun _=>?_);try simp(disch:=first|omega|assumption|((repeat(first|exact A1|exact uH|apply A2|apply uT));first|done|fail)|(simp;first|done|omega|fail))[r1]))
  refine D0 (Hc := [D8 b c (.pointer (some ⟨bc, 0, none⟩)) V3 V3 L9 L9 (.int .i64 0)]) B29 (fun w' hw' hs => C4j w' b b1 c _ _ _ _ _ _ (by omega) (hbb w' hw'.ks) (hne hw' _ _ _ _ _ _ (List.mem_cons_self ..)) hs) (by (repeat' constructor)) ?_
  rintro x v rfl
  simp only [H2, List.cons_append, List.nil_append]
  (have zz:=trivial;repeat((first|clear zz|with_reducible first|refine A3 ?_|refine A5 fun _=>?_|refine A4 fun _=>?_);try simp(disch:=first|omega|assumption|((repeat(first|exact A1|exact uH|apply A2|apply uT));first|done|fail)|(simp;first|done|omega|fail))[]))
  have h := hL (by omega) ((bc, cv, ov), x, (V3, V3, [])) (by omega)
  simp only [List.length_replicate, List.map_replicate] at h ⊢
  exact Sels.tw (by (repeat' constructor)) h
 ·simp only [B1v, List.cons_append, List.nil_append, D5, H2] at hL ⊢
  (have zz:=trivial;repeat((first|clear zz|with_reducible first|refine A3 ?_|refine A5 fun _=>?_|refine A4 fun _=>?_);try simp(disch:=first|omega|assumption|((repeat(first|exact A1|exact uH|apply A2|apply uT));first|done|fail)|(simp;first|done|omega|fail))[r2]))
  refine D0 (Hc := [D8 b c (.pointer (some ⟨bc, 0, none⟩)) (.pointer (some ⟨bs, 0, none⟩)) (.pointer (some ⟨bk, 0, none⟩)) L9 L9 (.int .i64 0)]) B2b (fun w' hw' hs => C5v w' b b1 c _ _ _ _ (by omega) (by omega) (hbb w' hw'.ks) (hne hw' _ _ _ _ _ _ (List.mem_cons_self ..)) hs) (by (repeat' constructor)) ?_
  rintro x v ⟨rfl, hx⟩
  simp only [List.cons_append, List.nil_append]
  (have zz:=trivial;repeat((first|clear zz|with_reducible first|refine A3 ?_|refine A5 fun _=>?_|refine A4 fun _=>?_);try simp(disch:=first|omega|assumption|((repeat(first|exact A1|exact uH|apply A2|apply uT));first|done|fail)|(simp;first|done|omega|fail))[]))
  have h := hL (by omega) ((bc, cv, ov), (bs, sv, bk), x) (fun _ => hx)
  simp only [List.length_replicate, List.map_replicate] at h ⊢
  exact Sels.tw (by (repeat' constructor)) h
 ·have ht := hφ rfl
  simp only [B1v, List.cons_append, List.nil_append, D5, H2] at ht ⊢
  have hlen : ts.length = c.sh.toNat := by
   have := congrArg List.length ht
   simpa using this
  (have zz:=trivial;repeat((first|clear zz|with_reducible first|refine A3 ?_|refine A5 fun _=>?_|refine A4 fun _=>?_);try simp(disch:=first|omega|assumption|((repeat(first|exact A1|exact uH|apply A2|apply uT));first|done|fail)|(simp;first|done|omega|fail))[]))
  refine B1 ⟨b, bc, bs, bk, 0, cv, ov, sv, tv, pv', c, List.replicate (2 + c.wk.toNat) 0, List.replicate c.sh.toNat (-1), List.replicate c.sl.toNat SlH.no, List.replicate c.sl.toNat (0, 0), ts, List.replicate c.sh.toNat 0, 0⟩ ⟨rfl, rfl, by simp [WoH.ws, K1, ht, SlH.sp]⟩ ?_
  simp only [C7, List.cons_append, List.nil_append, List.length_replicate, List.map_replicate, hlen]
  (repeat' constructor)
end Go.Proofs.YtjobgnabneddjaaGreat
namespace Go.Proofs.YtjobgnabneddjaaGreat
open Go
theorem C0B (w : World) (c : CfgV) : Fn PR C0 16 #[c.val] w (Rn [] w (fun (y : WoH) u => if M1 c then u = .tuple #[.pointer (some ⟨y.b, 0, none⟩), .int .i64 0] ∧ y.c = c ∧ y.ws = K1 c else u = .tuple #[.pointer none, .int .i64 1]) fun y => if M1 c then C7 y ++ [N4 y.ts] else []) := by
 refine B8H (TW.go (κ := false) (S := []) ?_)
 unfold B1Z
 simp only [CfgV.val]
 (have zz:=trivial;repeat((first|clear zz|with_reducible first|refine A3 ?_|refine A5 fun _=>?_|refine A4 fun _=>?_);try simp(disch:=first|omega|assumption|((repeat(first|exact A1|exact uH|apply A2|apply uT));first|done|fail)|(simp;first|done|omega|fail))[]))
 rename_i b1
 refine C4 A57 (fun w' _ => B5l w' c) ?_
 cases hok : M1 c with
 | false =>
  (have zz:=trivial;repeat((first|clear zz|with_reducible first|refine A3 ?_|refine A5 fun _=>?_|refine A4 fun _=>?_);try simp(disch:=first|omega|assumption|((repeat(first|exact A1|exact uH|apply A2|apply uT));first|done|fail)|(simp;first|done|omega|fail))[]))
  exact B1 ⟨0, 0, 0, 0, 0, V3, V3, V3, V3, V3, c, [], [], [], [], [], [], 0⟩ (by simp) Sels.nil
 | true =>
  (have zz:=trivial;repeat((first|clear zz|with_reducible first|refine A3 ?_|refine A5 fun _=>?_|refine A4 fun _=>?_|refine E2 fun _=>?_|refine D9 (hK:=fun _=>?_)|refine E4 (hK:=fun _=>?_)|refine E1 (hK:=fun _=>?_)|refine E0 (hK:=fun _=>?_)|refine E3 (hK:=fun _=>?_));try simp(disch:=first|omega|assumption|((repeat(first|exact A1|exact uH|apply A2|apply uT));first|done|fail)|(simp;first|done|omega|fail))[]))
  rename_i g
  refine G4 B5T (fun w' hw' => C4m w' b1 c _ hok (hw'.pt (by (repeat constructor))) (N9.own (e := 124) (k := 1) (by (repeat constructor)) w' hw')) ?_
  rintro y v ⟨rfl, hy⟩
  (have zz:=trivial;repeat((first|clear zz|with_reducible first|refine A3 ?_|refine A5 fun _=>?_|refine A4 fun _=>?_);try simp(disch:=first|omega|assumption|((repeat(first|exact A1|exact uH|apply A2|apply uT));first|done|fail)|(simp;first|done|omega|fail))[]))
  refine B1 y ⟨rfl, hy⟩ ?_
  simp only [C7, List.cons_append, List.nil_append]
  (repeat' constructor)
theorem A2v (w : World) (b : Nat) (c : CfgV) (pc ps pk tv pv now : Value) (who : Int) (hwk : c.wk ≤ 64) (hb : bl w b = some (.cells (E5 c pc ps pk tv pv now) 39 (0, 0))) :
  Fn PR C0 57 #[.pointer (some ⟨b, 0, none⟩), .int .i64 who] w (fun u w' => u = .int .i64 (E6 c who) ∧ D2 [] w w') := by
 refine Fn.pure (B0B (TW.go (κ := false) (S := []) ?_))
 unfold A3a
 have h0 : w.cell? ⟨b, 0, none⟩ = some (.int .i64 c.wk) := by rw [F3 hb]; rfl
 unfold E6
 by_cases c1 : who < 1
 ·rw [if_pos (Or.inl c1)]
  (have zz:=trivial;repeat((first|clear zz|with_reducible first|refine A3 ?_|refine A5 fun _=>?_|refine A4 fun _=>?_);try simp(disch:=first|omega|assumption|((repeat(first|exact A1|exact uH|apply A2|apply uT));first|done|fail)|(simp;first|done|omega|fail))[c1]))
  exact B0 rfl
 by_cases c2 : c.wk < who
 ·rw [if_pos (Or.inr c2)]
  (have zz:=trivial;repeat((first|clear zz|with_reducible first|refine A3 ?_|refine A5 fun _=>?_|refine A4 fun _=>?_);try simp(disch:=first|omega|assumption|((repeat(first|exact A1|exact uH|apply A2|apply uT));first|done|fail)|(simp;first|done|omega|fail))[c1, c2, h0]))
  exact B0 rfl
 rw [if_neg (by omega)]
 (have zz:=trivial;repeat((first|clear zz|with_reducible first|refine A3 ?_|refine A5 fun _=>?_|refine A4 fun _=>?_);try simp(disch:=first|omega|assumption|((repeat(first|exact A1|exact uH|apply A2|apply uT));first|done|fail)|(simp;first|done|omega|fail))[c1, c2, h0]))
 exact B0 (by congr 1; omega)
end Go.Proofs.YtjobgnabneddjaaGreat
namespace Go.Proofs.YtjobgnabneddjaaGreat
open Go
def N1 (t : A25) : Value := .agg #[.bool t.1, .bool t.2.1, .bool t.2.2]
end Go.Proofs.YtjobgnabneddjaaGreat
namespace Go.Proofs.YtjobgnabneddjaaGreat
open Go
structure WsOk (x : WS) : Prop where
 wk : 1 ≤ x.c.wk ∧ x.c.wk ≤ 64
 cells : x.cells.length = 2 + x.c.wk.toNat
 own : x.own.length ≤ 16
 sl : x.sl.length ≤ 8
 keep : x.keep.length ≤ 8
def WoH.sk (m : WoH) (ls : List SlH) (keep : List (Int × Int)) : WoH := { m with ls := ls, keep := keep }
end Go.Proofs.YtjobgnabneddjaaGreat
namespace Go.Proofs.YtjobgnabneddjaaGreat
open Go
structure WoD where
 cn : Int
 cells : List Int
 ls : List SlH
 keep : List (Int × Int)
def WoH.up (m : WoH) (d : WoD) : WoH := { m with cn := d.cn, cells := d.cells, ls := d.ls, keep := d.keep }
end Go.Proofs.YtjobgnabneddjaaGreat
namespace Go.Proofs.YtjobgnabneddjaaGreat
open Go
end Go.Proofs.YtjobgnabneddjaaGreat
namespace Go.Proofs.YtjobgnabneddjaaGreat
open Go
end Go.Proofs.YtjobgnabneddjaaGreat
namespace Go.Proofs.YtjobgnabneddjaaGreat
open Go
abbrev S7 := List (Value × List EnV)
def A2p (a b : S7) : Prop := ∀ t ∈ a, t ∈ b
theorem A2p.left {a b : S7} (h : A2p a b) (c : S7) : A2p a (b ++ c) := fun t ht => List.mem_append_left _ (h t ht)
def B4e (a b : S7) (t : List EnV) : Prop := A2p a b ∧ ∀ x ∈ b, x ∈ a ∨ x.2 = t
theorem B4e.same (a : S7) (t : List EnV) : B4e a a t := ⟨fun x hx => hx, fun x hx => Or.inl hx⟩
theorem B4e.push (a : S7) (v : Value) (t : List EnV) : B4e a (a ++ [(v, t)]) t := ⟨fun x hx => List.mem_append_left _ hx, fun x hx => by
 rcases List.mem_append.1 hx with hx | hx
 ·exact Or.inl hx
 ·rw [List.mem_singleton.1 hx]; exact Or.inr rfl⟩
structure TabsOk (m : WoH) (P : S7) : Prop where
 few : m.ts.length ≤ 1000
 pl : m.pl.length = m.ts.length
 len : ∀ t ∈ m.ts, t.2.length ≤ 1000000
 keys : ∀ t ∈ m.ts, N0 t.2
 own : m.own.length ≤ 1024
 pool : A2p m.ts P
theorem C48 {α : Type} {f : α → Value} (l : List α) (i : Nat) (x : α) (h : i < l.length) : U4 (l.map f) i [f x] = (l.set i x).map f := by rw [B7K (by simpa using h), List.map_set]
theorem A5f {κ : Bool} {S : List Nat} {w0 : World} {H : List Res} {K0 : WP} {P : S7} {v : Value} {l : List EnV} (hm : N4 P ∈ H) (ht : (v, l) ∈ P) (h : ∀ a c, v = .slice a l.length c → TW κ S w0 H K0) : TW κ S w0 H K0 := fun w hw => by
 obtain ⟨a, c, e⟩ := Q2.form ((hw.hold _ hm : A8S P w) _ ht)
 exact h a c e w hw
end Go.Proofs.YtjobgnabneddjaaGreat
namespace Go.Proofs.YtjobgnabneddjaaGreat
open Go
end Go.Proofs.YtjobgnabneddjaaGreat
namespace Go.Proofs.YtjobgnabneddjaaGreat
open Go
end Go.Proofs.YtjobgnabneddjaaGreat
namespace Go.Proofs.YtjobgnabneddjaaGreat
open Go
def A2e : Nat → RunV → RunV → Prop
 | 0, r, r' => r = r'
 | k + 1, r, r' => r.j.ready r.x = true ∧ A2e k r.next r'
theorem A2e.trans {r r' r'' : RunV} : ∀ {k m : Nat}, A2e k r r' → A2e m r' r'' → A2e (k + m) r r''
 | 0, m, h, h' => by cases h; simpa using h'
 | k + 1, m, h, h' => by
  rw [show k + 1 + m = k + m + 1 by omega]
  exact ⟨h.1, A2e.trans h.2 h'⟩
theorem A2e.run {r r' : RunV} : ∀ {k : Nat} (f : Nat), A2e k r r' → B2e (k + f) r = B2e f r'
 | 0, f, h => by cases h; simp
 | k + 1, f, h => by
  rw [show k + 1 + f = k + f + 1 by omega, B2e, if_pos h.1]
  exact A2e.run f h.2
theorem C7Q {r : RunV} (h : r.j.b.st = -1) : ∀ f, B2e f r = r
 | 0 => rfl
 | f + 1 => by rw [B2e, if_neg (by simp [JV.ready, h])]
theorem A2e.ends {r r' : RunV} {k : Nat} (h : A2e k r r') (hk : k ≤ 200) (he : r'.j.b.st = -1) : B2e 200 r = r' := by
 have := h.run (200 - k)
 rw [show k + (200 - k) = 200 by omega] at this
 rw [this, C7Q he]
theorem A2e.one {r : RunV} (h : r.j.ready r.x = true) : A2e 1 r r.next := ⟨h, rfl⟩
def C6P (x : WS) (k : Nat) : List Int := (List.range k).map fun i : Nat => D3 x.cells (E6 x.c (((i : Nat) : Int) + 1))
def B0c (P : List Int) (l : List (Int × Int)) : List (Int × Int) := l.map fun s => if q7 P s then (0, 0) else s
def B1c (P : List Int) (l : List (Int × Int)) (s : List SlV) : List SlV := List.zipWith (fun k s => if q7 P k then .no else s) l s
theorem D1d (P : List Int) : q7 P (0, 0) = false := rfl
end Go.Proofs.YtjobgnabneddjaaGreat
namespace Go.Proofs.YtjobgnabneddjaaGreat
open Go
theorem A46 (l : List SlV) (i : Int) (x : SlV) : (p5 l i x).length = l.length := by unfold p5; split <;> simp
theorem C3c (l : List SlV) (i : Int) (p : List E9) : (A0C l i p).length = l.length := by
 unfold A0C; split
 ·split
  ·exact A46 _ _ _
  ·rfl
 ·rfl
theorem C3D (l : List (Int × Int)) (i a : Int) (s : Int × Int) : (B3V l i a s).length = l.length := by unfold B3V; split <;> simp
theorem B4k (l : List (Int × Int)) : (A1j l).length = l.length := by unfold A1j; split <;> simp
theorem A01 (l : List Int) (i v : Int) : (H7 l i v).length = l.length := by unfold H7; split <;> simp
theorem A1D (l : List Int) (i v : Int) : D3 (H7 l i v) i = if 0 ≤ i ∧ i < l.length then v else 0 := by
 unfold D3 H7
 by_cases h : 0 ≤ i ∧ i < l.length
 ·rw [if_pos h, if_pos h, if_pos (by rw [List.length_set]; exact h), List.getD_eq_getElem?_getD, List.getElem?_set_self (by omega)]; rfl
 ·rw [if_neg h, if_neg h, if_neg h]
theorem m8 {i k : Int} (l : List Int) (v : Int) (h : i ≠ k) : D3 (H7 l i v) k = D3 l k := by
 unfold D3 H7
 by_cases h1 : 0 ≤ i ∧ i < l.length
 ·rw [if_pos h1, List.length_set]
  by_cases h2 : 0 ≤ k ∧ k < l.length
  ·rw [if_pos h2, if_pos h2, List.getD_eq_getElem?_getD, List.getD_eq_getElem?_getD, List.getElem?_set_ne (by omega)]
  ·rw [if_neg h2, if_neg h2]
 ·rw [if_neg h1]
end Go.Proofs.YtjobgnabneddjaaGreat
namespace Go.Proofs.YtjobgnabneddjaaGreat
open Go
theorem A02 : ∀ A : List Res, Sels A A
 | [] => Sels.nil
 | r :: A => Sels.cons Sel.here (A02 A)
theorem B3C (B : List Res) : ∀ A : List Res, Part A (A ++ B) B
 | [] => Part.nil
 | r :: A => Part.cons Sel.here (B3C B A)
end Go.Proofs.YtjobgnabneddjaaGreat
namespace Go.Proofs.YtjobgnabneddjaaGreat
open Go
theorem Fn.frame {f : FuncId} {args : Array Value} {w : World} {α : Type} {φ : α → Value → Prop} {Hn : α → List Res} {Hc Hk : List Res} (h : Fn PR C0 f args w (Rn (B6 Hc) w φ Hn)) (hw : LW false (B6 (Hc ++ Hk)) w (Hc ++ Hk) w) :
  Fn PR C0 f args w (Rn (B6 (Hc ++ Hk)) w φ fun a => Hn a ++ Hk) := h.mono fun v w' ⟨a, h1, h2⟩ => ⟨a, h1, hw.part h2⟩
structure WoAt (w : World) (m : WoH) : Prop where
 b : bl w m.b = some (.cells (E5 m.c (.pointer (some ⟨m.bc, 0, none⟩)) (.pointer (some ⟨m.bs, 0, none⟩)) (.pointer (some ⟨m.bk, 0, none⟩)) m.tv m.pv (.int .i64 m.now)) 39 (0, 0))
 c : bl w m.bc = some (.cells #[.int .i64 m.cn, m.cv, m.ov] 141 (0, 0))
 v : F9 w m.ov m.own.length (G5 m.own)
theorem WoAt.own {κ : Bool} {S : List Nat} {w0 w : World} {H : List Res} {m : WoH} (hw : LW κ S w0 H w) (h : ∀ r ∈ C7 m, r ∈ H) : WoAt w m :=
 ⟨hw.pt (h _ (by unfold C7 D8; (repeat constructor))), hw.pt (h _ (by unfold C7; (repeat constructor))), N9.own (e := 3) (k := 1) (h _ (by unfold C7; (repeat constructor))) w hw⟩
theorem WoAt.ks {w w' : World} {m : WoH} (h : WoAt w m) (hk : KS false [] w w') : WoAt w' m := ⟨hk.2.1 _ _ (by simp) rfl h.b, hk.2.1 _ _ (by simp) rfl h.c, h.v.ks hk (by simp)⟩
end Go.Proofs.YtjobgnabneddjaaGreat
namespace Go.Proofs.YtjobgnabneddjaaGreat
open Go
def K6 (j : JW) (tv : Value) : Array Value := #[.string j.text, .string j.key, .int .i64 j.shard, .bool j.closing, .int .i64 j.who, .int .i64 j.st, .int .i64 j.ep, .int .i64 j.slot, .int .i64 j.now, tv, .int .i64 j.ans.err, .int .i64 j.ans.bk, .bool j.ans.made, .int .i64 j.ans.count]
def G6 (b : Nat) (j : JW) (tv : Value) : Res := .pt b (.cells (K6 j tv) 130)
theorem B2c (w : World) (who : Int) (text : ByteArray) :
  Fn PR C0 17 #[.int .i64 who, .string text] w (Rn [] w (fun (b : Nat) u => u = .pointer (some ⟨b, 0, none⟩)) fun b => [G6 b (E7 who text) L9]) := by
 refine B6x (TW.go (κ := false) (S := []) ?_)
 unfold A9N
 (have zz:=trivial;repeat((first|clear zz|with_reducible first|refine A3 ?_|refine A5 fun _=>?_|refine A4 fun _=>?_);try simp(disch:=first|omega|assumption|((repeat(first|exact A1|exact uH|apply A2|apply uT));first|done|fail)|(simp;first|done|omega|fail))[]))
 rename_i b
 refine B1 b rfl ?_
 simp only [G6, K6, E7, L9, noA, H4]
 (repeat' constructor)
theorem C9U {w : World} {b : Nat} {j : JW} {tv : Value} (h : bl w b = some (.cells (K6 j tv) 130 (0, 0))) : w.cell? ⟨b, 5, none⟩ = some (.int .i64 j.st) := by rw [F3 h]; rfl
theorem B36 (w : World) (b : Nat) (j : JW) (tv : Value) (h : bl w b = some (.cells (K6 j tv) 130 (0, 0))) :
  Fn PR C0 22 #[.pointer (some ⟨b, 0, none⟩)] w (fun u w' => u = .int .i64 j.st ∧ D2 [] w w') := by
 refine Fn.pure (A9f (TW.go (κ := false) (S := []) ?_))
 unfold A2C
 have h5 := C9U h
 (have zz:=trivial;repeat((first|clear zz|with_reducible first|refine A3 ?_|refine A5 fun _=>?_|refine A4 fun _=>?_);try simp(disch:=first|omega|assumption|((repeat(first|exact A1|exact uH|apply A2|apply uT));first|done|fail)|(simp;first|done|omega|fail))[h5]))
 exact B0 rfl
theorem A6W (w : World) (b : Nat) (j : JW) (tv : Value) (h : bl w b = some (.cells (K6 j tv) 130 (0, 0))) :
  Fn PR C0 27 #[.pointer (some ⟨b, 0, none⟩)] w (fun u w' => u = j.ans.val ∧ D2 [] w w') := by
 refine Fn.pure (A8b (TW.go (κ := false) (S := []) ?_))
 unfold A1m
 have e2 : n8 w b 10 4 = some [.int .i64 j.ans.err, .int .i64 j.ans.bk, .bool j.ans.made, .int .i64 j.ans.count] := A0B (by rfl) (N8.bl h)
 (have zz:=trivial;repeat((first|clear zz|with_reducible first|refine A3 ?_|refine A5 fun _=>?_|refine A4 fun _=>?_);try simp(disch:=first|omega|assumption|((repeat(first|exact A1|exact uH|apply A2|apply uT));first|done|fail)|(simp;first|done|omega|fail))[e2]))
 exact B0 rfl
theorem C0e (w : World) (b : Nat) (j : JW) (tv : Value) (m : WoH) (h : bl w b = some (.cells (K6 j tv) 130 (0, 0))) (hm : WoAt w m) :
  Fn PR C0 23 #[.pointer (some ⟨b, 0, none⟩), .pointer (some ⟨m.b, 0, none⟩)] w (fun u w' => u = .bool (j.ready m.ws) ∧ D2 [] w w') := by
 refine Fn.pure (A9v (TW.go (κ := false) (S := []) ?_))
 unfold A2E
 have h5 := C9U h
 have h2 : w.cell? ⟨b, 2, none⟩ = some (.int .i64 j.shard) := by rw [F3 h]; rfl
 have hc : w.cell? ⟨m.b, 5, none⟩ = some (.pointer (some ⟨m.bc, 0, none⟩)) := by rw [F3 hm.b]; rfl
 have ho : m.ws.own = m.own := rfl
 unfold JW.ready
 by_cases c1 : j.st < 10
 case neg =>
  (have zz:=trivial;repeat((first|clear zz|with_reducible first|refine A3 ?_|refine A5 fun _=>?_|refine A4 fun _=>?_);try simp(disch:=first|omega|assumption|((repeat(first|exact A1|exact uH|apply A2|apply uT));first|done|fail)|(simp;first|done|omega|fail))[h5, c1]))
  exact B0 (by simp [c1])
 by_cases c2 : j.st = 3
 case neg =>
  (have zz:=trivial;repeat((first|clear zz|with_reducible first|refine A3 ?_|refine A5 fun _=>?_|refine A4 fun _=>?_);try simp(disch:=first|omega|assumption|((repeat(first|exact A1|exact uH|apply A2|apply uT));first|done|fail)|(simp;first|done|omega|fail))[h5, c1, c2]))
  exact B0 (by simp [c1, c2])
 (have zz:=trivial;repeat((first|clear zz|with_reducible first|refine A3 ?_|refine A5 fun _=>?_|refine A4 fun _=>?_);try simp(disch:=first|omega|assumption|((repeat(first|exact A1|exact uH|apply A2|apply uT));first|done|fail)|(simp;first|done|omega|fail))[h5, c1, c2, h2, hc]))
 refine C4 A1E (fun w' hw' => let g := hm.ks hw'.ks; B5q w' m.bc m.cn m.cv m.ov m.own j.shard g.c g.v) ?_
 (have zz:=trivial;repeat((first|clear zz|with_reducible first|refine A3 ?_|refine A5 fun _=>?_|refine A4 fun _=>?_);try simp(disch:=first|omega|assumption|((repeat(first|exact A1|exact uH|apply A2|apply uT));first|done|fail)|(simp;first|done|omega|fail))[c1, c2]))
 exact B0 (by simp [c2, ho])
theorem B2N (w : World) (b : Nat) (j : JW) (tv : Value) (e : Int) (hw : LW false [b] w [G6 b j tv] w) :
  Fn PR C0 130 #[.pointer (some ⟨b, 0, none⟩), .int .i64 e] w (Rn [b] w (fun (_ : Unit) u => u = N1 (true, true, false)) fun _ => [G6 b (j.refuse e) tv]) := by
 refine A8f (TW.goH (κ := false) (S := [b]) ?_ hw)
 unfold A1w
 simp only [G6, K6, JW.refuse]
 (have zz:=trivial;repeat((first|clear zz|with_reducible first|refine A3 ?_|refine A5 fun _=>?_|refine A4 fun _=>?_);try simp(disch:=first|omega|assumption|((repeat(first|exact A1|exact uH|apply A2|apply uT));first|done|fail)|(simp;first|done|omega|fail))[]))
 exact B1 () rfl (by (repeat' constructor))
theorem B6F (w : World) (b : Nat) (j : JW) (tv : Value) (sh : Int) (ht : j.text.size < 2 ^ 40) (hsh : sh < 2 ^ 63) (hw : LW false [b] w [G6 b j tv] w) :
  Fn PR C0 131 #[.pointer (some ⟨b, 0, none⟩), .int .i64 sh] w (Rn [b] w (fun (_ : Unit) u => u = .bool (decide ((B2 j.text).2.2 = 0))) fun _ => [G6 b (if (B2 j.text).2.2 = 0 then j.rd sh else j) tv]) := by
 refine A9m (TW.goH (κ := false) (S := [b]) ?_ hw)
 unfold A2V
 simp only [G6, K6]
 (have zz:=trivial;repeat((first|clear zz|with_reducible first|refine A3 ?_|refine A5 fun _=>?_|refine A4 fun _=>?_);try simp(disch:=first|omega|assumption|((repeat(first|exact A1|exact uH|apply A2|apply uT));first|done|fail)|(simp;first|done|omega|fail))[]))
 refine C4 A48 (fun w' hw' => A7H w' j.text ht) ?_
 by_cases c1 : (B2 j.text).2.2 = 0
 case neg =>
  simp only [if_neg c1, decide_eq_false c1]
  (have zz:=trivial;repeat((first|clear zz|with_reducible first|refine A3 ?_|refine A5 fun _=>?_|refine A4 fun _=>?_);try simp(disch:=first|omega|assumption|((repeat(first|exact A1|exact uH|apply A2|apply uT));first|done|fail)|(simp;first|done|omega|fail))[packet.val, S2, c1]))
  exact B1 () rfl (by (repeat' constructor))
 simp only [if_pos c1, decide_eq_true c1]
 have hk := A3c (B2 j.text).1
 (have zz:=trivial;repeat((first|clear zz|with_reducible first|refine A3 ?_|refine A5 fun _=>?_|refine A4 fun _=>?_);try simp(disch:=first|omega|assumption|((repeat(first|exact A1|exact uH|apply A2|apply uT));first|done|fail)|(simp;first|done|omega|fail))[packet.val, S2, c1]))
 refine C4 (u := A29 (B2 j.text).1) A4x (fun w' hw' => B7P w' (B2 j.text).1) ?_
 (have zz:=trivial;repeat((first|clear zz|with_reducible first|refine A3 ?_|refine A5 fun _=>?_|refine A4 fun _=>?_);try simp(disch:=first|omega|assumption|((repeat(first|exact A1|exact uH|apply A2|apply uT));first|done|fail)|(simp;first|done|omega|fail))[A29]))
 rw [show (if Z2 (B2 j.text).1 = true then A3P (B2 j.text).1 else H4) = P9 (B2 j.text).1 from rfl]
 refine C4 A55 (fun w' hw' => B80 w' _ sh hk hsh) ?_
 (have zz:=trivial;repeat((first|clear zz|with_reducible first|refine A3 ?_|refine A5 fun _=>?_|refine A4 fun _=>?_);try simp(disch:=first|omega|assumption|((repeat(first|exact A1|exact uH|apply A2|apply uT));first|done|fail)|(simp;first|done|omega|fail))[]))
 rw [x7 (by (repeat constructor)) (by rfl)]
 refine C4 V5 (fun w' _ => A71 w' (B2 j.text).1 (B2 j.text).2.1) ?_
 (have zz:=trivial;repeat((first|clear zz|with_reducible first|refine A3 ?_|refine A5 fun _=>?_|refine A4 fun _=>?_);try simp(disch:=first|omega|assumption|((repeat(first|exact A1|exact uH|apply A2|apply uT));first|done|fail)|(simp;first|done|omega|fail))[]))
 refine B1 () rfl ?_
 simp only [JW.rd]
 (repeat' constructor)
end Go.Proofs.YtjobgnabneddjaaGreat
namespace Go.Proofs.YtjobgnabneddjaaGreat
open Go
structure WoZ where
 cn : Int
 cells : List Int
 own : List Int
 tv : Value
 ts : S7
def WoH.uz (m : WoH) (d : WoZ) : WoH := { m with cn := d.cn, cells := d.cells, own := d.own, tv := d.tv, ts := d.ts }
def WoH.dz (m : WoH) : WoZ := ⟨m.cn, m.cells, m.own, m.tv, m.ts⟩
structure JwOk (j : JW) (tv : Value) (m : WoH) (P : S7) : Prop where
 ws : WsOk m.ws
 tabs : TabsOk m P
 tb : (tv, j.table) ∈ P
 shn : m.ts.length = m.c.sh
 text : j.text.size < 2 ^ 40
 key : j.key.size < 2 ^ 60
 shard : 0 ≤ j.shard ∧ j.shard < m.ts.length
 keys : N0 j.table
 len : j.table.length ≤ 1000000
 slot : -1 ≤ j.slot ∧ j.slot ≤ 1000
 ep : 0 ≤ D3 m.cells 0 ∧ D3 m.cells 0 ≤ 1000000
 cur : 0 ≤ D3 m.cells 1 ∧ D3 m.cells 1 ≤ 1000
abbrev JwY := Value × WoZ × S7
def jwF (m : WoH) (P : S7) (r : JwR) (y : JwY) : Prop := (m.uz y.2.1).ws = r.2.1 ∧ A2p y.2.1.ts y.2.2 ∧ (y.1, r.1.table) ∈ y.2.2 ∧ B4e P y.2.2 r.1.table
def Q4 (b : Nat) (m : WoH) (r : JwR) (y : JwY) : List Res := G6 b r.1 y.1 :: N4 y.2.2 :: C7 (m.uz y.2.1)
def F7 (b : Nat) (j : JW) (tv : Value) (m : WoH) (P : S7) : List Res := G6 b j tv :: N4 P :: C7 m
abbrev A42 (f : FuncId) (w : World) (b : Nat) (j : JW) (tv : Value) (m : WoH) (P : S7) (r : JwR) : Prop :=
 Fn PR C0 f #[.pointer (some ⟨b, 0, none⟩), .pointer (some ⟨m.b, 0, none⟩)] w (Rn (B6 (F7 b j tv m P)) w (fun (y : JwY) u => u = N1 r.2.2 ∧ jwF m P r y) (Q4 b m r))
theorem N5 {m : WoH} {P : S7} {tv : Value} {r : JwR} {d : WoZ} (h1 : (m.uz d).ws = r.2.1) (h2 : d.ts = m.ts) (hP : A2p m.ts P) (h3 : (tv, r.1.table) ∈ P) : jwF m P r (tv, d, P) := ⟨h1, by rw [h2]; exact hP, h3, .same _ _⟩
theorem C9j (w : World) (b : Nat) (j : JW) (tv : Value) (m : WoH) (P : S7) (h : JwOk j tv m P) (hw : LW false (B6 (F7 b j tv m P)) w (F7 b j tv m P) w) : A42 77 w b j tv m P (jw1 j m.ws) := by
 refine B11 (TW.goH (κ := false) ?_ hw)
 unfold A3y
 have hwk := h.ws.wk
 have hcl : m.cells.length ≤ 1024 := by have := h.ws.cells; have e : m.ws.cells = m.cells := rfl; rw [e] at this; omega
 generalize hS : B6 (F7 b j tv m P) = S at *
 simp only [F7, G6, K6, C7, D8, E5]
 (have zz:=trivial;repeat((first|clear zz|with_reducible first|refine A3 ?_|refine A5 fun _=>?_|refine A4 fun _=>?_);try simp(disch:=first|omega|assumption|((repeat(first|exact A1|exact uH|apply A2|apply uT));first|done|fail)|(simp;first|done|omega|fail))[]))
 refine C4 N7 (fun w' hw' => A2v w' m.b m.c _ _ _ _ _ _ j.who hwk.2 (hw'.pt (b := m.b) (by unfold E5; (repeat constructor)))) ?_
 (have zz:=trivial;repeat((first|clear zz|with_reducible first|refine A3 ?_|refine A5 fun _=>?_|refine A4 fun _=>?_);try simp(disch:=first|omega|assumption|((repeat(first|exact A1|exact uH|apply A2|apply uT));first|done|fail)|(simp;first|done|omega|fail))[]))
 refine D0 (Hc := D5 m.bc m.cn m.cv m.ov m.cells m.own) l5 (fun w' _ hs => B0p w' m.bc m.cn m.cv m.ov m.cells m.own (E6 m.c j.who) (IntKind.i64.wrap (j.ep + 1)) hcl hs) (by unfold D5; (repeat' constructor)) ?_
 rintro n' v rfl
 simp only [D5, List.cons_append, List.nil_append]
 (have zz:=trivial;repeat((first|clear zz|with_reducible first|refine A3 ?_|refine A5 fun _=>?_|refine A4 fun _=>?_);try simp(disch:=first|omega|assumption|((repeat(first|exact A1|exact uH|apply A2|apply uT));first|done|fail)|(simp;first|done|omega|fail))[]))
 refine B1 (tv, { m.dz with cn := n', cells := H7 m.cells (E6 m.c j.who) (IntKind.i64.wrap (j.ep + 1)) }, P) ⟨rfl, N5 rfl rfl h.tabs.pool h.tb⟩ ?_
 simp only [Q4, jw1, G6, K6, C7, D8, E5, WoH.uz, WoH.dz]
 (repeat' constructor)
theorem C8w (w : World) (b : Nat) (j : JW) (tv : Value) (m : WoH) (P : S7) (h : JwOk j tv m P) (hw : LW false (B6 (F7 b j tv m P)) w (F7 b j tv m P) w) : A42 85 w b j tv m P (jw9 j m.ws) := by
 refine A9j (TW.goH (κ := false) ?_ hw)
 unfold A2L
 have hwk := h.ws.wk
 have hcl : m.cells.length ≤ 1024 := by have := h.ws.cells; have e : m.ws.cells = m.cells := rfl; rw [e] at this; omega
 generalize hS : B6 (F7 b j tv m P) = S at *
 simp only [F7, G6, K6, C7, D8, E5]
 (have zz:=trivial;repeat((first|clear zz|with_reducible first|refine A3 ?_|refine A5 fun _=>?_|refine A4 fun _=>?_);try simp(disch:=first|omega|assumption|((repeat(first|exact A1|exact uH|apply A2|apply uT));first|done|fail)|(simp;first|done|omega|fail))[]))
 refine C4 N7 (fun w' hw' => A2v w' m.b m.c _ _ _ _ _ _ j.who hwk.2 (hw'.pt (b := m.b) (by unfold E5; (repeat constructor)))) ?_
 (have zz:=trivial;repeat((first|clear zz|with_reducible first|refine A3 ?_|refine A5 fun _=>?_|refine A4 fun _=>?_);try simp(disch:=first|omega|assumption|((repeat(first|exact A1|exact uH|apply A2|apply uT));first|done|fail)|(simp;first|done|omega|fail))[]))
 refine D0 (Hc := D5 m.bc m.cn m.cv m.ov m.cells m.own) l5 (fun w' _ hs => B0p w' m.bc m.cn m.cv m.ov m.cells m.own (E6 m.c j.who) 0 hcl hs) (by unfold D5; (repeat' constructor)) ?_
 rintro n' v rfl
 simp only [D5, List.cons_append, List.nil_append]
 (have zz:=trivial;repeat((first|clear zz|with_reducible first|refine A3 ?_|refine A5 fun _=>?_|refine A4 fun _=>?_);try simp(disch:=first|omega|assumption|((repeat(first|exact A1|exact uH|apply A2|apply uT));first|done|fail)|(simp;first|done|omega|fail))[]))
 refine B1 (tv, { m.dz with cn := n', cells := H7 m.cells (E6 m.c j.who) 0 }, P) ⟨rfl, N5 rfl rfl h.tabs.pool h.tb⟩ ?_
 simp only [Q4, jw9, G6, K6, C7, D8, E5, WoH.uz, WoH.dz]
 (repeat' constructor)
theorem C9L (w : World) (b : Nat) (j : JW) (tv : Value) (m : WoH) (P : S7) (h : JwOk j tv m P) (hw : LW false (B6 (F7 b j tv m P)) w (F7 b j tv m P) w) : A42 79 w b j tv m P (jw3 j m.ws) := by
 refine B1L (TW.goH (κ := false) ?_ hw)
 unfold A3f
 have hol := h.tabs.own
 generalize hS : B6 (F7 b j tv m P) = S at *
 simp only [F7, G6, K6, C7, D8, E5]
 (have zz:=trivial;repeat((first|clear zz|with_reducible first|refine A3 ?_|refine A5 fun _=>?_|refine A4 fun _=>?_);try simp(disch:=first|omega|assumption|((repeat(first|exact A1|exact uH|apply A2|apply uT));first|done|fail)|(simp;first|done|omega|fail))[]))
 refine D0 (Hc := D5 m.bc m.cn m.cv m.ov m.cells m.own) A1x (fun w' _ hs => B8G w' m.bc m.cn m.cv m.ov m.cells m.own j.shard j.who hol hs) (by unfold D5; (repeat' constructor)) ?_
 rintro n' v ⟨r, rfl⟩
 simp only [D5, List.cons_append, List.nil_append]
 (have zz:=trivial;repeat((first|clear zz|with_reducible first|refine A3 ?_|refine A5 fun _=>?_|refine A4 fun _=>?_);try simp(disch:=first|omega|assumption|((repeat(first|exact A1|exact uH|apply A2|apply uT));first|done|fail)|(simp;first|done|omega|fail))[]))
 refine B1 (tv, { m.dz with cn := n', own := U8 m.own j.shard j.who }, P) ⟨rfl, N5 rfl rfl h.tabs.pool h.tb⟩ ?_
 simp only [Q4, jw3, G6, K6, C7, D8, E5, WoH.uz, WoH.dz]
 (repeat' constructor)
theorem C8s (w : World) (b : Nat) (j : JW) (tv : Value) (m : WoH) (P : S7) (h : JwOk j tv m P) (hw : LW false (B6 (F7 b j tv m P)) w (F7 b j tv m P) w) : A42 84 w b j tv m P (jw8 j m.ws) := by
 refine A8s (TW.goH (κ := false) ?_ hw)
 unfold A1U
 have hol := h.tabs.own
 generalize hS : B6 (F7 b j tv m P) = S at *
 simp only [F7, G6, K6, C7, D8, E5]
 (have zz:=trivial;repeat((first|clear zz|with_reducible first|refine A3 ?_|refine A5 fun _=>?_|refine A4 fun _=>?_);try simp(disch:=first|omega|assumption|((repeat(first|exact A1|exact uH|apply A2|apply uT));first|done|fail)|(simp;first|done|omega|fail))[]))
 refine D0 (Hc := D5 m.bc m.cn m.cv m.ov m.cells m.own) A0b (fun w' _ hs => B31 w' m.bc m.cn m.cv m.ov m.cells m.own j.shard j.who hol hs) (by unfold D5; (repeat' constructor)) ?_
 rintro n' v ⟨r, rfl⟩
 simp only [D5, List.cons_append, List.nil_append]
 (have zz:=trivial;repeat((first|clear zz|with_reducible first|refine A3 ?_|refine A5 fun _=>?_|refine A4 fun _=>?_);try simp(disch:=first|omega|assumption|((repeat(first|exact A1|exact uH|apply A2|apply uT));first|done|fail)|(simp;first|done|omega|fail))[]))
 refine B1 (tv, { m.dz with cn := n', own := M8 m.own j.shard j.who }, P) ⟨rfl, N5 rfl rfl h.tabs.pool h.tb⟩ ?_
 simp only [Q4, jw8, G6, K6, C7, D8, E5, WoH.uz, WoH.dz]
 (repeat' constructor)
theorem C8Z (w : World) (b : Nat) (j : JW) (tv : Value) (m : WoH) (P : S7) (h : JwOk j tv m P) (hw : LW false (B6 (F7 b j tv m P)) w (F7 b j tv m P) w) : A42 78 w b j tv m P (jw2 j m.ws) := by
 refine A9x (TW.goH (κ := false) ?_ hw)
 unfold A2D
 have hwk := h.ws.wk
 have hcl : m.cells.length ≤ 1024 := by have := h.ws.cells; have e : m.ws.cells = m.cells := rfl; rw [e] at this; omega
 generalize hS : B6 (F7 b j tv m P) = S at *
 have e0 : D3 m.ws.cells 0 = D3 m.cells 0 := rfl
 unfold jw2
 rw [e0]
 by_cases c1 : D3 m.cells 0 = j.ep
 ·rw [if_pos c1]
  simp only [F7, G6, K6, C7, D8, E5]
  (have zz:=trivial;repeat((first|clear zz|with_reducible first|refine A3 ?_|refine A5 fun _=>?_|refine A4 fun _=>?_);try simp(disch:=first|omega|assumption|((repeat(first|exact A1|exact uH|apply A2|apply uT));first|done|fail)|(simp;first|done|omega|fail))[]))
  refine D0 (Hc := D5 m.bc m.cn m.cv m.ov m.cells m.own) S8 (fun w' _ hs => A49 w' m.bc m.cn m.cv m.ov m.cells m.own 0 hcl hs) (by unfold D5; (repeat' constructor)) ?_
  rintro n' v rfl
  rw [c1]
  simp only [D5, List.cons_append, List.nil_append]
  (have zz:=trivial;repeat((first|clear zz|with_reducible first|refine A3 ?_|refine A5 fun _=>?_|refine A4 fun _=>?_);try simp(disch:=first|omega|assumption|((repeat(first|exact A1|exact uH|apply A2|apply uT));first|done|fail)|(simp;first|done|omega|fail))[]))
  refine B1 (tv, { m.dz with cn := n' }, P) ⟨rfl, N5 rfl rfl h.tabs.pool h.tb⟩ ?_
  simp only [Q4, G6, K6, C7, D8, E5, WoH.uz, WoH.dz]
  (repeat' constructor)
 ·rw [if_neg c1]
  simp only [F7, G6, K6, C7, D8, E5]
  (have zz:=trivial;repeat((first|clear zz|with_reducible first|refine A3 ?_|refine A5 fun _=>?_|refine A4 fun _=>?_);try simp(disch:=first|omega|assumption|((repeat(first|exact A1|exact uH|apply A2|apply uT));first|done|fail)|(simp;first|done|omega|fail))[]))
  refine D0 (Hc := D5 m.bc m.cn m.cv m.ov m.cells m.own) S8 (fun w' _ hs => A49 w' m.bc m.cn m.cv m.ov m.cells m.own 0 hcl hs) (by unfold D5; (repeat' constructor)) ?_
  rintro n' v rfl
  simp only [D5, List.cons_append, List.nil_append]
  (have zz:=trivial;repeat((first|clear zz|with_reducible first|refine A3 ?_|refine A5 fun _=>?_|refine A4 fun _=>?_);try simp(disch:=first|omega|assumption|((repeat(first|exact A1|exact uH|apply A2|apply uT));first|done|fail)|(simp;first|done|omega|fail))[c1]))
  refine B1 (tv, { m.dz with cn := n' }, P) ⟨rfl, N5 rfl rfl h.tabs.pool h.tb⟩ ?_
  simp only [Q4, G6, K6, C7, D8, E5, WoH.uz, WoH.dz]
  (repeat' constructor)
theorem C8y (w : World) (b : Nat) (j : JW) (tv : Value) (m : WoH) (P : S7) (h : JwOk j tv m P) (hw : LW false (B6 (F7 b j tv m P)) w (F7 b j tv m P) w) : A42 80 w b j tv m P (jw4 j m.ws) := by
 refine A66 (TW.goH (κ := false) ?_ hw)
 unfold A1A
 have hwk := h.ws.wk
 have hcl : m.cells.length ≤ 1024 := by have := h.ws.cells; have e : m.ws.cells = m.cells := rfl; rw [e] at this; omega
 generalize hS : B6 (F7 b j tv m P) = S at *
 simp only [F7, G6, K6, C7, D8, E5]
 (have zz:=trivial;repeat((first|clear zz|with_reducible first|refine A3 ?_|refine A5 fun _=>?_|refine A4 fun _=>?_);try simp(disch:=first|omega|assumption|((repeat(first|exact A1|exact uH|apply A2|apply uT));first|done|fail)|(simp;first|done|omega|fail))[]))
 refine D0 (Hc := D5 m.bc m.cn m.cv m.ov m.cells m.own) S8 (fun w' _ hs => A49 w' m.bc m.cn m.cv m.ov m.cells m.own 1 hcl hs) (by unfold D5; (repeat' constructor)) ?_
 rintro n' v rfl
 obtain ⟨z, hz⟩ : ∃ z, z = IntKind.i64.wrap (D3 m.cells 1 - 1) := ⟨_, rfl⟩
 have e4 : jw4 j m.ws = ({ j with slot := z, now := m.now }, m.ws, true, false, false) := by rw [hz]; rfl
 rw [e4]
 simp only [D5, List.cons_append, List.nil_append, D0p, ← hz]
 (have zz:=trivial;repeat((first|clear zz|with_reducible first|refine A3 ?_|refine A5 fun _=>?_|refine A4 fun _=>?_);try simp(disch:=first|omega|assumption|((repeat(first|exact A1|exact uH|apply A2|apply uT));first|done|fail)|(simp;first|done|omega|fail))[← hz]))
 refine B1 (tv, { m.dz with cn := n' }, P) ⟨rfl, N5 rfl rfl h.tabs.pool h.tb⟩ ?_
 simp only [Q4, G6, K6, C7, D8, E5, WoH.uz, WoH.dz]
 (repeat' constructor)
theorem C9n (w : World) (b : Nat) (j : JW) (tv : Value) (m : WoH) (P : S7) (h : JwOk j tv m P) (hsh : m.c.sh ≤ 1000) (hw : LW false (B6 (F7 b j tv m P)) w (F7 b j tv m P) w) : A42 76 w b j tv m P (jw0 j m.ws) := by
 refine A95 (TW.goH (κ := false) ?_ hw)
 unfold A2H
 have hwk := h.ws.wk
 have hcl : m.cells.length ≤ 1024 := by have := h.ws.cells; have e : m.ws.cells = m.cells := rfl; rw [e] at this; omega
 generalize hS : B6 (F7 b j tv m P) = S at *
 have e0 : m.ws.c = m.c := rfl
 have e1 : D3 m.ws.cells 0 = D3 m.cells 0 := rfl
 unfold jw0
 rw [e0, e1]
 by_cases c1 : E6 m.c j.who < 0
 ·rw [if_pos c1]
  simp only [F7, G6, K6, C7, D8, E5]
  (have zz:=trivial;repeat((first|clear zz|with_reducible first|refine A3 ?_|refine A5 fun _=>?_|refine A4 fun _=>?_);try simp(disch:=first|omega|assumption|((repeat(first|exact A1|exact uH|apply A2|apply uT));first|done|fail)|(simp;first|done|omega|fail))[]))
  refine C4 N7 (fun w' hw' => A2v w' m.b m.c _ _ _ _ _ _ j.who hwk.2 (hw'.pt (b := m.b) (by unfold E5; (repeat constructor)))) ?_
  (have zz:=trivial;repeat((first|clear zz|with_reducible first|refine A3 ?_|refine A5 fun _=>?_|refine A4 fun _=>?_);try simp(disch:=first|omega|assumption|((repeat(first|exact A1|exact uH|apply A2|apply uT));first|done|fail)|(simp;first|done|omega|fail))[c1]))
  refine D0 (Hc := [G6 b j tv]) A08 (fun w' _ hs => B2N w' b j tv 1 hs) (by unfold G6 K6; (repeat' constructor)) ?_
  rintro _ v rfl
  simp only [List.cons_append, List.nil_append, N1, G6, K6]
  (have zz:=trivial;repeat((first|clear zz|with_reducible first|refine A3 ?_|refine A5 fun _=>?_|refine A4 fun _=>?_);try simp(disch:=first|omega|assumption|((repeat(first|exact A1|exact uH|apply A2|apply uT));first|done|fail)|(simp;first|done|omega|fail))[]))
  refine B1 (tv, m.dz, P) ⟨rfl, N5 rfl rfl h.tabs.pool h.tb⟩ ?_
  simp only [Q4, G6, K6, C7, D8, E5, WoH.uz, WoH.dz]
  (repeat' constructor)
 rw [if_neg c1]
 by_cases c2 : (B2 j.text).2.2 = 0
 case neg =>
  rw [if_pos c2]
  simp only [F7, G6, K6, C7, D8, E5]
  (have zz:=trivial;repeat((first|clear zz|with_reducible first|refine A3 ?_|refine A5 fun _=>?_|refine A4 fun _=>?_);try simp(disch:=first|omega|assumption|((repeat(first|exact A1|exact uH|apply A2|apply uT));first|done|fail)|(simp;first|done|omega|fail))[]))
  refine C4 N7 (fun w' hw' => A2v w' m.b m.c _ _ _ _ _ _ j.who hwk.2 (hw'.pt (b := m.b) (by unfold E5; (repeat constructor)))) ?_
  (have zz:=trivial;repeat((first|clear zz|with_reducible first|refine A3 ?_|refine A5 fun _=>?_|refine A4 fun _=>?_);try simp(disch:=first|omega|assumption|((repeat(first|exact A1|exact uH|apply A2|apply uT));first|done|fail)|(simp;first|done|omega|fail))[c1]))
  refine D0 (Hc := [G6 b j tv]) A10 (fun w' _ hs => B6F w' b j tv m.c.sh h.text (by omega) hs) (by unfold G6 K6; (repeat' constructor)) ?_
  rintro _ v rfl
  rw [decide_eq_false c2, if_neg c2]
  simp only [List.cons_append, List.nil_append]
  (have zz:=trivial;repeat((first|clear zz|with_reducible first|refine A3 ?_|refine A5 fun _=>?_|refine A4 fun _=>?_);try simp(disch:=first|omega|assumption|((repeat(first|exact A1|exact uH|apply A2|apply uT));first|done|fail)|(simp;first|done|omega|fail))[]))
  refine D0 (Hc := [G6 b j tv]) A08 (fun w' _ hs => B2N w' b j tv 9 hs) (by (repeat' constructor)) ?_
  rintro _ v rfl
  simp only [List.cons_append, List.nil_append, N1, G6, K6]
  (have zz:=trivial;repeat((first|clear zz|with_reducible first|refine A3 ?_|refine A5 fun _=>?_|refine A4 fun _=>?_);try simp(disch:=first|omega|assumption|((repeat(first|exact A1|exact uH|apply A2|apply uT));first|done|fail)|(simp;first|done|omega|fail))[]))
  refine B1 (tv, m.dz, P) ⟨rfl, N5 rfl rfl h.tabs.pool h.tb⟩ ?_
  simp only [Q4, G6, K6, C7, D8, E5, WoH.uz, WoH.dz]
  (repeat' constructor)
 rw [if_neg (by simpa using c2)]
 simp only [F7, G6, K6, C7, D8, E5]
 (have zz:=trivial;repeat((first|clear zz|with_reducible first|refine A3 ?_|refine A5 fun _=>?_|refine A4 fun _=>?_);try simp(disch:=first|omega|assumption|((repeat(first|exact A1|exact uH|apply A2|apply uT));first|done|fail)|(simp;first|done|omega|fail))[]))
 refine C4 N7 (fun w' hw' => A2v w' m.b m.c _ _ _ _ _ _ j.who hwk.2 (hw'.pt (b := m.b) (by unfold E5; (repeat constructor)))) ?_
 (have zz:=trivial;repeat((first|clear zz|with_reducible first|refine A3 ?_|refine A5 fun _=>?_|refine A4 fun _=>?_);try simp(disch:=first|omega|assumption|((repeat(first|exact A1|exact uH|apply A2|apply uT));first|done|fail)|(simp;first|done|omega|fail))[c1]))
 refine D0 (Hc := [G6 b j tv]) A10 (fun w' _ hs => B6F w' b j tv m.c.sh h.text (by omega) hs) (by unfold G6 K6; (repeat' constructor)) ?_
 rintro _ v rfl
 rw [decide_eq_true c2, if_pos c2]
 have hrt : (j.rd m.c.sh).table = j.table := rfl
 generalize j.rd m.c.sh = j2 at *
 simp only [List.cons_append, List.nil_append, G6, K6]
 (have zz:=trivial;repeat((first|clear zz|with_reducible first|refine A3 ?_|refine A5 fun _=>?_|refine A4 fun _=>?_);try simp(disch:=first|omega|assumption|((repeat(first|exact A1|exact uH|apply A2|apply uT));first|done|fail)|(simp;first|done|omega|fail))[]))
 refine D0 (Hc := D5 m.bc m.cn m.cv m.ov m.cells m.own) S8 (fun w' _ hs => A49 w' m.bc m.cn m.cv m.ov m.cells m.own 0 hcl hs) (by unfold D5; (repeat' constructor)) ?_
 rintro n' v rfl
 simp only [D5, List.cons_append, List.nil_append]
 (have zz:=trivial;repeat((first|clear zz|with_reducible first|refine A3 ?_|refine A5 fun _=>?_|refine A4 fun _=>?_);try simp(disch:=first|omega|assumption|((repeat(first|exact A1|exact uH|apply A2|apply uT));first|done|fail)|(simp;first|done|omega|fail))[]))
 refine B1 (tv, { m.dz with cn := n' }, P) ⟨rfl, N5 rfl rfl h.tabs.pool (by simp only; rw [hrt]; exact h.tb)⟩ ?_
 simp only [Q4, G6, K6, C7, D8, E5, WoH.uz, WoH.dz]
 (repeat' constructor)
end Go.Proofs.YtjobgnabneddjaaGreat
namespace Go.Proofs.YtjobgnabneddjaaGreat
open Go
abbrev pW (x : WS) : List Int := C6P x x.c.wk.toNat
abbrev kF (x : WS) : List (Int × Int) := B0c (pW x) x.keep
abbrev sF (x : WS) : List SlV := B1c (pW x) x.keep x.sl
theorem T2 (P : List Int) (l : List (Int × Int)) : (B0c P l).length = l.length := by unfold B0c; simp
theorem A15 {P : List Int} {l : List (Int × Int)} {s : List SlV} (h : l.length = s.length) : (B1c P l s).length = s.length := by unfold B1c; simp [h]
theorem C7Y {l : List SlV} {i : Int} {x : SlV} (h : 0 ≤ i ∧ i < l.length) : p5 l i x = l.set i.toNat x := if_pos h
def epW (x : WS) : Int := IntKind.i64.wrap (D3 x.cells 0 + 1)
def M0 (x : WS) (p : List E9) : WS :=
 { x with cells := H7 (H7 x.cells 1 (Y3 (kF x) + 1)) 0 (epW x), sl := p5 (sF x) (Y3 (kF x)) (.rdy p), keep := if 0 < D3 x.cells 1 then B7n (A1j (kF x)) (D3 x.cells 1 - 1) (epW x) else A1j (kF x) }
end Go.Proofs.YtjobgnabneddjaaGreat
namespace Go.Proofs.YtjobgnabneddjaaGreat
open Go
theorem C0C {α : Type} {l : List α} {d : α} {i : Nat} (h : i < l.length) : l.getD i d = l[i] := by rw [List.getD_eq_getElem?_getD, List.getElem?_eq_getElem h]; rfl
theorem C3q {x : WS} {i : Nat} (h : (i : Int) < x.c.wk) : E6 x.c (((i : Nat) : Int) + 1) = (i : Nat) + 2 := by unfold E6; rw [if_neg (by omega)]; omega
theorem C8j {x : WS} {p : Int} : p ∈ pW x ↔ ∃ i : Nat, (i : Int) < x.c.wk ∧ p = D3 x.cells ((i : Nat) + 2) := by
 unfold pW C6P
 rw [List.mem_map]
 constructor
 ·rintro ⟨i, hi, rfl⟩
  rw [List.mem_range] at hi
  exact ⟨i, by omega, by rw [C3q (by omega)]⟩
 ·rintro ⟨i, hi, rfl⟩
  exact ⟨i, List.mem_range.2 (by omega), by rw [C3q hi]⟩
theorem C1d {x : WS} (h : ∀ i : Nat, D3 x.cells ((i : Nat) + 2) = 0) (e : Int) : B8w (pW x) e = true := by
 unfold B8w
 rw [List.all_eq_true]
 intro p hp
 obtain ⟨i, hi, rfl⟩ := C8j.1 hp
 simp [h i]
def C1l (n t : Nat) : List (Int × Int) := (List.range n).map fun k => if k + 1 < t then (2, (k : Int) + 2) else if k + 1 = t then (1, 0) else (0, 0)
theorem C3w (n t : Nat) : (C1l n t).length = n := by simp [C1l]
theorem B7c {l : List (Int × Int)} {i : Nat} (h : i < l.length) : stK l (i : Nat) = l[i].1 := by
 unfold stK
 rw [if_pos (by omega), Int.toNat_natCast, List.getD_eq_getElem?_getD, List.getElem?_eq_getElem h]; rfl
structure BusyI (n t : Nat) (x : WS) : Prop where
 ok : WsOk x
 ep : D3 x.cells 0 = (t : Nat)
 cur : D3 x.cells 1 = (t : Nat)
 keep : x.keep = C1l n t
 sl : x.sl.length = n
 le : t ≤ n
theorem BusyI.kl {n t : Nat} {x : WS} (h : BusyI n t x) : x.keep.length = x.sl.length := by rw [h.sl, h.keep, C3w]
theorem C4u {x : WS} {p : List E9} (h : WsOk x) (hl : x.keep.length = x.sl.length) : WsOk (M0 x p) := by
 obtain ⟨w1, w2, w3, w4, w5⟩ := h
 refine ⟨w1, by simp only [M0, A01]; exact w2, w3, by simp only [M0, A46]; rw [A15 hl]; exact w4, ?_⟩
 simp only [M0]
 split
 ·simp only [B7n, C3D, B4k, T2]; exact w5
 ·simp only [B4k, T2]; exact w5
theorem C3P {x : WS} {p : List E9} (h : WsOk x) : D3 (M0 x p).cells 1 = Y3 (kF x) + 1 := by
 have h1 := h.wk; have h2 := h.cells
 simp only [M0]
 rw [m8 _ _ (by omega), A1D, if_pos (by omega)]
theorem B5z {x : WS} {p : List E9} (i : Nat) : D3 (M0 x p).cells ((i : Nat) + 2) = D3 x.cells ((i : Nat) + 2) := by
 simp only [M0]
 rw [m8 _ _ (by omega), m8 _ _ (by omega)]
end Go.Proofs.YtjobgnabneddjaaGreat
namespace Go.Proofs.YtjobgnabneddjaaGreat
open Go
abbrev K7 (x : WS) : Int := D3 x.cells 1
theorem B8N {l : List (Int × Int)} {k : Nat} (hk : k < l.length) (h : l[k] = (0, 0)) : ¬ Y3 l < 0 := by
 unfold Y3
 have : l.findIdx (fun s => decide (s = (0, 0))) < l.length := List.findIdx_lt_length.2 ⟨_, List.getElem_mem hk, by simp [h]⟩
 rw [if_pos this]; omega
theorem C3N {l : List (Int × Int)} (h : ¬ Y3 l < 0) : ∃ k : Nat, ∃ hk : k < l.length, Y3 l = (k : Nat) ∧ l[k] = (0, 0) := by
 unfold Y3 at *
 by_cases c : l.findIdx (fun s => decide (s = (0, 0))) < l.length
 ·rw [if_pos c]
  refine ⟨_, c, rfl, ?_⟩
  have := List.findIdx_getElem (w := c)
  simpa using this
 ·rw [if_neg c] at h; omega
theorem C4H {l : List (Int × Int)} {k : Nat} (hk : k < l.length) (h : Y3 l = (k : Nat)) (h0 : l[k] = (0, 0)) : A1j l = l.set k (1, 0) := by
 unfold A1j
 rw [h, if_neg (by omega), Int.toNat_natCast, C0C hk, h0]
theorem A64 {l : List SlV} {k : Nat} (h : k < l.length) : K8 l (k : Nat) = l[k] := by
 unfold K8; rw [if_pos (by omega), Int.toNat_natCast, C0C h]
structure CurI (x : WS) : Prop where
 ok : WsOk x
 kl : x.keep.length = x.sl.length
 two : 2 ≤ x.keep.length
 cur : 0 ≤ K7 x ∧ K7 x ≤ x.keep.length
 at1 : ∀ (k : Nat) (h : k < x.keep.length), (k : Int) + 1 = K7 x → (x.keep[k]).1 = 1 ∧ ∃ p, K8 x.sl (k : Nat) = .rdy p
 at2 : ∀ (k : Nat) (h : k < x.keep.length), (k : Int) + 1 ≠ K7 x → x.keep[k] = (0, 0) ∨ (x.keep[k]).1 = 2
theorem B1e {P : List Int} {l : List (Int × Int)} {k : Nat} (h : k < l.length) : (B0c P l)[k]'(by rw [T2]; exact h) = if q7 P l[k] then (0, 0) else l[k] := by simp [B0c]
theorem C3b {P : List Int} {l : List (Int × Int)} {s : List SlV} {k : Nat} (h : k < l.length) (h2 : k < s.length) (hl : l.length = s.length) : (B1c P l s)[k]'(by rw [A15 hl]; exact h2) = if q7 P l[k] then .no else s[k] := by simp [B1c]
theorem B9s {P : List Int} {s : Int × Int} (h : s.1 ≠ 2) : q7 P s = false := by unfold q7; rw [decide_eq_false h]; rfl
theorem CurI.freed {x : WS} (h : CurI x) : CurI { x with sl := sF x, keep := kF x } ∧ K8 (sF x) (K7 x - 1) = K8 x.sl (K7 x - 1) := by
 have hg : ∀ (k : Nat) (hk : k < x.keep.length), (k : Int) + 1 = K7 x → K8 (sF x) (k : Nat) = K8 x.sl (k : Nat) := fun k hk hc => by
  have h1 := (h.at1 k hk hc).1
  have hs : k < x.sl.length := by rw [← h.kl]; exact hk
  rw [A64 (by rw [A15 h.kl]; exact hs), A64 hs, C3b hk hs h.kl, B9s (by omega)]; rfl
 have hok := h.ok
 refine ⟨⟨⟨hok.wk, hok.cells, hok.own, by simp only; rw [A15 h.kl]; exact hok.sl, by simp only; rw [T2]; exact hok.keep⟩, by simp only; rw [T2, A15 h.kl]; exact h.kl, by simp only; rw [T2]; exact h.two, by simp only; rw [T2]; exact h.cur, fun k hk hc => ?_, fun k hk hc => ?_⟩, ?_⟩
 ·simp only [T2] at hk
  have h1 := h.at1 k hk hc
  simp only
  rw [B1e hk, B9s (by omega)]
  exact ⟨h1.1, by rw [hg k hk hc]; exact h1.2⟩
 ·simp only [T2] at hk
  simp only
  rw [B1e hk]
  cases hr : q7 (pW x) x.keep[k] with
  | true => left; rfl
  | false => simpa using h.at2 k hk hc
 ·by_cases hc : K7 x = 0
  ·rw [hc]; rfl
  ·have h1 := h.cur
   obtain ⟨k, hk⟩ : ∃ k : Nat, K7 x - 1 = k := ⟨(K7 x - 1).toNat, by omega⟩
   rw [hk]
   exact hg k (by omega) (by omega)
theorem C75 {l : List (Int × Int)} {i k : Nat} {s : Int × Int} (hk : k < l.length) : stK (l.set i s) (k : Nat) = if i = k then s.1 else l[k].1 := by
 rw [B7c (by rw [List.length_set]; exact hk), List.getElem_set]; split <;> rfl
theorem CurI.after {x : WS} (h : CurI x) (p : List E9) (ht : ¬ Y3 (kF x) < 0) : CurI (M0 x p) ∧ K7 (M0 x p) ≠ K7 x ∧ 1 ≤ K7 (M0 x p) ∧ K8 (M0 x p).sl (K7 (M0 x p) - 1) = .rdy p ∧ stK (M0 x p).keep (K7 (M0 x p) - 1) = 1
  ∧ (0 < K7 x → stK (M0 x p).keep (K7 x - 1) = 2) ∧ K8 (M0 x p).sl (K7 x - 1) = K8 x.sl (K7 x - 1) := by
 obtain ⟨hf, hgf⟩ := h.freed
 obtain ⟨s, hs, hts, hs0⟩ := C3N ht
 have hsl : s < (sF x).length := by have := hf.kl; simp only at this; omega
 have hcur' : K7 (M0 x p) = (s : Int) + 1 := by rw [show K7 (M0 x p) = D3 (M0 x p).cells 1 from rfl, C3P h.ok, hts]
 have hcf : K7 { x with sl := sF x, keep := kF x } = K7 x := rfl
 have hne : (s : Int) + 1 ≠ K7 x := fun hc => by
  have := (hf.at1 s hs (by rw [hcf]; exact hc)).1
  simp only at this
  rw [hs0] at this
  simp at this
 have htk := C4H hs hts hs0
 have hlen : (kF x).length = x.keep.length := T2 _ _
 have hsl' : (M0 x p).sl = (sF x).set s (.rdy p) := by
  show p5 (sF x) (Y3 (kF x)) (.rdy p) = _
  rw [hts, C7Y (by omega), Int.toNat_natCast]
 have hkp : (M0 x p).keep = if 0 < K7 x then ((kF x).set s (1, 0)).set (K7 x - 1).toNat (2, epW x) else (kF x).set s (1, 0) := by
  show (if 0 < D3 x.cells 1 then B7n (A1j (kF x)) (D3 x.cells 1 - 1) (epW x) else A1j (kF x)) = _
  rw [htk]
  by_cases hc : 0 < K7 x
  ·rw [if_pos hc, if_pos hc]
   obtain ⟨k, hk⟩ : ∃ k : Nat, K7 x - 1 = k := ⟨(K7 x - 1).toNat, by omega⟩
   have hkl : k < (kF x).length := by have := h.cur; omega
   have h1 := (hf.at1 k hkl (by rw [hcf]; omega)).1
   unfold B7n B3V
   have e3 : stK ((kF x).set s (1, 0)) (k : Nat) = 1 := by rw [C75 hkl, if_neg (by omega)]; exact h1
   rw [show D3 x.cells 1 - 1 = (k : Int) from hk, e3, if_pos ⟨rfl, by omega⟩]
  ·rw [if_neg hc, if_neg hc]
 have hgs : ∀ (k : Nat), k ≠ s → k < (sF x).length → K8 (M0 x p).sl (k : Nat) = K8 (sF x) (k : Nat) := fun k hk hl => by
  rw [hsl', A64 (by rw [List.length_set]; exact hl), A64 hl, List.getElem_set_ne (by omega)]
 have hgs0 : K8 (M0 x p).sl (s : Nat) = .rdy p := by rw [hsl', A64 (by rw [List.length_set]; exact hsl), List.getElem_set_self]
 have hold : K8 (M0 x p).sl (K7 x - 1) = K8 x.sl (K7 x - 1) := by
  rw [← hgf]
  by_cases hc : K7 x = 0
  ·rw [hc]; rfl
  ·have h1 := h.cur
   obtain ⟨k, hk⟩ : ∃ k : Nat, K7 x - 1 = k := ⟨(K7 x - 1).toNat, by omega⟩
   rw [hk]
   exact hgs k (by omega) (by have := hf.kl; simp only at this; omega)
 have hat : ∀ (k : Nat) (hk : k < (kF x).length), ∀ hk', (M0 x p).keep[k]'hk' = if (k : Int) + 1 = K7 x then (2, epW x) else if k = s then (1, 0) else (kF x)[k] := fun k hk hk' => by
  simp only [hkp]
  by_cases hc : 0 < K7 x
  ·simp only [if_pos hc]
   rw [List.getElem_set, List.getElem_set]
   by_cases h1 : (k : Int) + 1 = K7 x
   ·rw [if_pos h1, if_pos (by omega)]
   ·rw [if_neg h1, if_neg (by omega)]
    by_cases h2 : k = s
    ·rw [if_pos h2, if_pos h2.symm]
    ·rw [if_neg h2, if_neg (by omega)]
  ·simp only [if_neg hc]
   rw [List.getElem_set, if_neg (show ¬ (k : Int) + 1 = K7 x by omega)]
   by_cases h2 : k = s
   ·rw [if_pos h2, if_pos h2.symm]
   ·rw [if_neg h2, if_neg (by omega)]
 have hkl' : (M0 x p).keep.length = (kF x).length := by
  rw [hkp]; split <;> simp
 have hsll : (M0 x p).sl.length = (sF x).length := by rw [hsl', List.length_set]
 refine ⟨⟨C4u h.ok h.kl, by rw [hkl', hsll]; exact hf.kl, by rw [hkl']; exact hf.two, by rw [hcur', hkl']; omega, fun k hk hc => ?_, fun k hk hc => ?_⟩, by rw [hcur']; exact hne, by rw [hcur']; omega, ?_, ?_, fun hc => ?_, hold⟩
 ·rw [hcur'] at hc
  obtain rfl : k = s := by omega
  rw [hat k (by rw [hkl'] at hk; exact hk), if_neg hne, if_pos rfl]
  exact ⟨rfl, p, hgs0⟩
 ·rw [hcur'] at hc
  have hk2 : k < (kF x).length := by rw [hkl'] at hk; exact hk
  rw [hat k hk2]
  by_cases h1 : (k : Int) + 1 = K7 x
  ·rw [if_pos h1]; right; rfl
  ·rw [if_neg h1, if_neg (by omega)]
   exact hf.at2 k hk2 (by rw [hcf]; exact h1)
 ·rw [hcur', show (s : Int) + 1 - 1 = (s : Nat) by omega]; exact hgs0
 ·rw [hcur', show (s : Int) + 1 - 1 = (s : Nat) by omega, B7c (by rw [hkl']; exact hs), hat s hs, if_neg hne, if_pos rfl]
 ·have h1 := h.cur
  obtain ⟨k, hk⟩ : ∃ k : Nat, K7 x - 1 = k := ⟨(K7 x - 1).toNat, by omega⟩
  rw [hk, B7c (by rw [hkl', hlen]; omega), hat k (by omega), if_pos (by omega)]
theorem CurI.free {x : WS} (h : CurI x) (hz : ∀ i : Nat, D3 x.cells ((i : Nat) + 2) = 0) : ¬ Y3 (kF x) < 0 := by
 have hlen : (kF x).length = x.keep.length := T2 _ _
 have h2 := h.two
 have key : ∀ (k : Nat) (hk : k < x.keep.length), (k : Int) + 1 ≠ K7 x → (kF x)[k]'(by rw [hlen]; exact hk) = (0, 0) := fun k hk hc => by
  rw [B1e hk]
  rcases h.at2 k hk hc with h0 | h0
  ·rw [h0, D1d]; rfl
  ·have : q7 (pW x) x.keep[k] = true := by unfold q7; rw [h0, C1d hz]; rfl
   rw [this]; rfl
 by_cases hc : K7 x = 1
 ·exact B8N (k := 1) (by omega) (key 1 (by omega) (by omega))
 ·exact B8N (k := 0) (by omega) (key 0 (by omega) (by omega))
theorem CurI.new {c : CfgV} (h : M1 c = true) (hw : WsOk (K1 c)) : CurI (K1 c) := by
 simp only [M1, Y7, Bool.and_eq_true, decide_eq_true_eq] at h
 have hcur : K7 (K1 c) = 0 := by
  show D3 (List.replicate _ 0) 1 = 0
  unfold D3; split
  ·rw [List.getD_eq_getElem?_getD, List.getElem?_replicate]; split <;> rfl
  ·rfl
 refine ⟨hw, by simp [K1], by simp only [K1, List.length_replicate]; omega, by rw [hcur]; omega, fun k hk hc => ?_, fun k hk hc => ?_⟩
 ·rw [hcur] at hc; omega
 ·left; simp [K1]
end Go.Proofs.YtjobgnabneddjaaGreat
namespace Go.Proofs.YtjobgnabneddjaaGreat
open Go
theorem C83 (w : World) (b : Nat) (j : JW) (tv : Value) (m : WoH) (P : S7) (h : JwOk j tv m P) (hw : LW false (B6 (F7 b j tv m P)) w (F7 b j tv m P) w) : A42 81 w b j tv m P (jw5 j m.ws) := by
 refine B0W (TW.goH (κ := false) ?_ hw)
 unfold A3U
 obtain ⟨h1, h2, h3, h4, h5, h6⟩ := h.tabs
 obtain ⟨i, hi⟩ : ∃ i : Nat, j.shard = i := ⟨j.shard.toNat, by have := h.shard; omega⟩
 have hlt : i < m.ts.length := by have := h.shard; omega
 obtain ⟨⟨tv0, tl⟩, hx0⟩ : ∃ x, m.ts[i]? = some x := ⟨_, List.getElem?_eq_getElem hlt⟩
 have hxm := List.mem_of_getElem? hx0
 have g0 : (m.ts.map (·.1))[i]? = some tv0 := by rw [List.getElem?_map, hx0]; rfl
 have gg : m.ts[i]'hlt = (tv0, tl) := (List.getElem?_eq_some_iff.1 hx0).2
 have e5 : jw5 j m.ws = ({ j with table := tl }, m.ws, l9) := by
  unfold jw5
  have : m.ws.tabs.getD j.shard.toNat [] = tl := by simp [WoH.ws, hi, List.getD_eq_getElem?_getD, hx0]
  rw [this]
 rw [e5]
 generalize hS : B6 (F7 b j tv m P) = S at *
 simp only [F7, G6, K6, C7, D8, E5, hi]
 refine g4 (e := 84) (k := 1) (v := m.tv) (q := m.ts.length) (xs := m.ts.map (·.1)) (by (repeat constructor)) (by omega) fun tg tc hta => ?_
 refine A5f (P := P) (v := tv0) (l := tl) (by (repeat constructor)) (h6 _ hxm) fun xa xc hxa => ?_
 rw [hta]
 subst hxa
 (have zz:=trivial;repeat((first|clear zz|with_reducible first|refine A3 ?_|refine A5 fun _=>?_|refine A4 fun _=>?_);try simp(disch:=first|omega|assumption|((repeat(first|exact A1|exact uH|apply A2|apply uT));first|done|fail)|(simp;first|done|omega|fail))[hlt, g0, gg]))
 refine B1 (.slice xa tl.length xc, { m.dz with tv := .slice (some ⟨tg, 0, none⟩) m.ts.length tc }, P) ⟨rfl, N5 rfl rfl h6 (h6 _ hxm)⟩ ?_
 simp only [Q4, G6, K6, C7, D8, E5, WoH.uz, WoH.dz, hi]
 (repeat' constructor)
theorem C9m (w : World) (b : Nat) (j : JW) (tv : Value) (m : WoH) (P : S7) (h : JwOk j tv m P) (hw : LW false (B6 (F7 b j tv m P)) w (F7 b j tv m P) w) : A42 83 w b j tv m P (jw7 j m.ws) := by
 refine A9k (TW.goH (κ := false) ?_ hw)
 unfold A2T
 obtain ⟨h1, h2, h3, h4, h5, h6⟩ := h.tabs
 have ht := h.tb
 obtain ⟨i, hi⟩ : ∃ i : Nat, j.shard = i := ⟨j.shard.toNat, by have := h.shard; omega⟩
 have hlt : i < m.ts.length := by have := h.shard; omega
 obtain ⟨⟨tv0, tl⟩, hx0⟩ : ∃ x, m.ts[i]? = some x := ⟨_, List.getElem?_eq_getElem hlt⟩
 have g0 : (m.ts.map (·.1))[i]? = some tv0 := by rw [List.getElem?_map, hx0]; rfl
 have gg : m.ts[i]'hlt = (tv0, tl) := (List.getElem?_eq_some_iff.1 hx0).2
 have e7 : jw7 j m.ws = (j, { m.ws with tabs := m.ws.tabs.set i j.table }, l9) := by unfold jw7; rw [hi, Int.toNat_natCast]
 rw [e7]
 generalize hS : B6 (F7 b j tv m P) = S at *
 simp only [F7, G6, K6, C7, D8, E5, hi]
 refine g4 (e := 84) (k := 1) (v := m.tv) (q := m.ts.length) (xs := m.ts.map (·.1)) (by (repeat constructor)) (by omega) fun tg tc hta => ?_
 refine A5f (P := P) (v := tv) (l := j.table) (by (repeat constructor)) ht fun xa xc hxa => ?_
 rw [hta]
 subst hxa
 (have zz:=trivial;repeat((first|clear zz|with_reducible first|refine A3 ?_|refine A5 fun _=>?_|refine A4 fun _=>?_);try simp(disch:=first|omega|assumption|((repeat(first|exact A1|exact uH|apply A2|apply uT));first|done|fail)|(simp;first|done|omega|fail))[hlt, g0, gg]))
 refine N3 (by (repeat constructor)) (by simp) (by simp; omega) (by simp) ?_
 have e1 : U4 (m.ts.map (·.1)) i (Value.slice xa j.table.length xc).cells.toList = (m.ts.set i (.slice xa j.table.length xc, j.table)).map (·.1) := C48 (f := (·.1)) m.ts i (.slice xa j.table.length xc, j.table) hlt
 rw [e1]
 (have zz:=trivial;repeat((first|clear zz|with_reducible first|refine A3 ?_|refine A5 fun _=>?_|refine A4 fun _=>?_);try simp(disch:=first|omega|assumption|((repeat(first|exact A1|exact uH|apply A2|apply uT));first|done|fail)|(simp;first|done|omega|fail))[]))
 refine B1 (.slice xa j.table.length xc, { m.dz with tv := .slice (some ⟨tg, 0, none⟩) m.ts.length tc, ts := m.ts.set i (.slice xa j.table.length xc, j.table) }, P) ⟨rfl, by simp only [WoH.ws, WoH.uz, WoH.dz, List.map_set], fun t ht' => ?_, ht, .same _ _⟩ ?_
 ·rcases List.mem_or_eq_of_mem_set ht' with ht' | rfl
  ·exact h6 t ht'
  ·exact ht
 simp only [Q4, G6, K6, C7, D8, E5, WoH.uz, WoH.dz, List.length_set, List.map_set, hi]
 (repeat' constructor)
def r6 (l : List EnV) (p : List E9) (key : ByteArray) (now : Int) : Int × Bool :=
 if F2 l key < 0 ∨ (a8 l key).dl < now then (0, false) else ((a8 l key).bk, decide (0 ≤ Q9 p (a8 l key).bk))
theorem C4Y (l : List EnV) (p : List E9) (key : ByteArray) (now : Int) : (r6 l p key now).2 = (H8 l p key now).2 := by
 unfold r6 H8
 by_cases c1 : F2 l key < 0 ∨ (a8 l key).dl < now
 ·rw [if_pos c1, if_pos (by omega)]
 ·rw [if_neg c1]
  by_cases c2 : Q9 p (a8 l key).bk < 0
  ·rw [if_pos (by omega)]; simp; omega
  ·rw [if_neg (by omega)]; simp; omega
theorem C4k (l : List EnV) (p : List E9) (key : ByteArray) (now : Int) (h : (H8 l p key now).2 = true) : (r6 l p key now).1 = (H8 l p key now).1 := by
 unfold H8 at h ⊢
 by_cases c : F2 l key < 0 ∨ (a8 l key).dl < now ∨ Q9 p (a8 l key).bk < 0
 ·rw [if_pos c] at h; cases h
 ·rw [if_neg c]; unfold r6; rw [if_neg (by omega)]
theorem C3r (x : WS) (i id : Int) : (B8z x.sl i id).1 = decide (0 ≤ Q9 (J9 x i) id) := by
 unfold B8z J9
 cases K8 x.sl i with
 | rdy p => rfl
 | no => rfl
 | bld => rfl
theorem C1H (x : WS) (i : Int) : A8u x.sl i = ((((J9 x i).length : Nat) : Int), B0G x i) := by
 unfold A8u J9 B0G
 cases K8 x.sl i <;> rfl
theorem C1u (x : WS) (i : Int) (h : Nat) (hp : J9 x i ≠ []) : (A5l x.sl i h).1 = A8k (J9 x i) h := by
 unfold A5l J9 at *
 cases hg : K8 x.sl i with
 | rdy p => rfl
 | no => rw [hg] at hp; exact absurd rfl hp
 | bld => rw [hg] at hp; exact absurd rfl hp
theorem C02 (w : World) (b b2 b3 : Nat) (j : JW) (tv : Value) (m : WoH) (hk : j.key.size < 2 ^ 60) (hn : j.table.length ≤ 1000000) (hl8 : m.ls.length ≤ 8)
  (h2 : w.cell? ⟨b2, 0, none⟩ = some (.pointer (some ⟨b, 0, none⟩))) (h3 : w.cell? ⟨b3, 0, none⟩ = some (.pointer (some ⟨m.b, 0, none⟩)))
  (hb : bl w b = some (.cells (K6 j tv) 130 (0, 0))) (hm : WoAt w m) (hsl : SlAt w m.bs m.sv m.ls) (hv : F9 w tv j.table.length (j.table.flatMap F6)) :
  Fn PR C0 132 #[.pointer (some ⟨b2, 0, none⟩), .pointer (some ⟨b3, 0, none⟩)] w (fun u w' => u = .tuple #[.int .i64 (r6 j.table (J9 m.ws j.slot) j.key j.now).1, .bool (r6 j.table (J9 m.ws j.slot) j.key j.now).2] ∧ D2 [] w w') := by
 refine Fn.pure (A5C (TW.go (κ := false) (S := []) ?_))
 unfold A0E
 have g1 : w.cell? ⟨b, 1, none⟩ = some (.string j.key) := by rw [F3 hb]; rfl
 have g7 : w.cell? ⟨b, 7, none⟩ = some (.int .i64 j.slot) := by rw [F3 hb]; rfl
 have g8 : w.cell? ⟨b, 8, none⟩ = some (.int .i64 j.now) := by rw [F3 hb]; rfl
 have g9 : w.cell? ⟨b, 9, none⟩ = some tv := by rw [F3 hb]; rfl
 have gs : w.cell? ⟨m.b, 6, none⟩ = some (.pointer (some ⟨m.bs, 0, none⟩)) := by rw [F3 hm.b]; rfl
 obtain ⟨a, c, rfl, hr⟩ := hv.form
 (have zz:=trivial;repeat((first|clear zz|with_reducible first|refine A3 ?_|refine A5 fun _=>?_|refine A4 fun _=>?_);try simp(disch:=first|omega|assumption|((repeat(first|exact A1|exact uH|apply A2|apply uT));first|done|fail)|(simp;first|done|omega|fail))[h2, h3, g1, g9]))
 refine C4 m6 (fun w' hw' => v8 w' _ j.table j.key hk hn (hv.ks hw'.ks (by simp))) ?_
 by_cases c1 : F2 j.table j.key < 0
 ·(have zz:=trivial;repeat((first|clear zz|with_reducible first|refine A3 ?_|refine A5 fun _=>?_|refine A4 fun _=>?_);try simp(disch:=first|omega|assumption|((repeat(first|exact A1|exact uH|apply A2|apply uT));first|done|fail)|(simp;first|done|omega|fail))[c1, h2, h3, g1, g9]))
  exact B0 (by simp [r6, c1])
 obtain ⟨i, hi, hlt⟩ := B5v (l := j.table) (key := j.key) (by omega)
 have hx : j.table[i]? = some (a8 j.table j.key) := by rw [a8, hi, Int.toNat_natCast]; exact getD_some noE hlt
 obtain ⟨ba, o, rfl, hrow⟩ := hr (by omega)
 have k2 := hrow.cellAt (f := F6) (k := 4) (j := 2) (fun _ => rfl) hx rfl
 have k3 := hrow.cellAt (f := F6) (k := 4) (j := 3) (fun _ => rfl) hx rfl
 have hk1 : r6 j.table (J9 m.ws j.slot) j.key j.now = if (a8 j.table j.key).dl < j.now then (0, false) else ((a8 j.table j.key).bk, decide (0 ≤ Q9 (J9 m.ws j.slot) (a8 j.table j.key).bk)) := by simp [r6, c1]
 rw [hk1, hi]
 generalize a8 j.table j.key = x at *
 have hHas := fun (w' : World) => C66 w' m.bs m.sv m.ls j.slot x.bk hl8
 rw [show m.ls.map SlH.sp = m.ws.sl from rfl, C3r] at hHas
 obtain ⟨Q, hQ⟩ : ∃ Q, Q = decide (0 ≤ Q9 (J9 m.ws j.slot) x.bk) := ⟨_, rfl⟩
 rw [← hQ] at hHas ⊢
 clear hk1
 have n1 : ¬ ((i : Nat) : Int) < 0 := by omega
 by_cases c2 : x.dl < j.now
 ·(have zz:=trivial;repeat((first|clear zz|with_reducible first|refine A3 ?_|refine A5 fun _=>?_|refine A4 fun _=>?_);try simp(disch:=first|omega|assumption|((repeat(first|exact A1|exact uH|apply A2|apply uT));first|done|fail)|(simp;first|done|omega|fail))[n1, hlt, h2, h3, g1, g7, g8, g9, k3, c2]))
  exact B0 (by simp [c2])
 (have zz:=trivial;repeat((first|clear zz|with_reducible first|refine A3 ?_|refine A5 fun _=>?_|refine A4 fun _=>?_);try simp(disch:=first|omega|assumption|((repeat(first|exact A1|exact uH|apply A2|apply uT));first|done|fail)|(simp;first|done|omega|fail))[n1, hlt, h2, h3, g1, g7, g8, g9, gs, k3, k2, c2]))
 refine C4 A91 (fun w' hw' => hHas w' (hsl.ks hw'.ks)) ?_
 (have zz:=trivial;repeat((first|clear zz|with_reducible first|refine A3 ?_|refine A5 fun _=>?_|refine A4 fun _=>?_);try simp(disch:=first|omega|assumption|((repeat(first|exact A1|exact uH|apply A2|apply uT));first|done|fail)|(simp;first|done|omega|fail))[hlt, h2, h3, g1, g7, g8, g9, k3, k2, c2]))
 exact B0 (by simp [c2])
end Go.Proofs.YtjobgnabneddjaaGreat
namespace Go.Proofs.YtjobgnabneddjaaGreat
open Go
theorem C9Z {κ : Bool} {S : List Nat} {w0 : World} {H : List Res} {F : Value → WP} {A : (Value → WP) → WP} (v : Value) (hF : TW κ S w0 H (F v)) (hA : ∀ J : Value → WP, TW κ S w0 H (J v) → TW κ S w0 H (A J)) : TW κ S w0 H (jn (n := 1) F A) := hA F hF
def idW (l : List EnV) (x : WS) (slot : Int) (key : ByteArray) (now : Int) : Int := if (H8 l (J9 x slot) key now).2 then (r6 l (J9 x slot) key now).1 else (A5l x.sl slot (c7 key)).1
theorem C8g {l : List EnV} {x : WS} {slot : Int} {key : ByteArray} {now : Int} (h : ¬ ((H8 l (J9 x slot) key now).2 = false ∧ J9 x slot = [])) : idW l x slot key now = Y1 l (J9 x slot) key now := by
 unfold idW Y1
 cases hk : (H8 l (J9 x slot) key now).2 with
 | true => simp only [if_true]; exact C4k _ _ _ _ hk
 | false =>
  simp only [Bool.false_eq_true, if_false]
  exact C1u x slot _ fun hp => h ⟨hk, hp⟩
set_option maxHeartbeats 4000000 in
theorem C89 (w : World) (b : Nat) (j : JW) (tv0 : Value) (m : WoH) (P : S7) (h : JwOk j tv0 m P) (hw : LW false (B6 (F7 b j tv0 m P)) w (F7 b j tv0 m P) w) : A42 82 w b j tv0 m P (jw6 j m.ws) := by
 refine A82 (TW.goH (κ := false) ?_ hw)
 unfold A1q
 have ht := h.tb
 have hP := h.tabs.pool
 have hkey := h.key
 have hkeys := h.keys
 have hlen := h.len
 have hslot := h.slot
 have hl8 : m.ls.length ≤ 8 := by have := h.ws.sl; simpa [WoH.ws] using this
 generalize hS : B6 (F7 b j tv0 m P) = S at *
 simp only [F7, G6, K6, C7, D8, E5]
 refine A5f (P := P) (v := tv0) (l := j.table) (by (repeat constructor)) ht fun xa xc hxa => ?_
 have hSize := fun (w' : World) => C4b w' m.bs m.sv m.ls j.slot hl8
 rw [show m.ls.map SlH.sp = m.ws.sl from rfl, C1H] at hSize
 have hPick := fun (w' : World) => C46 w' m.bs m.sv m.ls j.slot (c7 j.key) hl8
 rw [show m.ls.map SlH.sp = m.ws.sl from rfl] at hPick
 have hid := C8g (l := j.table) (x := m.ws) (slot := j.slot) (key := j.key) (now := j.now)
 have hdef : idW j.table m.ws j.slot j.key j.now = if (H8 j.table (J9 m.ws j.slot) j.key j.now).2 then (r6 j.table (J9 m.ws j.slot) j.key j.now).1 else (A5l m.ws.sl j.slot (c7 j.key)).1 := rfl
 have hk2 := C4Y j.table (J9 m.ws j.slot) j.key j.now
 have hKn := fun (w' : World) (b2 b3 : Nat) => C02 w' b b2 b3 j tv0 m hkey hlen hl8
 unfold jw6
 rw [show m.ws.c.idle = m.c.idle from rfl]
 generalize hrd : B0G m.ws j.slot = rd at *
 generalize A5l m.ws.sl j.slot (c7 j.key) = pk at *
 generalize r6 j.table (J9 m.ws j.slot) j.key j.now = kw at *
 generalize idW j.table m.ws j.slot j.key j.now = idv at *
 generalize J9 m.ws j.slot = p at *
 subst hxa
 (have zz:=trivial;repeat((first|clear zz|with_reducible first|refine A3 ?_|refine A5 fun _=>?_|refine A4 fun _=>?_);try simp(disch:=first|omega|assumption|((repeat(first|exact A1|exact uH|apply A2|apply uT));first|done|fail)|(simp;first|done|omega|fail))[]))
 rename_i b2 b3 b4
 refine C4 A8m (fun w' hw' => hSize w' (SlAt.own hw' (by (repeat constructor)) (by (repeat constructor)) (by (repeat constructor)))) ?_
 (have zz:=trivial;repeat((first|clear zz|with_reducible first|refine A3 ?_|refine A5 fun _=>?_|refine A4 fun _=>?_);try simp(disch:=first|omega|assumption|((repeat(first|exact A1|exact uH|apply A2|apply uT));first|done|fail)|(simp;first|done|omega|fail))[]))
 refine C4 A4r (fun w' hw' => hKn w' b2 b3 (hw'.cell1 (by (repeat constructor))) (hw'.cell1 (by (repeat constructor))) (hw'.pt (b := b) (by unfold K6; (repeat constructor))) ⟨hw'.pt (by unfold E5; (repeat constructor)), hw'.pt (by (repeat constructor)), N9.own (e := 3) (k := 1) (by (repeat constructor)) w' hw'⟩ (SlAt.own hw' (by (repeat constructor)) (by (repeat constructor)) (by (repeat constructor))) (Z7 (ts := P) (t := (_, j.table)) hw' (by (repeat constructor)) ht)) ?_
 rw [hk2]
 clear hKn hk2 hSize
 obtain ⟨ok, hok⟩ : ∃ ok, ok = (H8 j.table p j.key j.now).2 := ⟨_, rfl⟩
 rw [← hok] at hid hdef ⊢
 rw [B05, B1T]
 refine C9Z (.int .i64 idv) ?_ ?_
 case refine_2 =>
  intro J hJ
  rw [hdef] at hJ
  clear hdef hid
  cases ok with
  | true =>
   simp only [if_true] at hJ
   (have zz:=trivial;repeat((first|clear zz|with_reducible first|refine A3 ?_|refine A5 fun _=>?_|refine A4 fun _=>?_);try simp(disch:=first|omega|assumption|((repeat(first|exact A1|exact uH|apply A2|apply uT));first|done|fail)|(simp;first|done|omega|fail))[]))
   exact hJ
  | false =>
   simp only [Bool.false_eq_true, if_false] at hJ
   (have zz:=trivial;repeat((first|clear zz|with_reducible first|refine A3 ?_|refine A5 fun _=>?_|refine A4 fun _=>?_);try simp(disch:=first|omega|assumption|((repeat(first|exact A1|exact uH|apply A2|apply uT));first|done|fail)|(simp;first|done|omega|fail))[]))
   refine C4 A0V (fun w' _ => A3N w' j.key hkey) ?_
   (have zz:=trivial;repeat((first|clear zz|with_reducible first|refine A3 ?_|refine A5 fun _=>?_|refine A4 fun _=>?_);try simp(disch:=first|omega|assumption|((repeat(first|exact A1|exact uH|apply A2|apply uT));first|done|fail)|(simp;first|done|omega|fail))[]))
   refine C4 A8a (fun w' hw' => hPick w' (SlAt.own hw' (by (repeat constructor)) (by (repeat constructor)) (by (repeat constructor)))) ?_
   (have zz:=trivial;repeat((first|clear zz|with_reducible first|refine A3 ?_|refine A5 fun _=>?_|refine A4 fun _=>?_);try simp(disch:=first|omega|assumption|((repeat(first|exact A1|exact uH|apply A2|apply uT));first|done|fail)|(simp;first|done|omega|fail))[]))
   exact hJ
 clear hPick hdef
 have htold : ∀ (r : JW), N1 ((r, m.ws, false, false, decide (0 ≤ j.slot) && !rd) : JwR).2.2 = .agg #[.bool false, .bool false, .bool (decide (0 ≤ j.slot) && !rd)] := fun _ => rfl
 by_cases hne : ok = false ∧ p = []
 ·have hd : D4 j.table p j.key j.closing j.now m.c.idle = (j.table, ⟨11, 0, false, 0⟩, false) := if_pos (by rw [← hok]; exact hne)
  rw [hd]
  simp only
  obtain ⟨rfl, rfl⟩ := hne
  by_cases hs0 : 0 ≤ j.slot
  ·(have zz:=trivial;repeat((first|clear zz|with_reducible first|refine A3 ?_|refine A5 fun _=>?_|refine A4 fun _=>?_);try simp(disch:=first|omega|assumption|((repeat(first|exact A1|exact uH|apply A2|apply uT));first|done|fail)|(simp;first|done|omega|fail))[hs0]))
   refine B1 (.slice xa j.table.length xc, m.dz, P) ⟨by simp [N1, hs0], N5 rfl rfl hP ht⟩ ?_
   simp only [Q4, G6, K6, C7, D8, E5, WoH.uz, WoH.dz]
   (repeat' constructor)
  ·(have zz:=trivial;repeat((first|clear zz|with_reducible first|refine A3 ?_|refine A5 fun _=>?_|refine A4 fun _=>?_);try simp(disch:=first|omega|assumption|((repeat(first|exact A1|exact uH|apply A2|apply uT));first|done|fail)|(simp;first|done|omega|fail))[hs0]))
   refine B1 (.slice xa j.table.length xc, m.dz, P) ⟨by simp [N1, hs0], N5 rfl rfl hP ht⟩ ?_
   simp only [Q4, G6, K6, C7, D8, E5, WoH.uz, WoH.dz]
   (repeat' constructor)
 have hd : D4 j.table p j.key j.closing j.now m.c.idle = if j.closing then (V2 j.table j.key, ⟨0, idv, false, 0⟩, (V0 j.table j.key).isSome)
  else match K3 j.table ⟨1, j.key, idv, IntKind.i64.wrap (j.now + m.c.idle)⟩ with
   | none => (j.table, ⟨12, 0, false, 0⟩, false)
   | some u => (u, ⟨0, idv, !ok, 0⟩, true) := by
  have hd0 : D4 j.table p j.key j.closing j.now m.c.idle = if j.closing then (V2 j.table j.key, ⟨0, Y1 j.table p j.key j.now, false, 0⟩, (V0 j.table j.key).isSome)
   else match K3 j.table (A6L j.table p j.key j.now m.c.idle) with
    | none => (j.table, ⟨12, 0, false, 0⟩, false)
    | some u => (u, ⟨0, Y1 j.table p j.key j.now, !(H8 j.table p j.key j.now).2, 0⟩, true) := if_neg (by rw [← hok]; exact hne)
  rw [hd0, A6L, ← hid hne, ← hok]
 rw [hd]
 have hgo : ok = true ∨ ¬ (p.length : Int) = 0 := by
  cases ok with
  | true => exact Or.inl rfl
  | false => right; intro h0; exact hne ⟨rfl, List.length_eq_zero_iff.1 (by omega)⟩
 have hgo2 : ok = true ∨ ¬ p = [] := by
  cases ok with
  | true => exact Or.inl rfl
  | false => right; intro h0; exact hne ⟨rfl, h0⟩
 clear hd hid hok hne
 obtain ⟨bad, hbad⟩ : ∃ bad, bad = (decide (0 ≤ j.slot) && !rd) := ⟨_, rfl⟩
 rw [← hbad]
 have hstep : ∀ (P0 : Prop), (0 ≤ j.slot → bad = !rd → P0) → (¬ 0 ≤ j.slot → bad = false → P0) → P0 := fun P0 f g => by
  by_cases hs0 : 0 ≤ j.slot
  ·exact f hs0 (by rw [hbad, decide_eq_true hs0]; rfl)
  ·exact g hs0 (by rw [hbad, decide_eq_false hs0]; rfl)
 cases hcl : j.closing with
 | true =>
  simp only [if_true]
  refine hstep _ (fun hs0 hb => ?_) (fun hs0 hb => ?_)
  all_goals
   rw [hb]
   cases ok with
   | true =>
    (have zz:=trivial;repeat((first|clear zz|with_reducible first|refine A3 ?_|refine A5 fun _=>?_|refine A4 fun _=>?_);try simp(disch:=first|omega|assumption|((repeat(first|exact A1|exact uH|apply A2|apply uT));first|done|fail)|(simp;first|done|omega|fail))[hs0, hcl]))
    refine G4 A0w (fun w' hw' => A2f w' _ j.table j.key hkey hkeys hlen (Z7 (ts := P) (t := (_, j.table)) hw' (by (repeat constructor)) ht)) ?_
    rintro r _ rfl
    refine Z5 (e := 218) (k := 4) (v := r) (q := (V2 j.table j.key).length) (xs := (V2 j.table j.key).flatMap F6) (by (repeat constructor)) fun hr1 hr2 hr3 => ?_
    have hr4 : r.cells.toList = [r] := by rw [hr1]
    cases h2 : (V0 j.table j.key).isSome with
    | true =>
     (have zz:=trivial;repeat((first|clear zz|with_reducible first|refine A3 ?_|refine A5 fun _=>?_|refine A4 fun _=>?_);try simp(disch:=first|omega|assumption|((repeat(first|exact A1|exact uH|apply A2|apply uT));first|done|fail)|(simp;first|done|omega|fail))[hs0, hcl, hr1, hr2, hr3, hr4]))
     refine Y8 (r := r) (l := V2 j.table j.key) (ts := P) (by (repeat' constructor)) ?_
     refine B1 (r, m.dz, P ++ [(r, V2 j.table j.key)]) ⟨by simp [N1], rfl, hP.left _, List.mem_append_right _ (List.mem_singleton.2 rfl), .push _ _ _⟩ ?_
     simp only [Q4, G6, K6, C7, D8, E5, WoH.uz, WoH.dz]
     (repeat' constructor)
    | false =>
     have e : V2 j.table j.key = j.table := by
      unfold V2
      cases hd : V0 j.table j.key with
      | none => rfl
      | some u => rw [hd] at h2; cases h2
     rw [e]
     (have zz:=trivial;repeat((first|clear zz|with_reducible first|refine A3 ?_|refine A5 fun _=>?_|refine A4 fun _=>?_);try simp(disch:=first|omega|assumption|((repeat(first|exact A1|exact uH|apply A2|apply uT));first|done|fail)|(simp;first|done|omega|fail))[hs0, hcl, hr1, hr2, hr3, hr4]))
     refine B1 (.slice xa j.table.length xc, m.dz, P) ⟨by simp [N1], N5 rfl rfl hP ht⟩ ?_
     simp only [Q4, G6, K6, C7, D8, E5, WoH.uz, WoH.dz]
     (repeat' constructor)
   | false =>
    have hp1 : ¬ (p.length : Int) = 0 := by rcases hgo with g | g; cases g; exact g
    have hp2 : ¬ p = [] := by rcases hgo2 with g | g; cases g; exact g
    (have zz:=trivial;repeat((first|clear zz|with_reducible first|refine A3 ?_|refine A5 fun _=>?_|refine A4 fun _=>?_);try simp(disch:=first|omega|assumption|((repeat(first|exact A1|exact uH|apply A2|apply uT));first|done|fail)|(simp;first|done|omega|fail))[hs0, hcl, hp1, hp2]))
    refine G4 A0w (fun w' hw' => A2f w' _ j.table j.key hkey hkeys hlen (Z7 (ts := P) (t := (_, j.table)) hw' (by (repeat constructor)) ht)) ?_
    rintro r _ rfl
    refine Z5 (e := 218) (k := 4) (v := r) (q := (V2 j.table j.key).length) (xs := (V2 j.table j.key).flatMap F6) (by (repeat constructor)) fun hr1 hr2 hr3 => ?_
    have hr4 : r.cells.toList = [r] := by rw [hr1]
    cases h2 : (V0 j.table j.key).isSome with
    | true =>
     (have zz:=trivial;repeat((first|clear zz|with_reducible first|refine A3 ?_|refine A5 fun _=>?_|refine A4 fun _=>?_);try simp(disch:=first|omega|assumption|((repeat(first|exact A1|exact uH|apply A2|apply uT));first|done|fail)|(simp;first|done|omega|fail))[hs0, hcl, hp1, hp2, hr1, hr2, hr3, hr4]))
     refine Y8 (r := r) (l := V2 j.table j.key) (ts := P) (by (repeat' constructor)) ?_
     refine B1 (r, m.dz, P ++ [(r, V2 j.table j.key)]) ⟨by simp [N1], rfl, hP.left _, List.mem_append_right _ (List.mem_singleton.2 rfl), .push _ _ _⟩ ?_
     simp only [Q4, G6, K6, C7, D8, E5, WoH.uz, WoH.dz]
     (repeat' constructor)
    | false =>
     have e : V2 j.table j.key = j.table := by
      unfold V2
      cases hd : V0 j.table j.key with
      | none => rfl
      | some u => rw [hd] at h2; cases h2
     rw [e]
     (have zz:=trivial;repeat((first|clear zz|with_reducible first|refine A3 ?_|refine A5 fun _=>?_|refine A4 fun _=>?_);try simp(disch:=first|omega|assumption|((repeat(first|exact A1|exact uH|apply A2|apply uT));first|done|fail)|(simp;first|done|omega|fail))[hs0, hcl, hp1, hp2, hr1, hr2, hr3, hr4]))
     refine B1 (.slice xa j.table.length xc, m.dz, P) ⟨by simp [N1], N5 rfl rfl hP ht⟩ ?_
     simp only [Q4, G6, K6, C7, D8, E5, WoH.uz, WoH.dz]
     (repeat' constructor)
 | false =>
  simp only [Bool.false_eq_true, if_false]
  refine hstep _ (fun hs0 hb => ?_) (fun hs0 hb => ?_)
  all_goals
   rw [hb]
   cases ok with
   | true =>
    (have zz:=trivial;repeat((first|clear zz|with_reducible first|refine A3 ?_|refine A5 fun _=>?_|refine A4 fun _=>?_);try simp(disch:=first|omega|assumption|((repeat(first|exact A1|exact uH|apply A2|apply uT));first|done|fail)|(simp;first|done|omega|fail))[hs0, hcl]))
    refine G4 A3q (fun w' hw' => A6U w' _ j.table j.key idv (IntKind.i64.wrap (j.now + m.c.idle)) hkey hlen (Z7 (ts := P) (t := (_, j.table)) hw' (by (repeat constructor)) ht)) ?_
    rintro r _ rfl
    cases h2 : K3 j.table ⟨1, j.key, idv, IntKind.i64.wrap (j.now + m.c.idle)⟩ with
    | none =>
     simp only [Option.isSome_none, Bool.false_eq_true, if_false]
     (have zz:=trivial;repeat((first|clear zz|with_reducible first|refine A3 ?_|refine A5 fun _=>?_|refine A4 fun _=>?_);try simp(disch:=first|omega|assumption|((repeat(first|exact A1|exact uH|apply A2|apply uT));first|done|fail)|(simp;first|done|omega|fail))[hs0, hcl]))
     refine B1 (.slice xa j.table.length xc, m.dz, P) ⟨by simp [N1], N5 rfl rfl hP ht⟩ ?_
     simp only [Q4, G6, K6, C7, D8, E5, WoH.uz, WoH.dz]
     (repeat' constructor)
    | some u =>
     simp only [Option.isSome_some, if_true, Option.getD_some]
     refine Z5 (e := 218) (k := 4) (v := r) (q := u.length) (xs := u.flatMap F6) (by (repeat constructor)) fun hr1 hr2 hr3 => ?_
     have hr4 : r.cells.toList = [r] := by rw [hr1]
     (have zz:=trivial;repeat((first|clear zz|with_reducible first|refine A3 ?_|refine A5 fun _=>?_|refine A4 fun _=>?_);try simp(disch:=first|omega|assumption|((repeat(first|exact A1|exact uH|apply A2|apply uT));first|done|fail)|(simp;first|done|omega|fail))[hs0, hcl, hr1, hr2, hr3, hr4]))
     refine Y8 (r := r) (l := u) (ts := P) (by (repeat' constructor)) ?_
     refine B1 (r, m.dz, P ++ [(r, u)]) ⟨by simp [N1], rfl, hP.left _, List.mem_append_right _ (List.mem_singleton.2 rfl), .push _ _ _⟩ ?_
     simp only [Q4, G6, K6, C7, D8, E5, WoH.uz, WoH.dz]
     (repeat' constructor)
   | false =>
    have hp1 : ¬ (p.length : Int) = 0 := by rcases hgo with g | g; cases g; exact g
    have hp2 : ¬ p = [] := by rcases hgo2 with g | g; cases g; exact g
    (have zz:=trivial;repeat((first|clear zz|with_reducible first|refine A3 ?_|refine A5 fun _=>?_|refine A4 fun _=>?_);try simp(disch:=first|omega|assumption|((repeat(first|exact A1|exact uH|apply A2|apply uT));first|done|fail)|(simp;first|done|omega|fail))[hs0, hcl, hp1, hp2]))
    refine G4 A3q (fun w' hw' => A6U w' _ j.table j.key idv (IntKind.i64.wrap (j.now + m.c.idle)) hkey hlen (Z7 (ts := P) (t := (_, j.table)) hw' (by (repeat constructor)) ht)) ?_
    rintro r _ rfl
    cases h2 : K3 j.table ⟨1, j.key, idv, IntKind.i64.wrap (j.now + m.c.idle)⟩ with
    | none =>
     simp only [Option.isSome_none, Bool.false_eq_true, if_false]
     (have zz:=trivial;repeat((first|clear zz|with_reducible first|refine A3 ?_|refine A5 fun _=>?_|refine A4 fun _=>?_);try simp(disch:=first|omega|assumption|((repeat(first|exact A1|exact uH|apply A2|apply uT));first|done|fail)|(simp;first|done|omega|fail))[hs0, hcl, hp1, hp2]))
     refine B1 (.slice xa j.table.length xc, m.dz, P) ⟨by simp [N1], N5 rfl rfl hP ht⟩ ?_
     simp only [Q4, G6, K6, C7, D8, E5, WoH.uz, WoH.dz]
     (repeat' constructor)
    | some u =>
     simp only [Option.isSome_some, if_true, Option.getD_some]
     refine Z5 (e := 218) (k := 4) (v := r) (q := u.length) (xs := u.flatMap F6) (by (repeat constructor)) fun hr1 hr2 hr3 => ?_
     have hr4 : r.cells.toList = [r] := by rw [hr1]
     (have zz:=trivial;repeat((first|clear zz|with_reducible first|refine A3 ?_|refine A5 fun _=>?_|refine A4 fun _=>?_);try simp(disch:=first|omega|assumption|((repeat(first|exact A1|exact uH|apply A2|apply uT));first|done|fail)|(simp;first|done|omega|fail))[hs0, hcl, hp1, hp2, hr1, hr2, hr3, hr4]))
     refine Y8 (r := r) (l := u) (ts := P) (by (repeat' constructor)) ?_
     refine B1 (r, m.dz, P ++ [(r, u)]) ⟨by simp [N1], rfl, hP.left _, List.mem_append_right _ (List.mem_singleton.2 rfl), .push _ _ _⟩ ?_
     simp only [Q4, G6, K6, C7, D8, E5, WoH.uz, WoH.dz]
     (repeat' constructor)
end Go.Proofs.YtjobgnabneddjaaGreat
namespace Go.Proofs.YtjobgnabneddjaaGreat
open Go
def A3n : Array Value := #[.func (.func 76) #[] #[], .func (.func 77) #[] #[], .func (.func 78) #[] #[], .func (.func 79) #[] #[], .func (.func 80) #[] #[], .func (.func 81) #[] #[], .func (.func 82) #[] #[], .func (.func 83) #[] #[], .func (.func 84) #[] #[], .func (.func 85) #[] #[]]
theorem s0 (K : Value → WP) : A0 PR (Instr.build 144 #[(0, .func (.func 76) #[] #[]), (1, .func (.func 77) #[] #[]), (2, .func (.func 78) #[] #[]), (3, .func (.func 79) #[] #[]), (4, .func (.func 80) #[] #[]), (5, .func (.func 81) #[] #[]), (6, .func (.func 82) #[] #[]), (7, .func (.func 83) #[] #[]), (8, .func (.func 84) #[] #[]), (9, .func (.func 85) #[] #[])]) K = K (.agg A3n) := F8 (fun w => by unfold A3n; kernel_rfl) K
theorem JwOk.up {j : JW} {tv : Value} {m : WoH} {P : S7} (h : JwOk j tv m P) (st : Int) : JwOk { j with st := st } tv m P := ⟨h.ws, h.tabs, h.tb, h.shn, h.text, h.key, h.shard, h.keys, h.len, h.slot, h.ep, h.cur⟩
theorem B7N {w' : World} {κ : Bool} {S : List Nat} {w0 : World} {H : List Res} {b : Nat} {j : JW} {tv : Value} {m : WoH} (hw : LW κ S w0 H w') (h1 : G6 b j tv ∈ H) (h2 : ∀ r ∈ C7 m, r ∈ H) :
  Fn PR C0 23 #[.pointer (some ⟨b, 0, none⟩), .pointer (some ⟨m.b, 0, none⟩)] w' (fun u w'' => u = .bool (j.ready m.ws) ∧ D2 [] w' w'') := C0e w' b j tv m (hw.pt h1) (WoAt.own hw h2)
set_option maxHeartbeats 4000000 in
theorem B56 (w : World) (b : Nat) (j : JW) (tv : Value) (m : WoH) (P : S7) (h : JwOk j tv m P) (hst : 0 ≤ j.st ∧ j.st ≤ 10) (hw : LW false (B6 (F7 b j tv m P)) w (F7 b j tv m P) w) : A42 20 w b j tv m P (j.step m.ws) := by
 refine B0z (TW.goH (κ := false) ?_ hw)
 unfold A3e
 have hshn : m.c.sh ≤ 1000 := by have h1 := h.shn; have h2 := h.tabs.few; omega
 generalize hS : B6 (F7 b j tv m P) = S at *
 have hR := fun (w' : World) (H : List Res) (hw' : LW false S w H w') (h1 : G6 b j tv ∈ H) (h2 : ∀ r ∈ C7 m, r ∈ H) => B7N hw' h1 h2
 unfold JW.step
 cases hr : j.ready m.ws with
 | false =>
  rw [hr] at hR
  simp only [Bool.false_eq_true, if_false]
  (have zz:=trivial;repeat((first|clear zz|with_reducible first|refine A3 ?_|refine A5 fun _=>?_|refine A4 fun _=>?_);try simp(disch:=first|omega|assumption|((repeat(first|exact A1|exact uH|apply A2|apply uT));first|done|fail)|(simp;first|done|omega|fail))[]))
  rename_i bx
  refine C4 M9 (fun w' hw' => hR w' _ hw' (by unfold F7; (repeat constructor)) (fun r hr => by unfold F7; exact List.mem_cons_of_mem _ (List.mem_cons_of_mem _ (List.mem_cons_of_mem _ hr)))) ?_
  (have zz:=trivial;repeat((first|clear zz|with_reducible first|refine A3 ?_|refine A5 fun _=>?_|refine A4 fun _=>?_);try simp(disch:=first|omega|assumption|((repeat(first|exact A1|exact uH|apply A2|apply uT));first|done|fail)|(simp;first|done|omega|fail))[]))
  refine B1 (tv, m.dz, P) ⟨rfl, N5 rfl rfl h.tabs.pool h.tb⟩ ?_
  simp only [Q4, F7, C7, WoH.uz, WoH.dz]
  (repeat' constructor)
 | true =>
  rw [hr] at hR
  simp only [if_true]
  have hlt : j.st < 10 := by
   unfold JW.ready at hr
   simp only [Bool.and_eq_true, decide_eq_true_eq] at hr
   exact hr.1
  obtain ⟨k, hk⟩ : ∃ k : Nat, j.st = k := ⟨j.st.toNat, by omega⟩
  rw [hk, Int.toNat_natCast]
  clear hr
  have hcase : k = 0 ∨ k = 1 ∨ k = 2 ∨ k = 3 ∨ k = 4 ∨ k = 5 ∨ k = 6 ∨ k = 7 ∨ k = 8 ∨ k = 9 := by omega
  (have zz:=trivial;repeat((first|clear zz|with_reducible first|refine A3 ?_|refine A5 fun _=>?_|refine A4 fun _=>?_);try simp(disch:=first|omega|assumption|((repeat(first|exact A1|exact uH|apply A2|apply uT));first|done|fail)|(simp;first|done|omega|fail))[]))
  rename_i bx
  refine C4 M9 (fun w' hw' => hR w' _ hw' (by unfold F7; (repeat constructor)) (fun r hr => by unfold F7; exact List.mem_cons_of_mem _ (List.mem_cons_of_mem _ (List.mem_cons_of_mem _ hr)))) ?_
  clear hR
  simp only [F7, G6, K6, C7, D8, E5, hk]
  rcases hcase with rfl | rfl | rfl | rfl | rfl | rfl | rfl | rfl | rfl | rfl
  ·rw [show D1 0 = jw0 from rfl, show (((0 : Nat) : Int) + 1) = 1 from rfl, show ((0 : Nat) : Int) = 0 from rfl]
   rw [s0]
   unfold A3n
   (have zz:=trivial;repeat((first|clear zz|with_reducible first|refine A3 ?_|refine A5 fun _=>?_|refine A4 fun _=>?_);try simp(disch:=first|omega|assumption|((repeat(first|exact A1|exact uH|apply A2|apply uT));first|done|fail)|(simp;first|done|omega|fail))[]))
   refine D0 (Hc := F7 b { j with st := 1 } tv m P) A8M (fun w' _ hs => C9n w' b { j with st := 1 } tv m P (h.up _) hshn hs) (by simp only [F7, G6, K6, C7, D8, E5]; (repeat' constructor)) ?_
   rintro y v ⟨rfl, hy⟩
   generalize jw0 { j with st := 1 } m.ws = r at *
   obtain ⟨r1, r2, t1, t2, t3⟩ := r
   simp only [Q4, List.cons_append, List.nil_append, N1, C7]
   (have zz:=trivial;repeat((first|clear zz|with_reducible first|refine A3 ?_|refine A5 fun _=>?_|refine A4 fun _=>?_);try simp(disch:=first|omega|assumption|((repeat(first|exact A1|exact uH|apply A2|apply uT));first|done|fail)|(simp;first|done|omega|fail))[]))
   refine B1 y ⟨rfl, hy⟩ ?_
   simp only [Q4, C7]
   (repeat' constructor)
  ·rw [show D1 1 = jw1 from rfl, show (((1 : Nat) : Int) + 1) = 2 from rfl, show ((1 : Nat) : Int) = 1 from rfl]
   rw [s0]
   unfold A3n
   (have zz:=trivial;repeat((first|clear zz|with_reducible first|refine A3 ?_|refine A5 fun _=>?_|refine A4 fun _=>?_);try simp(disch:=first|omega|assumption|((repeat(first|exact A1|exact uH|apply A2|apply uT));first|done|fail)|(simp;first|done|omega|fail))[]))
   refine D0 (Hc := F7 b { j with st := 2 } tv m P) B03 (fun w' _ hs => C9j w' b { j with st := 2 } tv m P (h.up _) hs) (by simp only [F7, G6, K6, C7, D8, E5]; (repeat' constructor)) ?_
   rintro y v ⟨rfl, hy⟩
   generalize jw1 { j with st := 2 } m.ws = r at *
   obtain ⟨r1, r2, t1, t2, t3⟩ := r
   simp only [Q4, List.cons_append, List.nil_append, N1, C7]
   (have zz:=trivial;repeat((first|clear zz|with_reducible first|refine A3 ?_|refine A5 fun _=>?_|refine A4 fun _=>?_);try simp(disch:=first|omega|assumption|((repeat(first|exact A1|exact uH|apply A2|apply uT));first|done|fail)|(simp;first|done|omega|fail))[]))
   refine B1 y ⟨rfl, hy⟩ ?_
   simp only [Q4, C7]
   (repeat' constructor)
  ·rw [show D1 2 = jw2 from rfl, show (((2 : Nat) : Int) + 1) = 3 from rfl, show ((2 : Nat) : Int) = 2 from rfl]
   rw [s0]
   unfold A3n
   (have zz:=trivial;repeat((first|clear zz|with_reducible first|refine A3 ?_|refine A5 fun _=>?_|refine A4 fun _=>?_);try simp(disch:=first|omega|assumption|((repeat(first|exact A1|exact uH|apply A2|apply uT));first|done|fail)|(simp;first|done|omega|fail))[]))
   refine D0 (Hc := F7 b { j with st := 3 } tv m P) A8d (fun w' _ hs => C8Z w' b { j with st := 3 } tv m P (h.up _) hs) (by simp only [F7, G6, K6, C7, D8, E5]; (repeat' constructor)) ?_
   rintro y v ⟨rfl, hy⟩
   generalize jw2 { j with st := 3 } m.ws = r at *
   obtain ⟨r1, r2, t1, t2, t3⟩ := r
   simp only [Q4, List.cons_append, List.nil_append, N1, C7]
   (have zz:=trivial;repeat((first|clear zz|with_reducible first|refine A3 ?_|refine A5 fun _=>?_|refine A4 fun _=>?_);try simp(disch:=first|omega|assumption|((repeat(first|exact A1|exact uH|apply A2|apply uT));first|done|fail)|(simp;first|done|omega|fail))[]))
   refine B1 y ⟨rfl, hy⟩ ?_
   simp only [Q4, C7]
   (repeat' constructor)
  ·rw [show D1 3 = jw3 from rfl, show (((3 : Nat) : Int) + 1) = 4 from rfl, show ((3 : Nat) : Int) = 3 from rfl]
   rw [s0]
   unfold A3n
   (have zz:=trivial;repeat((first|clear zz|with_reducible first|refine A3 ?_|refine A5 fun _=>?_|refine A4 fun _=>?_);try simp(disch:=first|omega|assumption|((repeat(first|exact A1|exact uH|apply A2|apply uT));first|done|fail)|(simp;first|done|omega|fail))[]))
   refine D0 (Hc := F7 b { j with st := 4 } tv m P) A9z (fun w' _ hs => C9L w' b { j with st := 4 } tv m P (h.up _) hs) (by simp only [F7, G6, K6, C7, D8, E5]; (repeat' constructor)) ?_
   rintro y v ⟨rfl, hy⟩
   generalize jw3 { j with st := 4 } m.ws = r at *
   obtain ⟨r1, r2, t1, t2, t3⟩ := r
   simp only [Q4, List.cons_append, List.nil_append, N1, C7]
   (have zz:=trivial;repeat((first|clear zz|with_reducible first|refine A3 ?_|refine A5 fun _=>?_|refine A4 fun _=>?_);try simp(disch:=first|omega|assumption|((repeat(first|exact A1|exact uH|apply A2|apply uT));first|done|fail)|(simp;first|done|omega|fail))[]))
   refine B1 y ⟨rfl, hy⟩ ?_
   simp only [Q4, C7]
   (repeat' constructor)
  ·rw [show D1 4 = jw4 from rfl, show (((4 : Nat) : Int) + 1) = 5 from rfl, show ((4 : Nat) : Int) = 4 from rfl]
   rw [s0]
   unfold A3n
   (have zz:=trivial;repeat((first|clear zz|with_reducible first|refine A3 ?_|refine A5 fun _=>?_|refine A4 fun _=>?_);try simp(disch:=first|omega|assumption|((repeat(first|exact A1|exact uH|apply A2|apply uT));first|done|fail)|(simp;first|done|omega|fail))[]))
   refine D0 (Hc := F7 b { j with st := 5 } tv m P) A6T (fun w' _ hs => C8y w' b { j with st := 5 } tv m P (h.up _) hs) (by simp only [F7, G6, K6, C7, D8, E5]; (repeat' constructor)) ?_
   rintro y v ⟨rfl, hy⟩
   generalize jw4 { j with st := 5 } m.ws = r at *
   obtain ⟨r1, r2, t1, t2, t3⟩ := r
   simp only [Q4, List.cons_append, List.nil_append, N1, C7]
   (have zz:=trivial;repeat((first|clear zz|with_reducible first|refine A3 ?_|refine A5 fun _=>?_|refine A4 fun _=>?_);try simp(disch:=first|omega|assumption|((repeat(first|exact A1|exact uH|apply A2|apply uT));first|done|fail)|(simp;first|done|omega|fail))[]))
   refine B1 y ⟨rfl, hy⟩ ?_
   simp only [Q4, C7]
   (repeat' constructor)
  ·rw [show D1 5 = jw5 from rfl, show (((5 : Nat) : Int) + 1) = 6 from rfl, show ((5 : Nat) : Int) = 5 from rfl]
   rw [s0]
   unfold A3n
   (have zz:=trivial;repeat((first|clear zz|with_reducible first|refine A3 ?_|refine A5 fun _=>?_|refine A4 fun _=>?_);try simp(disch:=first|omega|assumption|((repeat(first|exact A1|exact uH|apply A2|apply uT));first|done|fail)|(simp;first|done|omega|fail))[]))
   refine D0 (Hc := F7 b { j with st := 6 } tv m P) A9d (fun w' _ hs => C83 w' b { j with st := 6 } tv m P (h.up _) hs) (by simp only [F7, G6, K6, C7, D8, E5]; (repeat' constructor)) ?_
   rintro y v ⟨rfl, hy⟩
   generalize jw5 { j with st := 6 } m.ws = r at *
   obtain ⟨r1, r2, t1, t2, t3⟩ := r
   simp only [Q4, List.cons_append, List.nil_append, N1, C7]
   (have zz:=trivial;repeat((first|clear zz|with_reducible first|refine A3 ?_|refine A5 fun _=>?_|refine A4 fun _=>?_);try simp(disch:=first|omega|assumption|((repeat(first|exact A1|exact uH|apply A2|apply uT));first|done|fail)|(simp;first|done|omega|fail))[]))
   refine B1 y ⟨rfl, hy⟩ ?_
   simp only [Q4, C7]
   (repeat' constructor)
  ·rw [show D1 6 = jw6 from rfl, show (((6 : Nat) : Int) + 1) = 7 from rfl, show ((6 : Nat) : Int) = 6 from rfl]
   rw [s0]
   unfold A3n
   (have zz:=trivial;repeat((first|clear zz|with_reducible first|refine A3 ?_|refine A5 fun _=>?_|refine A4 fun _=>?_);try simp(disch:=first|omega|assumption|((repeat(first|exact A1|exact uH|apply A2|apply uT));first|done|fail)|(simp;first|done|omega|fail))[]))
   refine D0 (Hc := F7 b { j with st := 7 } tv m P) A7A (fun w' _ hs => C89 w' b { j with st := 7 } tv m P (h.up _) hs) (by simp only [F7, G6, K6, C7, D8, E5]; (repeat' constructor)) ?_
   rintro y v ⟨rfl, hy⟩
   generalize jw6 { j with st := 7 } m.ws = r at *
   obtain ⟨r1, r2, t1, t2, t3⟩ := r
   simp only [Q4, List.cons_append, List.nil_append, N1, C7]
   (have zz:=trivial;repeat((first|clear zz|with_reducible first|refine A3 ?_|refine A5 fun _=>?_|refine A4 fun _=>?_);try simp(disch:=first|omega|assumption|((repeat(first|exact A1|exact uH|apply A2|apply uT));first|done|fail)|(simp;first|done|omega|fail))[]))
   refine B1 y ⟨rfl, hy⟩ ?_
   simp only [Q4, C7]
   (repeat' constructor)
  ·rw [show D1 7 = jw7 from rfl, show (((7 : Nat) : Int) + 1) = 8 from rfl, show ((7 : Nat) : Int) = 7 from rfl]
   rw [s0]
   unfold A3n
   (have zz:=trivial;repeat((first|clear zz|with_reducible first|refine A3 ?_|refine A5 fun _=>?_|refine A4 fun _=>?_);try simp(disch:=first|omega|assumption|((repeat(first|exact A1|exact uH|apply A2|apply uT));first|done|fail)|(simp;first|done|omega|fail))[]))
   refine D0 (Hc := F7 b { j with st := 8 } tv m P) A8H (fun w' _ hs => C9m w' b { j with st := 8 } tv m P (h.up _) hs) (by simp only [F7, G6, K6, C7, D8, E5]; (repeat' constructor)) ?_
   rintro y v ⟨rfl, hy⟩
   generalize jw7 { j with st := 8 } m.ws = r at *
   obtain ⟨r1, r2, t1, t2, t3⟩ := r
   simp only [Q4, List.cons_append, List.nil_append, N1, C7]
   (have zz:=trivial;repeat((first|clear zz|with_reducible first|refine A3 ?_|refine A5 fun _=>?_|refine A4 fun _=>?_);try simp(disch:=first|omega|assumption|((repeat(first|exact A1|exact uH|apply A2|apply uT));first|done|fail)|(simp;first|done|omega|fail))[]))
   refine B1 y ⟨rfl, hy⟩ ?_
   simp only [Q4, C7]
   (repeat' constructor)
  ·rw [show D1 8 = jw8 from rfl, show (((8 : Nat) : Int) + 1) = 9 from rfl, show ((8 : Nat) : Int) = 8 from rfl]
   rw [s0]
   unfold A3n
   (have zz:=trivial;repeat((first|clear zz|with_reducible first|refine A3 ?_|refine A5 fun _=>?_|refine A4 fun _=>?_);try simp(disch:=first|omega|assumption|((repeat(first|exact A1|exact uH|apply A2|apply uT));first|done|fail)|(simp;first|done|omega|fail))[]))
   refine D0 (Hc := F7 b { j with st := 9 } tv m P) A7c (fun w' _ hs => C8s w' b { j with st := 9 } tv m P (h.up _) hs) (by simp only [F7, G6, K6, C7, D8, E5]; (repeat' constructor)) ?_
   rintro y v ⟨rfl, hy⟩
   generalize jw8 { j with st := 9 } m.ws = r at *
   obtain ⟨r1, r2, t1, t2, t3⟩ := r
   simp only [Q4, List.cons_append, List.nil_append, N1, C7]
   (have zz:=trivial;repeat((first|clear zz|with_reducible first|refine A3 ?_|refine A5 fun _=>?_|refine A4 fun _=>?_);try simp(disch:=first|omega|assumption|((repeat(first|exact A1|exact uH|apply A2|apply uT));first|done|fail)|(simp;first|done|omega|fail))[]))
   refine B1 y ⟨rfl, hy⟩ ?_
   simp only [Q4, C7]
   (repeat' constructor)
  ·rw [show D1 9 = jw9 from rfl, show (((9 : Nat) : Int) + 1) = 10 from rfl, show ((9 : Nat) : Int) = 9 from rfl]
   rw [s0]
   unfold A3n
   (have zz:=trivial;repeat((first|clear zz|with_reducible first|refine A3 ?_|refine A5 fun _=>?_|refine A4 fun _=>?_);try simp(disch:=first|omega|assumption|((repeat(first|exact A1|exact uH|apply A2|apply uT));first|done|fail)|(simp;first|done|omega|fail))[]))
   refine D0 (Hc := F7 b { j with st := 10 } tv m P) A8G (fun w' _ hs => C8w w' b { j with st := 10 } tv m P (h.up _) hs) (by simp only [F7, G6, K6, C7, D8, E5]; (repeat' constructor)) ?_
   rintro y v ⟨rfl, hy⟩
   generalize jw9 { j with st := 10 } m.ws = r at *
   obtain ⟨r1, r2, t1, t2, t3⟩ := r
   simp only [Q4, List.cons_append, List.nil_append, N1, C7]
   (have zz:=trivial;repeat((first|clear zz|with_reducible first|refine A3 ?_|refine A5 fun _=>?_|refine A4 fun _=>?_);try simp(disch:=first|omega|assumption|((repeat(first|exact A1|exact uH|apply A2|apply uT));first|done|fail)|(simp;first|done|omega|fail))[]))
   refine B1 y ⟨rfl, hy⟩ ?_
   simp only [Q4, C7]
   (repeat' constructor)
end Go.Proofs.YtjobgnabneddjaaGreat
namespace Go.Proofs.YtjobgnabneddjaaGreat
open Go
def B3G (t : List EnV) : Prop := (∀ x ∈ t, x = noE) ∧ t.length ≤ 64
theorem B94 (n : Nat) : B3G (newE n) := ⟨fun x hx => by unfold newE at hx; exact (List.mem_replicate.1 hx).2, by unfold newE; simp; omega⟩
theorem B8f {t : List EnV} (h : B3G t) : N0 t := fun x hx => by rw [h.1 x hx]; decide
theorem A03 {l : List Int} {i : Nat} {a b : Int} (h : i < l.length) : A2x l (i : Nat) a b = if l.getD i 0 = a then l.set i b else l := by
 unfold A2x
 rw [Int.toNat_natCast]
 by_cases c : l.getD i 0 = a
 ·rw [if_pos ⟨by omega, by omega, c⟩, if_pos c]
 ·rw [if_neg (fun h => c h.2.2), if_neg c]
theorem A7C {l : List Int} {i : Nat} (h : i < l.length) : A1p l (i : Nat) = l.getD i 0 := by unfold A1p; rw [if_pos (by omega), Int.toNat_natCast]
def A8e (N : Nat) : List Int := List.replicate N (-1)
theorem C4a {N j : Nat} (h : j < N) : (A8e N).getD j 0 = -1 := by
 rw [List.getD_eq_getElem?_getD, List.getElem?_eq_getElem (by simp [A8e]; exact h)]; simp [A8e]
theorem C5K {l : List Int} (h : ∀ j, j < l.length → l.getD j 0 = -1) (i : Int) : A1p l i = -1 := by
 unfold A1p
 split
 ·rename_i hi; exact h _ (by omega)
 ·rfl
end Go.Proofs.YtjobgnabneddjaaGreat
namespace Go.Proofs.YtjobgnabneddjaaGreat
open Go
end Go.Proofs.YtjobgnabneddjaaGreat
namespace Go.Proofs.YtjobgnabneddjaaGreat
open Go
structure QI (N : Nat) (j : JW) (x : WS) : Prop where
 ok : WsOk x
 n : 1 ≤ N ∧ N ≤ 16
 sh : x.c.sh = (N : Nat)
 tl : x.tabs.length = N
 te : ∀ t ∈ x.tabs, B3G t
 pl : x.places.length = N
 ow : x.own.length = N
 jt : B3G j.table
 sl : ∀ i, K8 x.sl i = .no
 ep : D3 x.cells 0 = 0
 cur : D3 x.cells 1 = 0
 text : j.text.size ≤ 100
 key : j.key.size < 2 ^ 60
 shard : 0 ≤ j.shard ∧ j.shard < N
 slot : -1 ≤ j.slot ∧ j.slot ≤ 0
 st : 0 ≤ j.st ∧ j.st ≤ 10
theorem B59 (l : List EnV) (key : ByteArray) (c : Bool) (now idle : Int) : D4 l [] key c now idle = (l, ⟨11, 0, false, 0⟩, false) := by
 have hk : (H8 l [] key now).2 = false := by
  unfold H8
  have hb : ∀ id, Q9 [] id = -1 := fun _ => rfl
  rw [if_pos (Or.inr (Or.inr (by rw [hb]; omega)))]
 unfold D4
 rw [if_pos ⟨hk, rfl⟩]
theorem A1M (l : List Int) (i w : Int) : (U8 l i w).length = l.length := by unfold U8 A2x; split <;> (try split) <;> simp
theorem s5 (l : List Int) (i w : Int) : (M8 l i w).length = l.length := by unfold M8 A2x; split <;> (try split) <;> simp
theorem C7n (c : CfgV) (who : Int) : E6 c who = -1 ∨ 2 ≤ E6 c who := by unfold E6; split <;> omega
theorem Z1 (c : CfgV) (who v : Int) (l : List Int) (k : Int) (hk : k = 0 ∨ k = 1) : D3 (H7 l (E6 c who) v) k = D3 l k := m8 _ _ (by rcases C7n c who with h | h <;> omega)
theorem QI.stage {N : Nat} {j : JW} {x : WS} (h : QI N j x) (k : Nat) (hk : k < 10) (hs : j.st = (k : Nat)) : QI N (D1 k { j with st := j.st + 1 } x).1 (D1 k { j with st := j.st + 1 } x).2.1 := by
 obtain ⟨⟨w1, w2, w3, w4, w5⟩, h2, h3, h4, h5, h6, h7, h8, h9, h10, h11, h12, h13, h14, h15, h16⟩ := h
 have hst : 0 ≤ j.st + 1 ∧ j.st + 1 ≤ 10 := by omega
 have hok : WsOk x := ⟨w1, w2, w3, w4, w5⟩
 have hcase : k = 0 ∨ k = 1 ∨ k = 2 ∨ k = 3 ∨ k = 4 ∨ k = 5 ∨ k = 6 ∨ k = 7 ∨ k = 8 ∨ k = 9 := by omega
 rcases hcase with rfl | rfl | rfl | rfl | rfl | rfl | rfl | rfl | rfl | rfl
 ·show QI N (jw0 _ x).1 (jw0 _ x).2.1
  unfold jw0
  by_cases c1 : E6 x.c j.who < 0
  ·rw [if_pos c1]; exact ⟨hok, h2, h3, h4, h5, h6, h7, h8, h9, h10, h11, h12, h13, h14, h15, by simp [JW.refuse]⟩
  ·rw [if_neg c1]
   by_cases c2 : (B2 j.text).2.2 = 0
   ·rw [if_neg (by simpa using c2)]
    refine ⟨hok, h2, h3, h4, h5, h6, h7, h8, h9, h10, h11, h12, A3c _, ?_, h15, hst⟩
    show 0 ≤ ((L7 (P9 (B2 j.text).1) x.c.sh : Nat) : Int) ∧ ((L7 (P9 (B2 j.text).1) x.c.sh : Nat) : Int) < N
    have : L7 (P9 (B2 j.text).1) x.c.sh < N := by
     unfold L7; rw [if_neg (by omega), h3, Int.toNat_natCast]; exact Nat.mod_lt _ (by omega)
    omega
   ·rw [if_pos c2]; exact ⟨hok, h2, h3, h4, h5, h6, h7, h8, h9, h10, h11, h12, h13, h14, h15, by simp [JW.refuse]⟩
 ·exact ⟨⟨w1, by simp only [D1, jw1, A01]; exact w2, w3, w4, w5⟩, h2, h3, h4, h5, h6, h7, h8, h9, by simp only [D1, jw1]; rw [Z1 _ _ _ _ _ (Or.inl rfl)]; exact h10, by simp only [D1, jw1]; rw [Z1 _ _ _ _ _ (Or.inr rfl)]; exact h11, h12, h13, h14, h15, hst⟩
 ·show QI N (jw2 _ x).1 (jw2 _ x).2.1
  unfold jw2
  by_cases c1 : D3 x.cells 0 = j.ep
  ·rw [if_pos c1]; exact ⟨hok, h2, h3, h4, h5, h6, h7, h8, h9, h10, h11, h12, h13, h14, h15, hst⟩
  ·rw [if_neg c1]; exact ⟨hok, h2, h3, h4, h5, h6, h7, h8, h9, h10, h11, h12, h13, h14, h15, by simp⟩
 ·exact ⟨⟨w1, w2, by simp only [D1, jw3, A1M]; exact w3, w4, w5⟩, h2, h3, h4, h5, h6, by simp only [D1, jw3, A1M]; exact h7, h8, h9, h10, h11, h12, h13, h14, h15, hst⟩
 ·refine ⟨hok, h2, h3, h4, h5, h6, h7, h8, h9, h10, h11, h12, h13, h14, ?_, hst⟩
  show -1 ≤ IntKind.i64.wrap (D3 x.cells 1 - 1) ∧ IntKind.i64.wrap (D3 x.cells 1 - 1) ≤ 0
  rw [h11, d9 (by omega) (by omega)]; omega
 ·refine ⟨hok, h2, h3, h4, h5, h6, h7, ?_, h9, h10, h11, h12, h13, h14, h15, hst⟩
  show B3G (x.tabs.getD j.shard.toNat [])
  rw [List.getD_eq_getElem?_getD, List.getElem?_eq_getElem (by omega)]
  exact h5 _ (List.getElem_mem _)
 ·have hp : J9 x j.slot = [] := by unfold J9; rw [h9]
  refine ⟨hok, h2, h3, h4, h5, h6, h7, ?_, h9, h10, h11, h12, h13, h14, h15, hst⟩
  show B3G (D4 j.table (J9 x j.slot) j.key j.closing j.now x.c.idle).1
  rw [hp, B59]; exact h8
 ·refine ⟨⟨w1, w2, w3, w4, w5⟩, h2, h3, by simp only [D1, jw7, List.length_set]; exact h4, fun t ht => ?_, h6, h7, h8, h9, h10, h11, h12, h13, h14, h15, hst⟩
  rcases List.mem_or_eq_of_mem_set (show t ∈ x.tabs.set j.shard.toNat j.table from ht) with ht | rfl
  ·exact h5 t ht
  ·exact h8
 ·exact ⟨⟨w1, w2, by simp only [D1, jw8, s5]; exact w3, w4, w5⟩, h2, h3, h4, h5, h6, by simp only [D1, jw8, s5]; exact h7, h8, h9, h10, h11, h12, h13, h14, h15, hst⟩
 ·exact ⟨⟨w1, by simp only [D1, jw9, A01]; exact w2, w3, w4, w5⟩, h2, h3, h4, h5, h6, h7, h8, h9, by simp only [D1, jw9]; rw [Z1 _ _ _ _ _ (Or.inl rfl)]; exact h10, by simp only [D1, jw9]; rw [Z1 _ _ _ _ _ (Or.inr rfl)]; exact h11, h12, h13, h14, h15, hst⟩
theorem A7g {j : JW} {x : WS} (h : j.ready x = false) : j.step x = (j, x, l9) := by unfold JW.step; rw [h]; rfl
theorem u7 {j : JW} {x : WS} (h : j.ready x = true) : j.step x = D1 j.st.toNat { j with st := j.st + 1 } x := by unfold JW.step; rw [h]; rfl
theorem A8A {j : JW} {x : WS} (h : j.ready x = true) : j.st < 10 := by
 unfold JW.ready at h
 simp only [Bool.and_eq_true, decide_eq_true_eq] at h
 exact h.1
theorem QI.step {N : Nat} {j : JW} {x : WS} (h : QI N j x) : QI N (j.step x).1 (j.step x).2.1 := by
 cases hr : j.ready x with
 | false => rw [A7g hr]; exact h
 | true =>
  have hs := h.st
  have hl := A8A hr
  rw [u7 hr]
  exact h.stage _ (by omega) (by omega)
theorem C2N {j : JW} {x : WS} (hs : j.st = 0) (hp : ¬ E6 x.c j.who < 0) (hb : (B2 j.text).2.2 ≠ 0) : j.step x = (({ j with st := j.st + 1 } : JW).refuse 9, x, true, true, false) := by
 rw [u7 (by simp [JW.ready, hs])]
 rw [hs]
 exact (if_neg hp).trans (if_pos hb)
structure GoI (N : Nat) (who : Int) (text : ByteArray) (k : Nat) (j : JW) (x : WS) : Prop where
 q : QI N j x
 ewho : j.who = who
 etext : j.text = text
 pin : 0 ≤ E6 x.c who
 good : (B2 text).2.2 = 0
 st : j.st = (k : Nat)
 ep : 1 ≤ k → k ≤ 3 → j.ep = 0
 slot : 5 ≤ k → j.slot = -1
 ans : 7 ≤ k → j.ans = ⟨11, 0, false, 0⟩
theorem C7b {N : Nat} {who : Int} {text : ByteArray} {k : Nat} {j : JW} {x : WS} (h : GoI N who text k j x) (hk : k < 10) (ho : k = 3 → A1p x.own j.shard < 0) : j.ready x = true ∧ GoI N who text (k + 1) (j.step x).1 (j.step x).2.1 := by
 obtain ⟨h1, h2, h3, h4, h5, h6, h7, h8, h9⟩ := h
 have hr : j.ready x = true := by
  unfold JW.ready
  rw [decide_eq_true (by omega), Bool.true_and]
  by_cases c : j.st = 3
  ·rw [decide_eq_true (ho (by omega))]; simp
  ·rw [decide_eq_false c]; rfl
 refine ⟨hr, ?_⟩
 have hq := h1.step
 rw [u7 hr] at hq ⊢
 rw [h6, Int.toNat_natCast] at hq ⊢
 have hp : J9 x j.slot = [] := by unfold J9; rw [h1.sl]
 have hcase : k = 0 ∨ k = 1 ∨ k = 2 ∨ k = 3 ∨ k = 4 ∨ k = 5 ∨ k = 6 ∨ k = 7 ∨ k = 8 ∨ k = 9 := by omega
 rcases hcase with rfl | rfl | rfl | rfl | rfl | rfl | rfl | rfl | rfl | rfl
 ·have e : D1 0 { j with st := ((0 : Nat) : Int) + 1 } x = ({ ({ j with st := ((0 : Nat) : Int) + 1 } : JW).rd x.c.sh with ep := D3 x.cells 0 }, x, l9) := by
   show jw0 _ x = _
   unfold jw0
   rw [if_neg (show ¬ E6 x.c j.who < 0 by rw [h2]; omega), if_neg (show ¬ (B2 j.text).2.2 ≠ 0 by rw [h3]; simpa using h5)]
  rw [e] at hq ⊢
  exact ⟨hq, h2, h3, h4, h5, rfl, fun _ _ => h1.ep, fun h => by omega, fun h => by omega⟩
 ·exact ⟨hq, h2, h3, h4, h5, rfl, fun _ _ => h7 (by omega) (by omega), fun h => by omega, fun h => by omega⟩
 ·have e : D1 2 { j with st := ((2 : Nat) : Int) + 1 } x = ({ j with st := ((2 : Nat) : Int) + 1 }, x, l9) := by
   show jw2 _ x = _
   unfold jw2
   rw [if_pos (show D3 x.cells 0 = j.ep by rw [h1.ep, h7 (by omega) (by omega)])]
  rw [e] at hq ⊢
  exact ⟨hq, h2, h3, h4, h5, rfl, fun _ _ => h7 (by omega) (by omega), fun h => by omega, fun h => by omega⟩
 ·exact ⟨hq, h2, h3, h4, h5, rfl, fun _ h => by omega, fun h => by omega, fun h => by omega⟩
 ·refine ⟨hq, h2, h3, h4, h5, rfl, fun _ h => by omega, fun _ => ?_, fun h => by omega⟩
  show IntKind.i64.wrap (D3 x.cells 1 - 1) = -1
  rw [h1.cur]; rfl
 ·exact ⟨hq, h2, h3, h4, h5, rfl, fun _ h => by omega, fun _ => h8 (by omega), fun h => by omega⟩
 ·refine ⟨hq, h2, h3, h4, h5, rfl, fun _ h => by omega, fun _ => h8 (by omega), fun _ => ?_⟩
  show (D4 j.table (J9 x j.slot) j.key j.closing j.now x.c.idle).2.1 = _
  rw [hp, B59]
 ·exact ⟨hq, h2, h3, h4, h5, rfl, fun _ h => by omega, fun _ => h8 (by omega), fun _ => h9 (by omega)⟩
 ·exact ⟨hq, h2, h3, h4, h5, rfl, fun _ h => by omega, fun _ => h8 (by omega), fun _ => h9 (by omega)⟩
 ·exact ⟨hq, h2, h3, h4, h5, rfl, fun _ h => by omega, fun _ => h8 (by omega), fun _ => h9 (by omega)⟩
end Go.Proofs.YtjobgnabneddjaaGreat
namespace Go.Proofs.YtjobgnabneddjaaGreat
open Go
theorem C28 {c : CfgV} (h : M1 c = true) : WsOk (K1 c) := by
 simp only [M1, Y7, Bool.and_eq_true, decide_eq_true_eq] at h
 refine ⟨by simp only [K1]; omega, by simp only [K1, List.length_replicate], by simp only [K1, List.length_replicate]; omega, by simp only [K1, List.length_replicate]; omega, by simp only [K1, List.length_replicate]; omega⟩
theorem A2m (n : Nat) (i : Int) : D3 (List.replicate n 0) i = 0 := by
 unfold D3
 split
 ·rw [List.getD_eq_getElem?_getD, List.getElem?_replicate]; split <;> rfl
 ·rfl
end Go.Proofs.YtjobgnabneddjaaGreat
namespace Go.Proofs.YtjobgnabneddjaaGreat
open Go
abbrev WA := JW × JwY
def s6 (b : Nat) (m : WoH) (a : WA) : List Res := F7 b a.1 a.2.1 (m.uz a.2.2.1) a.2.2.2
def wx (m : WoH) (a : WA) : WS := (m.uz a.2.2.1).ws
structure JwC (m : WoH) (a : WA) : Prop where
 emp : ∀ t ∈ a.2.2.2, B3G t.2
 sub : A2p a.2.2.1.ts a.2.2.2
 tb : (a.2.1, a.1.table) ∈ a.2.2.2
theorem JwC.ok {N : Nat} {m : WoH} {a : WA} (h : JwC m a) (hq : QI N a.1 (wx m a)) : JwOk a.1 a.2.1 (m.uz a.2.2.1) a.2.2.2 := by
 obtain ⟨j, tv, d, P⟩ := a
 have hts : d.ts.length = N := by have := hq.tl; simpa [wx, WoH.ws, WoH.uz] using this
 have hn := hq.n
 have hpl : m.pl.length = N := hq.pl
 have how : d.own.length = N := hq.ow
 have hsh : m.c.sh = (N : Nat) := hq.sh
 have hjt := hq.jt
 have htx : j.text.size ≤ 100 := hq.text
 have hjl : j.table.length ≤ 64 := hjt.2
 have hsl : -1 ≤ j.slot ∧ j.slot ≤ 0 := hq.slot
 have hsd : 0 ≤ j.shard ∧ j.shard < N := hq.shard
 have h0 : D3 d.cells 0 = 0 := hq.ep
 have h1 : D3 d.cells 1 = 0 := hq.cur
 refine ⟨hq.ok, ⟨by show d.ts.length ≤ _; omega, by show m.pl.length = d.ts.length; omega, fun t ht => ?_, fun t ht => B8f (h.emp _ (h.sub _ ht)), by show d.own.length ≤ _; omega, h.sub⟩, h.tb, by show (d.ts.length : Int) = m.c.sh; omega, by show j.text.size < _; omega, hq.key, by show 0 ≤ j.shard ∧ j.shard < (d.ts.length : Int); omega, B8f hjt, by show j.table.length ≤ _; omega, by show -1 ≤ j.slot ∧ j.slot ≤ _; omega, by show 0 ≤ D3 d.cells 0 ∧ D3 d.cells 0 ≤ _; omega, by show 0 ≤ D3 d.cells 1 ∧ D3 d.cells 1 ≤ _; omega⟩
 have := (h.emp _ (h.sub _ ht)).2; omega
theorem B4L {N : Nat} (w' : World) (b : Nat) (m : WoH) (a : WA) (hc : JwC m a) (hq : QI N a.1 (wx m a)) (hs : LW false (B6 (s6 b m a)) w' (s6 b m a) w') :
  Fn PR C0 20 #[.pointer (some ⟨b, 0, none⟩), .pointer (some ⟨m.b, 0, none⟩)] w' (Rn (B6 (s6 b m a)) w' (fun (a' : WA) u => u = N1 (a.1.step (wx m a)).2.2 ∧ a'.1 = (a.1.step (wx m a)).1 ∧ wx m a' = (a.1.step (wx m a)).2.1 ∧ JwC m a' ∧ QI N a'.1 (wx m a')) (s6 b m)) := by
 have hq' := hq.step
 obtain ⟨j, tv, d, P⟩ := a
 refine (B56 w' b j tv (m.uz d) P (hc.ok hq) hq.st hs).mono fun u w'' hr => ?_
 obtain ⟨y, ⟨h1, h2, h3, h4, h5⟩, h6⟩ := hr
 have e2 : wx m ((j.step (m.uz d).ws).1, y) = (j.step (m.uz d).ws).2.1 := h2
 refine ⟨((j.step (m.uz d).ws).1, y), ⟨h1, rfl, e2, ⟨fun t ht => ?_, h3, h4⟩, by rw [e2]; exact hq'⟩, h6⟩
 rcases h5.2 t ht with h | h
 ·exact hc.emp t h
 ·rw [h]; exact hq'.jt
theorem B2S (w w' : World) (b : Nat) (m : WoH) (a : WA) {κ : Bool} {S : List Nat} {H : List Res} (hw : LW κ S w H w') (hs : ∀ r ∈ s6 b m a, r ∈ H) :
  Fn PR C0 23 #[.pointer (some ⟨b, 0, none⟩), .pointer (some ⟨m.b, 0, none⟩)] w' (fun u w'' => u = .bool (a.1.ready (wx m a)) ∧ D2 [] w' w'') :=
 B7N (m := m.uz a.2.2.1) hw (hs _ (by unfold s6 F7; (repeat constructor))) fun r hr => hs _ (by unfold s6 F7; exact List.mem_cons_of_mem _ (List.mem_cons_of_mem _ hr))
theorem C4V (n : Nat) (i : Int) : K8 (List.replicate n SlV.no) i = .no := by
 unfold K8
 split
 ·rw [List.getD_eq_getElem?_getD, List.getElem?_replicate]; split <;> rfl
 ·rfl
theorem QI.job {N : Nat} {j : JW} {x : WS} (h : QI N j x) (who : Int) (text : ByteArray) (ht : text.size ≤ 100) : QI N (E7 who text) x :=
 ⟨h.ok, h.n, h.sh, h.tl, h.te, h.pl, h.ow, ⟨fun x hx => by simp [E7] at hx, by simp [E7]⟩, h.sl, h.ep, h.cur, ht, by simp [E7, H4], by have := h.n; simp only [E7]; omega, by simp [E7], by simp [E7]⟩
theorem QI.own {N : Nat} {j : JW} {x : WS} (h : QI N j x) (own : List Int) (ho : own.length = N) : QI N j { x with own := own } :=
 ⟨⟨h.ok.wk, h.ok.cells, by show own.length ≤ 16; have := h.n; omega, h.ok.sl, h.ok.keep⟩, h.n, h.sh, h.tl, h.te, h.pl, ho, h.jt, h.sl, h.ep, h.cur, h.text, h.key, h.shard, h.slot, h.st⟩
theorem QI.new {c : CfgV} (hok : M1 c = true) (who : Int) (text : ByteArray) (ht : text.size ≤ 100) : QI c.sh.toNat (E7 who text) (K1 c) := by
 have hw := C28 hok
 simp only [M1, Y7, Bool.and_eq_true, decide_eq_true_eq] at hok
 refine ⟨hw, by omega, by show c.sh = _; omega, by simp [K1], fun t h => ?_, by simp [K1], by simp [K1], ⟨fun x hx => by simp [E7] at hx, by simp [E7]⟩, fun i => C4V _ i, A2m _ _, A2m _ _, ht, by simp [E7, H4], by simp only [E7]; omega, by simp [E7], by simp [E7]⟩
 rw [(List.mem_replicate.1 (show t ∈ List.replicate c.sh.toNat (newE c.cp.toNat) from h)).2]
 exact B94 _
theorem JwC.new {c : CfgV} {m : WoH} (hws : m.ws = K1 c) (who : Int) (text : ByteArray) : JwC m (E7 who text, L9, m.dz, m.ts ++ [(L9, [])]) := by
 have e1 : m.ts.map (·.2) = List.replicate c.sh.toNat (newE c.cp.toNat) := congrArg WS.tabs hws
 refine ⟨fun t ht => ?_, fun t ht => List.mem_append_left _ ht, List.mem_append_right _ (List.mem_singleton.2 rfl)⟩
 rcases List.mem_append.1 ht with ht | ht
 ·have : t.2 ∈ m.ts.map (·.2) := List.mem_map.2 ⟨t, ht, rfl⟩
  rw [e1] at this
  rw [(List.mem_replicate.1 this).2]; exact B94 _
 ·rw [List.mem_singleton.1 ht]; exact ⟨fun x hx => by simp at hx, by simp⟩
theorem C49 {j : JW} {x : WS} {k : Nat} (hs : j.st = (k : Nat)) (hk : k < 3) : (j.step x).2.1.own = x.own := by
 cases hr : j.ready x with
 | false => rw [A7g hr]
 | true =>
  rw [u7 hr, hs, Int.toNat_natCast]
  have : k = 0 ∨ k = 1 ∨ k = 2 := by omega
  rcases this with rfl | rfl | rfl
  ·show (jw0 _ x).2.1.own = _
   unfold jw0
   split
   ·rfl
   ·split <;> rfl
  ·rfl
  ·show (jw2 _ x).2.1.own = _
   unfold jw2
   split <;> rfl
end Go.Proofs.YtjobgnabneddjaaGreat
namespace Go.Proofs.YtjobgnabneddjaaGreat
open Go
theorem C1C (w : World) (m : WoH) (hb : bl w m.b = some (.cells (E5 m.c (.pointer (some ⟨m.bc, 0, none⟩)) (.pointer (some ⟨m.bs, 0, none⟩)) (.pointer (some ⟨m.bk, 0, none⟩)) m.tv m.pv (.int .i64 m.now)) 39 (0, 0))) :
  Fn PR C0 18 #[.pointer (some ⟨m.b, 0, none⟩)] w (fun u w' => u = .bool true ∧ D2 [] w w') := by
 refine Fn.pure (A5N (TW.go (κ := false) (S := []) ?_))
 unfold A0J
 have h5 : w.cell? ⟨m.b, 5, none⟩ = some (.pointer (some ⟨m.bc, 0, none⟩)) := by rw [F3 hb]; rfl
 have h6 : w.cell? ⟨m.b, 6, none⟩ = some (.pointer (some ⟨m.bs, 0, none⟩)) := by rw [F3 hb]; rfl
 have h7 : w.cell? ⟨m.b, 7, none⟩ = some (.pointer (some ⟨m.bk, 0, none⟩)) := by rw [F3 hb]; rfl
 (have zz:=trivial;repeat((first|clear zz|with_reducible first|refine A3 ?_|refine A5 fun _=>?_|refine A4 fun _=>?_);try simp(disch:=first|omega|assumption|((repeat(first|exact A1|exact uH|apply A2|apply uT));first|done|fail)|(simp;first|done|omega|fail))[h5, h6, h7]))
 exact B0 rfl
def C6n : CfgV := ⟨1, 1, 1, 5, 2⟩
def B67 : KeyV := ⟨4, ByteArray.mk #[97, 98, 99, 100], ByteArray.mk #[101, 102, 103, 104], 1, 2, 17⟩
def p9 : ByteArray := (s4 B67 0).1
theorem C08 : (B2 p9).2.2 = 0 := by kernel_rfl
theorem C0y : p9.size ≤ 100 := by decide +kernel
theorem D1e : (s4 B67 0).2 = 0 := by kernel_rfl
theorem C7f : (B2 H4).2.2 ≠ 0 := by decide +kernel
theorem C9G : M1 C6n = true := by kernel_rfl
theorem B7Y (r : Res) : ∀ A : List Res, Part A (r :: A) [r]
 | [] => Part.nil
 | t :: A => Part.cons (.there .here) (B7Y r A)
set_option maxHeartbeats 4000000 in
theorem C1F (w : World) : Fn PR C0 14 #[] w (fun r w' => r = .bool true ∧ D2 [] w w') := by
 refine Fn.pure (A5G (TW.go (κ := false) (S := []) ?_))
 unfold A0S
 (have zz:=trivial;repeat((first|clear zz|with_reducible first|refine A3 ?_|refine A5 fun _=>?_|refine A4 fun _=>?_);try simp(disch:=first|omega|assumption|((repeat(first|exact A1|exact uH|apply A2|apply uT));first|done|fail)|(simp;first|done|omega|fail))[]))
 refine G4 A9B (fun w' hw' => C0B w' C6n) ?_
 rw [C9G]
 simp only [if_true]
 rintro m v ⟨rfl, hmc, hws⟩
 (have zz:=trivial;repeat((first|clear zz|with_reducible first|refine A3 ?_|refine A5 fun _=>?_|refine A4 fun _=>?_);try simp(disch:=first|omega|assumption|((repeat(first|exact A1|exact uH|apply A2|apply uT));first|done|fail)|(simp;first|done|omega|fail))[]))
 refine C4 (u := .tuple #[.string p9, .int .i64 (s4 B67 0).2]) B5e (fun w' _ => B7j w' B67 0) ?_
 rw [D1e]
 (have zz:=trivial;repeat((first|clear zz|with_reducible first|refine A3 ?_|refine A5 fun _=>?_|refine A4 fun _=>?_);try simp(disch:=first|omega|assumption|((repeat(first|exact A1|exact uH|apply A2|apply uT));first|done|fail)|(simp;first|done|omega|fail))[]))
 refine G4 A2d (fun w' hw' => B2c w' 1 p9) ?_
 rintro b v rfl
 (have zz:=trivial;repeat((first|clear zz|with_reducible first|refine A3 ?_|refine A5 fun _=>?_|refine A4 fun _=>?_);try simp(disch:=first|omega|assumption|((repeat(first|exact A1|exact uH|apply A2|apply uT));first|done|fail)|(simp;first|done|omega|fail))[]))
 refine G4 A2d (fun w' hw' => B2c w' 1 H4) ?_
 rintro b2 v rfl
 simp only [List.cons_append, List.nil_append]
 refine l3 218 4 ?_
 have hmz : m.uz m.dz = m := rfl
 refine Y8 (r := .slice none 0 0) (l := []) (ts := m.ts) (by simp only [C7, List.cons_append, List.nil_append]; (repeat' constructor)) ?_
 refine Sels.tw (rs := G6 b2 (E7 1 H4) L9 :: s6 b m (E7 1 p9, L9, m.dz, m.ts ++ [(L9, [])])) (by simp only [s6, F7, hmz, C7, L9, List.cons_append, List.nil_append]; (repeat' constructor)) ?_
 have hq0 : QI 1 (E7 1 p9) (wx m (E7 1 p9, L9, m.dz, m.ts ++ [(L9, [])])) := by
  have := QI.new C9G 1 p9 C0y
  show QI 1 _ m.ws
  rw [hws]; exact this
 have hg0 : GoI 1 1 p9 0 (E7 1 p9) (wx m (E7 1 p9, L9, m.dz, m.ts ++ [(L9, [])])) :=
  ⟨hq0, rfl, rfl, by show 0 ≤ E6 m.ws.c 1; rw [hws]; decide, C08, rfl, fun h => by omega, fun h => by omega, fun h => by omega⟩
 have ho0 : (wx m (E7 1 p9, L9, m.dz, m.ts ++ [(L9, [])])).own = A8e 1 := by show m.ws.own = _; rw [hws]; rfl
 (have zz:=trivial;repeat((first|clear zz|with_reducible first|refine A3 ?_|refine A5 fun _=>?_|refine A4 fun _=>?_);try simp(disch:=first|omega|assumption|((repeat(first|exact A1|exact uH|apply A2|apply uT));first|done|fail)|(simp;first|done|omega|fail))[]))
 refine C0f (fun (y : WA × Nat) => G6 b2 (E7 1 H4) L9 :: s6 b m y.1) (fun y => y.2 ≤ 10 ∧ JwC m y.1 ∧ GoI 1 1 p9 y.2 y.1.1 (wx m y.1) ∧ (y.2 ≤ 3 → (wx m y.1).own = A8e 1)) (fun y => 10 - y.2) ((E7 1 p9, L9, m.dz, m.ts ++ [(L9, [])]), 0) (fun y => .int .i64 (y.2 : Nat)) ⟨Nat.zero_le _, JwC.new hws 1 p9, hg0, fun _ => ho0⟩ ?_
 rintro ⟨a, n⟩ ⟨h1, h2, h3, h4⟩ L hL
 simp only at h1 h2 h3 h4 hL ⊢
 have hR := fun (w' : World) (H : List Res) (hw' : LW false [] w H w') (hs : ∀ r ∈ s6 b m a, r ∈ H) => B2S w w' b m a hw' hs
 have c20 : n < 20 := by omega
 have c20' : ((n : Nat) : Int) < 20 := by omega
 by_cases hn : n < 10
 ·obtain ⟨hr, hg⟩ := C7b h3 hn fun h => by
   rw [h4 (by omega)]
   have : A1p (A8e 1) a.1.shard = -1 := C5K (fun j hj => C4a (by simpa [A8e] using hj)) _
   omega
  have hos := C49 h3.st (x := wx m a)
  rw [hr] at hR
  (have zz:=trivial;repeat((first|clear zz|with_reducible first|refine A3 ?_|refine A5 fun _=>?_|refine A4 fun _=>?_);try simp(disch:=first|omega|assumption|((repeat(first|exact A1|exact uH|apply A2|apply uT));first|done|fail)|(simp;first|done|omega|fail))[c20, c20']))
  refine C4 M9 (fun w' hw' => hR w' _ hw' (fun r hr => List.mem_cons_of_mem _ hr)) ?_
  (have zz:=trivial;repeat((first|clear zz|with_reducible first|refine A3 ?_|refine A5 fun _=>?_|refine A4 fun _=>?_);try simp(disch:=first|omega|assumption|((repeat(first|exact A1|exact uH|apply A2|apply uT));first|done|fail)|(simp;first|done|omega|fail))[c20, c20']))
  refine D0 (Hc := s6 b m a) (Hk := [G6 b2 (E7 1 H4) L9]) s7 (fun w' hw' hs => B4L w' b m a h2 h3.q hs) (B7Y _ _) ?_
  rintro a' v ⟨rfl, k1, k2, k3, k4⟩
  refine TW.perm ?_ List.perm_append_comm
  simp only [List.cons_append, List.nil_append]
  (have zz:=trivial;repeat((first|clear zz|with_reducible first|refine A3 ?_|refine A5 fun _=>?_|refine A4 fun _=>?_);try simp(disch:=first|omega|assumption|((repeat(first|exact A1|exact uH|apply A2|apply uT));first|done|fail)|(simp;first|done|omega|fail))[]))
  exact hL (a', n + 1) ⟨by simp only; omega, k3, by rw [← k1, ← k2] at hg; exact hg, fun h => by simp only at h ⊢; rw [k2, hos (by omega)]; exact h4 (by omega)⟩ (by simp only; omega)
 obtain rfl : n = 10 := by omega
 clear hL
 have hst : a.1.st = 10 := h3.st
 have hr : a.1.ready (wx m a) = false := by unfold JW.ready; rw [decide_eq_false (by omega)]; rfl
 have hans := h3.ans (by omega)
 rw [hr] at hR
 (have zz:=trivial;repeat((first|clear zz|with_reducible first|refine A3 ?_|refine A5 fun _=>?_|refine A4 fun _=>?_);try simp(disch:=first|omega|assumption|((repeat(first|exact A1|exact uH|apply A2|apply uT));first|done|fail)|(simp;first|done|omega|fail))[]))
 refine C4 M9 (fun w' hw' => hR w' _ hw' (fun r hr => List.mem_cons_of_mem _ hr)) ?_
 (have zz:=trivial;repeat((first|clear zz|with_reducible first|refine A3 ?_|refine A5 fun _=>?_|refine A4 fun _=>?_);try simp(disch:=first|omega|assumption|((repeat(first|exact A1|exact uH|apply A2|apply uT));first|done|fail)|(simp;first|done|omega|fail))[]))
 obtain ⟨j, tv, d, P⟩ := a
 have hq := h3.q
 have hemp := h2.emp
 have hsub := h2.sub
 simp only at hst hans hq hemp hsub
 refine l3 218 4 ?_
 simp only [s6, F7]
 refine Y8 (r := .slice none 0 0) (l := []) (ts := P) (by (repeat' constructor)) ?_
 have hmb : (m.uz d).b = m.b := rfl
 have hcP : JwC (m.uz d) (E7 1 H4, L9, (m.uz d).dz, P ++ [(L9, [])]) := by
  refine ⟨fun t ht => ?_, fun t ht => List.mem_append_left _ (hsub t ht), List.mem_append_right _ (List.mem_singleton.2 rfl)⟩
  rcases List.mem_append.1 ht with ht | ht
  ·exact hemp t ht
  ·rw [List.mem_singleton.1 ht]; exact ⟨fun x hx => by simp at hx, by simp⟩
 have hq2 : QI 1 (E7 1 H4) (wx (m.uz d) (E7 1 H4, L9, (m.uz d).dz, P ++ [(L9, [])])) := hq.job 1 H4 (by simp [H4])
 have hbad : (E7 1 H4).step (m.uz d).ws = (({ E7 1 H4 with st := 1 } : JW).refuse 9, (m.uz d).ws, true, true, false) := by
  have := C2N (j := E7 1 H4) (x := (m.uz d).ws) rfl (by have : (m.uz d).ws.c = m.ws.c := rfl; rw [this, hws]; decide) C7f
  exact this
 refine D0 (Hc := s6 b2 (m.uz d) (E7 1 H4, L9, (m.uz d).dz, P ++ [(L9, [])])) (Hk := [G6 b j tv]) s7 (fun w' hw' hs => B4L (N := 1) w' b2 (m.uz d) _ hcP hq2 hs) (by simp only [s6, F7, show (m.uz d).uz (m.uz d).dz = m.uz d from rfl, C7, L9, List.cons_append, List.nil_append]; (repeat' constructor)) ?_
 rintro ⟨j2, tv2, d2, P2⟩ v ⟨rfl, k1, _, _, _⟩
 simp only [wx, show (m.uz d).uz (m.uz d).dz = m.uz d from rfl, hbad] at k1 ⊢
 subst k1
 have hA1 := fun (w' : World) (g : bl w' b = some (.cells (K6 j tv) 130 (0, 0))) => A6W w' b j tv g
 have hS1 := fun (w' : World) (g : bl w' b = some (.cells (K6 j tv) 130 (0, 0))) => B36 w' b j tv g
 rw [hans] at hA1
 rw [hst] at hS1
 obtain ⟨j3, hj3⟩ : ∃ j3, j3 = ({ E7 1 H4 with st := 1 } : JW).refuse 9 := ⟨_, rfl⟩
 have e3 : j3.ans = ⟨9, 0, false, 0⟩ ∧ j3.st = 10 := by rw [hj3]; exact ⟨rfl, rfl⟩
 have r3 : j3.ready ((m.uz d).uz d2).ws = false := by unfold JW.ready; rw [decide_eq_false (by omega)]; rfl
 rw [← hj3]
 have hA2 := fun (w' : World) (g : bl w' b2 = some (.cells (K6 j3 tv2) 130 (0, 0))) => A6W w' b2 j3 tv2 g
 have hS2 := fun (w' : World) (g : bl w' b2 = some (.cells (K6 j3 tv2) 130 (0, 0))) => B36 w' b2 j3 tv2 g
 have hR2 := fun (w' : World) (H : List Res) (hw' : LW false [] w H w') (hs : ∀ r ∈ s6 b2 (m.uz d) (j3, tv2, d2, P2), r ∈ H) => B2S w w' b2 (m.uz d) (j3, tv2, d2, P2) hw' hs
 rw [show wx (m.uz d) (j3, tv2, d2, P2) = ((m.uz d).uz d2).ws from rfl, r3] at hR2
 rw [e3.1] at hA2
 rw [e3.2] at hS2
 simp only [s6, F7, List.cons_append, List.nil_append, N1]
 (have zz:=trivial;repeat((first|clear zz|with_reducible first|refine A3 ?_|refine A5 fun _=>?_|refine A4 fun _=>?_);try simp(disch:=first|omega|assumption|((repeat(first|exact A1|exact uH|apply A2|apply uT));first|done|fail)|(simp;first|done|omega|fail))[]))
 rename_i bt
 refine C4 V6 (fun w' hw' => hA1 w' (hw'.pt (b := b) (by unfold G6; simp))) ?_
 simp only [AnsV.val]
 (have zz:=trivial;repeat((first|clear zz|with_reducible first|refine A3 ?_|refine A5 fun _=>?_|refine A4 fun _=>?_);try simp(disch:=first|omega|assumption|((repeat(first|exact A1|exact uH|apply A2|apply uT));first|done|fail)|(simp;first|done|omega|fail))[]))
 refine C4 A1Y (fun w' hw' => hS1 w' (hw'.pt (b := b) (by unfold G6; simp))) ?_
 (have zz:=trivial;repeat((first|clear zz|with_reducible first|refine A3 ?_|refine A5 fun _=>?_|refine A4 fun _=>?_);try simp(disch:=first|omega|assumption|((repeat(first|exact A1|exact uH|apply A2|apply uT));first|done|fail)|(simp;first|done|omega|fail))[]))
 refine C4 V6 (fun w' hw' => hA2 w' (hw'.pt (b := b2) (by unfold G6; simp))) ?_
 simp only [AnsV.val]
 (have zz:=trivial;repeat((first|clear zz|with_reducible first|refine A3 ?_|refine A5 fun _=>?_|refine A4 fun _=>?_);try simp(disch:=first|omega|assumption|((repeat(first|exact A1|exact uH|apply A2|apply uT));first|done|fail)|(simp;first|done|omega|fail))[]))
 refine C4 M9 (fun w' hw' => hR2 w' _ hw' (fun r hr => by unfold s6 F7 at hr; simp only [List.mem_cons, List.mem_append] at hr ⊢; rcases hr with h | h | h <;> simp [h])) ?_
 (have zz:=trivial;repeat((first|clear zz|with_reducible first|refine A3 ?_|refine A5 fun _=>?_|refine A4 fun _=>?_);try simp(disch:=first|omega|assumption|((repeat(first|exact A1|exact uH|apply A2|apply uT));first|done|fail)|(simp;first|done|omega|fail))[]))
 refine C4 A1Y (fun w' hw' => hS2 w' (hw'.pt (b := b2) (by unfold G6; simp))) ?_
 (have zz:=trivial;repeat((first|clear zz|with_reducible first|refine A3 ?_|refine A5 fun _=>?_|refine A4 fun _=>?_);try simp(disch:=first|omega|assumption|((repeat(first|exact A1|exact uH|apply A2|apply uT));first|done|fail)|(simp;first|done|omega|fail))[]))
 exact B0 rfl
end Go.Proofs.YtjobgnabneddjaaGreat
namespace Go.Proofs.YtjobgnabneddjaaGreat
open Go
def upW (j : Nat) (x : EnV) (p : Nat × EnV) : Nat × EnV := if p.1 = j then (j, x) else p
theorem C54 (key : ByteArray) : ∀ L, -1 ≤ M4 key L := by
 intro L
 induction L with
 | nil => simp [M4]
 | cons p L ih => (simp only [M4]; repeat' split) <;> first | omega | exact ih
theorem C6A (l : List EnV) (key : ByteArray) : -1 ≤ F2 l key := C54 _ _
theorem C1x {key : ByteArray} {j : Nat} {x : EnV} (h1 : x.st = 1) (hk : x.key = key) : ∀ L, M4 key L = j → M4 key (L.map (upW j x)) = j := by
 intro L
 induction L with
 | nil => intro h; simp [M4] at h <;> omega
 | cons p L ih =>
  intro h
  rw [List.map_cons]
  by_cases c : p.1 = j
  ·simp [M4, upW, c, h1, hk]
  ·have hu : upW j x p = p := if_neg c
   simp only [M4] at h ⊢
   rw [hu]
   split at h
   ·omega
   ·split at h
    ·omega
    ·rename_i c0 c1
     rw [if_neg c0, if_neg c1]; exact ih h
theorem C06 {key : ByteArray} {j : Nat} {x : EnV} (h1 : x.st = 1) (hk : x.key = key) : ∀ L, M4 key L < 0 → Q8 L = j → M4 key (L.map (upW j x)) = j := by
 intro L
 induction L with
 | nil => intro _ h; simp [Q8] at h <;> omega
 | cons p L ih =>
  intro hf h
  rw [List.map_cons]
  by_cases c : p.1 = j
  ·simp [M4, upW, c, h1, hk]
  ·have hu : upW j x p = p := if_neg c
   simp only [M4, Q8] at h hf ⊢
   rw [hu]
   by_cases c1 : p.2.st = 1
   ·rw [if_pos c1] at h
    rw [if_neg (by omega)] at hf ⊢
    by_cases c2 : p.2.st = 1 ∧ p.2.key = key
    ·rw [if_pos c2] at hf; omega
    ·rw [if_neg c2] at hf ⊢; exact ih hf h
   ·rw [if_neg c1] at h; omega
theorem B2w (l : List EnV) (key : ByteArray) (j : Nat) (x : EnV) (hj : j < l.length) : W5 (l.set j x) key = (W5 l key).map (upW j x) := by
 unfold W5
 rw [List.length_set, List.map_map]
 refine List.map_congr_left fun i hi => ?_
 have hi' : i < l.length := List.mem_range.1 hi
 have hm : (Q0 key l.length + i) % l.length < l.length := Nat.mod_lt _ (by omega)
 simp only [Function.comp_apply, upW]
 generalize (Q0 key l.length + i) % l.length = q at *
 by_cases c : q = j
 ·subst c; simp [List.getD_eq_getElem?_getD, hm]
 ·rw [if_neg c]; simp [List.getD_eq_getElem?_getD, List.getElem?_set_ne (Ne.symm c)]
theorem C2v {key : ByteArray} {j : Nat} : ∀ L, M4 key L = j → ∃ x, (j, x) ∈ L ∧ x.st = 1 ∧ x.key = key := by
 intro L
 induction L with
 | nil => intro h; simp [M4] at h <;> omega
 | cons p L ih =>
  intro h
  simp only [M4] at h
  split at h
  ·omega
  ·split at h
   ·rename_i c
    have : p.1 = j := by omega
    exact ⟨p.2, by rw [← this]; simp, c⟩
   ·obtain ⟨x, h1, h2⟩ := ih h
    exact ⟨x, List.mem_cons_of_mem _ h1, h2⟩
theorem B2v {l : List EnV} {key : ByteArray} {p : Nat × EnV} (h : p ∈ W5 l key) : l[p.1]? = some p.2 := by
 unfold W5 at h
 obtain ⟨i, hi, rfl⟩ := List.mem_map.1 h
 have hi' : i < l.length := List.mem_range.1 hi
 exact getD_some noE (Nat.mod_lt _ (by omega))
theorem B7u {l : List EnV} {key : ByteArray} {j : Nat} (h : F2 l key = j) : ∃ x, l[j]? = some x ∧ x.st = 1 ∧ x.key = key := by
 obtain ⟨x, h1, h2⟩ := C2v _ h
 exact ⟨x, B2v h1, h2⟩
theorem B0v {l u : List EnV} {x : EnV} (h : K3 l x = some u) (h1 : x.st = 1) : ∃ j, j < l.length ∧ u = l.set j x ∧ F2 u x.key = (j : Nat) ∧ (F2 l x.key = (j : Nat) ∨ F2 l x.key < 0 ∧ Q8 (W5 l x.key) = (j : Nat)) := by
 unfold K3 at h
 simp only at h
 by_cases c : F2 l x.key < 0
 ·rw [if_pos c] at h
  by_cases c2 : d7 l x.key < 0
  ·rw [if_pos c2] at h; cases h
  ·rw [if_neg c2] at h
   injection h with h
   have hr : d7 l x.key = Q8 (W5 l x.key) := if_neg (by omega)
   have hlt := B20 (l := l) (key := x.key) (by omega)
   refine ⟨_, hlt, h.symm, ?_, Or.inr ⟨c, by omega⟩⟩
   subst h
   unfold F2
   rw [B2w _ _ _ _ hlt]
   exact C06 h1 rfl _ c (by omega)
 ·rw [if_neg c, if_neg c] at h
  injection h with h
  have hlt := A2a (l := l) (key := x.key) (by omega)
  refine ⟨_, hlt, h.symm, ?_, Or.inl (by omega)⟩
  subst h
  unfold F2 at *
  rw [B2w _ _ _ _ hlt]
  exact C1x h1 rfl _ (by omega)
theorem B3K {l u : List EnV} {x : EnV} (h : K3 l x = some u) : ∃ j, j < l.length ∧ u = l.set j x := by
 unfold K3 at h
 simp only at h
 by_cases c : F2 l x.key < 0
 ·rw [if_pos c] at h
  by_cases c2 : d7 l x.key < 0
  ·rw [if_pos c2] at h; cases h
  ·rw [if_neg c2] at h
   injection h with h
   exact ⟨_, B20 (by omega), h.symm⟩
 ·rw [if_neg c, if_neg c] at h
  injection h with h
  exact ⟨_, A2a (by omega), h.symm⟩
theorem C2k {l : List EnV} {x : EnV} (h : K3 l x = none) : F2 l x.key < 0 := by
 unfold K3 at h
 simp only at h
 by_cases c : F2 l x.key < 0
 ·exact c
 ·rw [if_neg c, if_neg c] at h; cases h
theorem C2V {l : List EnV} {i : Nat} {p : Nat × EnV} : p ∈ j5 i l ↔ i ≤ p.1 ∧ l[p.1 - i]? = some p.2 ∧ p.2.st = 1 := by
 induction l generalizing i with
 | nil => simp [j5]
 | cons x l ih =>
  have hs : i + 1 ≤ p.1 → (x :: l)[p.1 - i]? = l[p.1 - (i + 1)]? := fun h => by
   rw [show p.1 - i = (p.1 - (i + 1)) + 1 by omega, List.getElem?_cons_succ]
  have h0 : ∀ h : i ≤ p.1, ¬ i + 1 ≤ p.1 → p.1 = i := fun _ _ => by omega
  unfold j5
  split
  ·rename_i c
   rw [List.mem_cons, ih]
   constructor
   ·rintro (rfl | ⟨a, b, d⟩)
    ·simp [c]
    ·exact ⟨by omega, by rw [hs a]; exact b, d⟩
   ·rintro ⟨a, b, d⟩
    by_cases e : i + 1 ≤ p.1
    ·exact Or.inr ⟨e, by rw [← hs e]; exact b, d⟩
    ·have := h0 a e
     left
     rw [this] at b
     simp at b
     obtain ⟨q, y⟩ := p
     simp_all
  ·rename_i c
   rw [ih]
   constructor
   ·rintro ⟨a, b, d⟩
    exact ⟨by omega, by rw [hs a]; exact b, d⟩
   ·rintro ⟨a, b, d⟩
    by_cases e : i + 1 ≤ p.1
    ·exact ⟨e, by rw [← hs e]; exact b, d⟩
    ·have := h0 a e
     rw [this] at b
     simp at b
     rw [b] at c
     exact absurd d c
theorem A3D {l : List EnV} {p : Nat × EnV} : p ∈ P7 l ↔ l[p.1]? = some p.2 ∧ p.2.st = 1 := by
 unfold P7; rw [C2V]; simp
theorem A4K {l : List EnV} : U0 l = true ↔ ∀ (i : Nat) (x : EnV), l[i]? = some x → x.st = 1 → F2 l x.key = (i : Nat) := by
 unfold U0
 rw [List.all_eq_true]
 constructor
 ·intro h i x hx h1
  simpa using h (i, x) (A3D.2 ⟨hx, h1⟩)
 ·intro h p hp
  obtain ⟨h1, h2⟩ := A3D.1 hp
  simpa using h p.1 p.2 h1 h2
def T9 (l : List EnV) (key : ByteArray) : Prop := ∀ (i : Nat) (x : EnV), l[i]? = some x → x.st = 1 → x.key ≠ key
theorem T9.find {l : List EnV} {key : ByteArray} (h : T9 l key) : F2 l key < 0 := by
 have hg := C6A l key
 by_cases c : F2 l key < 0
 ·exact c
 ·obtain ⟨x, h1, h2, h3⟩ := B7u (l := l) (key := key) (j := (F2 l key).toNat) (by omega)
  exact absurd h3 (h _ _ h1 h2)
theorem getElem?_set_some {α : Type} {l : List α} {i j : Nat} {x y : α} (h : (l.set j x)[i]? = some y) : (i = j ∧ y = x) ∨ (i ≠ j ∧ l[i]? = some y) := by
 by_cases c : i = j
 ·subst c
  rw [List.getElem?_set_self'] at h
  cases hl : l[i]? with
  | none => rw [hl] at h; cases h
  | some z => rw [hl] at h; left; exact ⟨rfl, by simpa using h.symm⟩
 ·rw [List.getElem?_set_ne (Ne.symm c)] at h
  exact Or.inr ⟨c, h⟩
theorem T9.set {l : List EnV} {key : ByteArray} {j : Nat} {x : EnV} (h : T9 l key) (hx : x.st = 1 → x.key ≠ key) : T9 (l.set j x) key := fun i y hy h1 => by
 rcases getElem?_set_some hy with ⟨_, rfl⟩ | ⟨_, h2⟩
 ·exact hx h1
 ·exact h i y h2 h1
theorem T9.put {l : List EnV} {key : ByteArray} {x : EnV} (h : T9 l key) (hx : x.st = 1 → x.key ≠ key) : T9 (c8 l x) key := by
 unfold c8
 cases hp : K3 l x with
 | none => exact h
 | some u => obtain ⟨j, _, rfl⟩ := B3K hp; exact h.set hx
theorem T9.newE (n : Nat) (key : ByteArray) : T9 (newE n) key := fun i x hx h1 => by
 unfold Go.Proofs.YtjobgnabneddjaaGreat.newE at hx
 obtain ⟨_, h2⟩ := List.getElem?_eq_some_iff.1 hx
 rw [List.getElem_replicate] at h2
 rw [← h2] at h1; simp [noE] at h1
theorem T9.tidy {l : List EnV} {key : ByteArray} (h : T9 l key) : T9 (l4 l) key := by
 unfold l4
 have : ∀ (L : List (Nat × EnV)) (a : List EnV), (∀ p ∈ L, p.2.st = 1 → p.2.key ≠ key) → T9 a key → T9 (L.foldl (fun acc p => c8 acc p.2) a) key := by
  intro L
  induction L with
  | nil => intro a _ h; exact h
  | cons p L ih => intro a hL ha; rw [List.foldl_cons]; exact ih _ (fun q hq => hL q (List.mem_cons_of_mem _ hq)) (ha.put (hL p (List.mem_cons_self ..)))
 exact this _ _ (fun p hp h1 => h p.1 p.2 (A3D.1 hp).1 h1) (.newE _ _)
theorem T9.settle {l : List EnV} {key : ByteArray} (h : T9 l key) : T9 (P3 l) key := by
 unfold P3; split
 ·exact h.tidy
 ·exact h
end Go.Proofs.YtjobgnabneddjaaGreat
namespace Go.Proofs.YtjobgnabneddjaaGreat
open Go
theorem C0j {key : ByteArray} {i j : Nat} {x : EnV} (h0 : x.st ≠ 0) (h1 : ¬ (x.st = 1 ∧ x.key = key)) (hij : i ≠ j) : ∀ L, M4 key L = i → M4 key (L.map (upW j x)) = i := by
 intro L
 induction L with
 | nil => intro h; simp [M4] at h <;> omega
 | cons p L ih =>
  intro h
  rw [List.map_cons]
  simp only [M4] at h
  split at h
  ·omega
  ·rename_i c0
   split at h
   ·rename_i c1
    have : p.1 ≠ j := by omega
    rw [upW, if_neg this]
    simp only [M4]
    rw [if_neg c0, if_pos c1]; exact h
   ·rename_i c1
    by_cases c : p.1 = j
    ·rw [upW, if_pos c]
     simp only [M4]
     rw [if_neg h0, if_neg h1]; exact ih h
    ·rw [upW, if_neg c]
     simp only [M4]
     rw [if_neg c0, if_neg c1]; exact ih h
theorem B30 {l : List EnV} {key : ByteArray} {i j : Nat} {x : EnV} (hj : j < l.length) (h0 : x.st ≠ 0) (h1 : ¬ (x.st = 1 ∧ x.key = key)) (hij : i ≠ j) (h : F2 l key = i) : F2 (l.set j x) key = i := by
 unfold F2 at *
 rw [B2w _ _ _ _ hj]
 exact C0j h0 h1 hij _ h
theorem C03 {l : List EnV} {j : Nat} (hj : j < l.length) (h : U0 l = true) : U0 (l.set j V9) = true := by
 rw [A4K] at h ⊢
 intro i y hy h1
 rcases getElem?_set_some hy with ⟨_, rfl⟩ | ⟨h2, h3⟩
 ·simp [V9] at h1
 ·exact B30 hj (by simp [V9]) (by simp [V9]) h2 (h i y h3 h1)
theorem B5x {l u : List EnV} {x : EnV} (h1 : x.st = 1) (hp : K3 l x = some u) (h : U0 l = true) : U0 u = true := by
 rw [A4K] at h ⊢
 obtain ⟨j, hj, rfl, hf, hc⟩ := B0v hp h1
 intro i y hy hy1
 rcases getElem?_set_some hy with ⟨rfl, rfl⟩ | ⟨h2, h3⟩
 ·exact hf
 ·have hi := h i y h3 hy1
  have hk : x.key ≠ y.key := fun e => by rw [← e] at hi; omega
  exact B30 hj (by omega) (fun e => hk e.2) h2 hi
theorem B5r (n : Nat) : U0 (newE n) = true := by
 rw [A4K]
 intro i x hx h1
 unfold newE at hx
 obtain ⟨_, h2⟩ := List.getElem?_eq_some_iff.1 hx
 rw [List.getElem_replicate] at h2
 rw [← h2] at h1; simp [noE] at h1
theorem C0Z {a : List EnV} {x : EnV} (h1 : x.st = 1) (h : U0 a = true) : U0 (c8 a x) = true := by
 unfold c8
 cases hp : K3 a x with
 | none => exact h
 | some u => exact B5x h1 hp h
theorem C1L (l : List EnV) : U0 (l4 l) = true := by
 unfold l4
 have : ∀ (L : List (Nat × EnV)) (a : List EnV), (∀ p ∈ L, p.2.st = 1) → U0 a = true → U0 (L.foldl (fun acc p => c8 acc p.2) a) = true := by
  intro L
  induction L with
  | nil => intro a _ h; exact h
  | cons p L ih => intro a hL ha; rw [List.foldl_cons]; exact ih _ (fun q hq => hL q (List.mem_cons_of_mem _ hq)) (C0Z (hL p (List.mem_cons_self ..)) ha)
 exact this _ _ (fun p hp => (A3D.1 hp).2) (B5r _)
theorem B7x {l : List EnV} (h : U0 l = true) : U0 (P3 l) = true := by
 unfold P3; split
 ·exact C1L _
 ·exact h
def A3B (x : EnV) : Bool := decide (x.st = 1)
def D6 (l : List EnV) : List EnV := l.filter A3B
def A88 (x : EnV) : List EnV := if x.st = 1 then [x] else []
theorem A2z {l : List EnV} {j : Nat} {y x : EnV} (hy : l[j]? = some y) : (A88 y ++ D6 (l.set j x)).Perm (A88 x ++ D6 l) := by
 obtain ⟨hj, e⟩ := List.getElem?_eq_some_iff.1 hy
 have h1 : l = l.take j ++ y :: l.drop (j + 1) := by rw [← e]; simp
 have h2 : l.set j x = l.take j ++ x :: l.drop (j + 1) := List.set_eq_take_append_cons_drop .. |>.trans (by rw [if_pos hj])
 have f1 : ∀ z : EnV, D6 (l.take j ++ z :: l.drop (j + 1)) = D6 (l.take j) ++ (A88 z ++ D6 (l.drop (j + 1))) := fun z => by
  unfold D6; rw [List.filter_append, List.filter_cons]
  simp only [A88, A3B, decide_eq_true_eq]
  split <;> simp
 have h3 : D6 l = D6 (l.take j) ++ (A88 y ++ D6 (l.drop (j + 1))) := by rw [← f1, ← h1]
 rw [h2, f1, h3]
 generalize D6 (l.take j) = A
 generalize D6 (l.drop (j + 1)) = B
 have p1 : ∀ (u v : List EnV), (u ++ (A ++ (v ++ B))).Perm (A ++ (u ++ (v ++ B))) := fun u v => by
  rw [← List.append_assoc, ← List.append_assoc A u]
  exact List.perm_append_comm.append_right _
 refine (p1 _ _).trans (((p1 _ _).trans ?_).symm)
 refine List.Perm.append_left _ ?_
 rw [← List.append_assoc, ← List.append_assoc]
 exact List.perm_append_comm.append_right _
theorem B7e (l : List EnV) (i : Nat) : (j5 i l).map (·.2) = D6 l := by
 induction l generalizing i with
 | nil => rfl
 | cons x l ih =>
  unfold j5 D6
  rw [List.filter_cons]
  simp only [A3B, decide_eq_true_eq]
  split
  ·rw [List.map_cons, ih]; rfl
  ·rw [ih]; rfl
theorem B5C {l : List EnV} (h : U0 l = true) : ((D6 l).map (·.key)).Nodup := by
 rw [A4K] at h
 have h2 : ∀ (i : Nat) (m : List EnV), (∀ (k : Nat) (x : EnV), m[k]? = some x → x.st = 1 → F2 l x.key = (i + k : Nat)) → ((D6 m).map (·.key)).Nodup := by
  intro i m
  induction m generalizing i with
  | nil => intro _; simp [D6]
  | cons x m ih =>
   intro hm
   have ih' := ih (i + 1) fun k y hy h1 => by
    have := hm (k + 1) y (by simpa using hy) h1
    rw [this]; congr 1; omega
   unfold D6 at *
   rw [List.filter_cons]
   simp only [A3B, decide_eq_true_eq] at *
   split
   ·rename_i c
    rw [List.map_cons, List.nodup_cons]
    refine ⟨fun hx => ?_, ih'⟩
    obtain ⟨y, hy, e⟩ := List.mem_map.1 hx
    obtain ⟨hy1, hy2⟩ := List.mem_filter.1 hy
    obtain ⟨k, hk, e2⟩ := List.getElem_of_mem hy1
    have a := hm 0 x (by simp) c
    have b := hm (k + 1) y (by simp [hk, e2]) (by simpa [A3B] using hy2)
    rw [e, a] at b
    omega
   ·exact ih'
 exact h2 0 l fun k x hx h1 => by rw [h k x hx h1]; simp
theorem B6b {l : List EnV} {key : ByteArray} : T9 l key ↔ ∀ x ∈ D6 l, x.key ≠ key := by
 unfold T9 D6 A3B
 constructor
 ·intro h x hx
  obtain ⟨h1, h2⟩ := List.mem_filter.1 hx
  obtain ⟨i, hi, e⟩ := List.getElem_of_mem h1
  exact h i x (by simp [hi, e]) (by simpa using h2)
 ·intro h i x hx h1
  exact h x (List.mem_filter.2 ⟨List.mem_of_getElem? hx, by simpa using h1⟩)
theorem C24 : ∀ L, Q8 L < 0 → ∀ p ∈ L, p.2.st = 1 := by
 intro L
 induction L with
 | nil => intro _ p hp; cases hp
 | cons q L ih =>
  intro h p hp
  simp only [Q8] at h
  split at h
  ·rename_i c
   rcases List.mem_cons.1 hp with rfl | hp
   ·exact c
   ·exact ih h p hp
  ·omega
theorem C7z {l : List EnV} (key : ByteArray) {q : Nat} {y : EnV} (hy : l[q]? = some y) : (q, y) ∈ W5 l key := by
 obtain ⟨hq, e⟩ := List.getElem?_eq_some_iff.1 hy
 unfold W5
 have hl : 0 < l.length := by omega
 have hm : Q0 key l.length < l.length := Nat.mod_lt _ hl
 refine List.mem_map.2 ⟨(q + l.length - Q0 key l.length) % l.length, List.mem_range.2 (Nat.mod_lt _ hl), ?_⟩
 have : (Q0 key l.length + (q + l.length - Q0 key l.length) % l.length) % l.length = q := by
  rw [Nat.add_mod, Nat.mod_mod, ← Nat.add_mod, show Q0 key l.length + (q + l.length - Q0 key l.length) = q + l.length by omega, Nat.add_mod_right, Nat.mod_eq_of_lt hq]
 rw [this]
 simp [List.getD_eq_getElem?_getD, hq, e]
theorem C5Q {a : List EnV} {x : EnV} (h1 : x.st = 1) (hn : T9 a x.key) (hl : (D6 a).length < a.length) : ∃ u, K3 a x = some u ∧ (D6 u).Perm (x :: D6 a) := by
 cases hp : K3 a x with
 | none =>
  exfalso
  unfold K3 at hp
  simp only at hp
  rw [if_pos hn.find] at hp
  have hr : d7 a x.key = Q8 (W5 a x.key) := if_neg (by have := hn.find; omega)
  by_cases c : d7 a x.key < 0
  ·have h2 := C24 _ (hr ▸ c)
   have h3 : D6 a = a := List.filter_eq_self.2 fun y hy => by
    obtain ⟨q, hq, e⟩ := List.getElem_of_mem hy
    have := h2 (q, y) (C7z _ (by simp [hq, e]))
    simpa [A3B] using this
   rw [h3] at hl; omega
  ·rw [if_neg c] at hp; cases hp
 | some u =>
  obtain ⟨j, hj, rfl, hf, hc⟩ := B0v hp h1
  refine ⟨_, rfl, ?_⟩
  have hj1 : a[j]? = some a[j] := List.getElem?_eq_getElem hj
  have hs := A2z (x := x) hj1
  have hnl : a[j].st ≠ 1 := fun c => by
   rcases hc with hc | ⟨_, hc⟩
   ·have := hn.find; omega
   ·have hm : ∀ L, Q8 L = (j : Nat) → ∃ y, (j, y) ∈ L ∧ y.st ≠ 1 := by
     intro L
     induction L with
     | nil => intro h; simp [Q8] at h <;> omega
     | cons p L ih =>
      intro h
      simp only [Q8] at h
      split at h
      ·obtain ⟨y, h1, h2⟩ := ih h; exact ⟨y, List.mem_cons_of_mem _ h1, h2⟩
      ·rename_i c2
       have : p.1 = j := by omega
       exact ⟨p.2, by rw [← this]; simp, c2⟩
    obtain ⟨y, h2, h3⟩ := hm _ hc
    have h4 := B2v h2
    rw [hj1] at h4
    injection h4 with h4
    exact h3 (by rw [h4] at c; exact c)
  unfold A88 at hs
  rw [if_neg hnl, if_pos h1] at hs
  simpa using hs
theorem A24 (n : Nat) : D6 (newE n) = [] := by
 unfold D6 newE
 rw [List.filter_eq_nil_iff]
 intro x hx
 rw [(List.mem_replicate.1 hx).2]; simp [A3B, noE]
theorem B8v {l : List EnV} (h : U0 l = true) (hl : l.length ≤ 64) : (D6 (l4 l)).Perm (D6 l) := by
 have hmain : ∀ (L : List (Nat × EnV)) (a : List EnV), (∀ p ∈ L, p.2.st = 1) → ((D6 a ++ L.map (·.2)).map (·.key)).Nodup → (D6 a).length + L.length ≤ a.length →
   (D6 (L.foldl (fun acc p => c8 acc p.2) a)).Perm (D6 a ++ L.map (·.2)) := by
  intro L
  induction L with
  | nil => intro a _ _ _; simp
  | cons p L ih =>
   intro a hL hn hlen
   rw [List.foldl_cons]
   simp only [List.length_cons] at hlen
   have hk : T9 a p.2.key := B6b.2 fun x hx e => by
    rw [List.map_append, List.nodup_append] at hn
    exact hn.2.2 _ (List.mem_map_of_mem hx) p.2.key (by simp) e
   obtain ⟨u, hu, hp⟩ := C5Q (hL p (List.mem_cons_self ..)) hk (by omega)
   have e : c8 a p.2 = u := by simp [c8, hu]
   rw [e]
   have hlu := A8T hu
   have hpl := hp.length_eq
   have hperm : (D6 u ++ L.map (·.2)).Perm (D6 a ++ (p :: L).map (·.2)) := by
    refine (hp.append_right _).trans ?_
    rw [List.map_cons]
    exact (List.perm_middle (a := p.2) (l₁ := D6 a) (l₂ := L.map (·.2))).symm
   refine (ih u (fun q hq => hL q (List.mem_cons_of_mem _ hq)) ?_ ?_).trans hperm
   ·exact ((hperm.map _).nodup_iff).2 hn
   ·rw [hpl, List.length_cons, hlu]; omega
 unfold l4
 have hm : (P7 l).map (·.2) = D6 l := B7e l 0
 have h1 := hmain (P7 l) (newE l.length) (fun p hp => (A3D.1 hp).2) (by rw [A24, hm]; exact B5C h)
  (by
   rw [A24, A75]
   have : (P7 l).length = (D6 l).length := by rw [← hm]; simp
   have h2 : (D6 l).length ≤ l.length := List.length_filter_le ..
   simp only [List.length_nil]; omega)
 rw [A24, hm] at h1
 exact h1
theorem B5M {l : List EnV} (h : U0 l = true) (hl : l.length ≤ 64) : (D6 (P3 l)).Perm (D6 l) := by
 unfold P3; split
 ·exact B8v h hl
 ·exact .refl _
theorem C1U {l : List EnV} (hl : l.length ≤ 64) : (P3 l).length = l.length := by
 unfold P3; split
 ·unfold l4; rw [B7M, A75]; omega
 ·rfl
end Go.Proofs.YtjobgnabneddjaaGreat
namespace Go.Proofs.YtjobgnabneddjaaGreat
open Go
theorem bdF (a b c d : FuncId) (K : Value → WP) : A0 PR (Instr.build 216 #[(0, .func (.func a) #[] #[]), (1, .func (.func b) #[] #[]), (2, .func (.func c) #[] #[]), (3, .func (.func d) #[] #[])]) K = K (.agg #[.func (.func a) #[] #[], .func (.func b) #[] #[], .func (.func c) #[] #[], .func (.func d) #[] #[]]) :=
 B7d C10 C00 (by rw [show (#[(0, Value.func (.func a) #[] #[]), (1, .func (.func b) #[] #[]), (2, .func (.func c) #[] #[]), (3, .func (.func d) #[] #[])] : Array (Nat × Value)).toList = [(0, .func (.func a) #[] #[]), (1, .func (.func b) #[] #[]), (2, .func (.func c) #[] #[]), (3, .func (.func d) #[] #[])] from rfl, B7 rfl rfl (by simp), B7 rfl rfl (by simp [B9]), B7 rfl rfl (by simp [B9]), B7 rfl rfl (by simp [B9])]; rfl)
def doV (s : MoS) (o : OpV) (now : Int) : MoS × AnsV :=
 if o.kind = 0 then U6 s o.packet now else if o.kind = 1 then B0l s o.pool else if o.kind = 2 then B0q s o.shard now else if o.kind = 3 then B7F s else (s, ⟨1, 0, false, 0⟩)
theorem D1Z (w : World) (m : MoH) (o : OpV) (v : Value) (now : Int) (hv : PoolAt w m v o.pool) (hpk : o.packet.size < 2 ^ 40) (hm : MoOk2 m) (hw : LW false (B6 (D7 m)) w (D7 m) w) :
  Fn PR C0 60 #[.pointer (some ⟨m.b, 0, none⟩), o.val v, .int .i64 now] w (DoR w m (doV m.st o now)) := by
 refine B10 (TW.goH (κ := false) (S := B6 (D7 m)) ?_ hw)
 unfold A3w
 simp only [OpV.val]
 unfold DoR
 generalize hS : B6 (D7 m) = S at *
 have hc1 : v.cells.size = 1 := by rw [hv.form.1]; rfl
 by_cases c0 : o.kind < 0
 ·have e : doV m.st o now = (m.st, ⟨1, 0, false, 0⟩) := by unfold doV; rw [if_neg (by omega), if_neg (by omega), if_neg (by omega), if_neg (by omega)]
  rw [e]
  simp only [D7]
  (have zz:=trivial;repeat((first|clear zz|with_reducible first|refine A3 ?_|refine A5 fun _=>?_|refine A4 fun _=>?_);try simp(disch:=first|omega|assumption|((repeat(first|exact A1|exact uH|apply A2|apply uT));first|done|fail)|(simp;first|done|omega|fail))[c0, bdF]))
  refine B1 m ⟨by simp [AnsV.val], rfl, rfl⟩ ?_
  simp only [D7]
  (repeat' constructor)
 by_cases c4 : 4 ≤ o.kind
 ·have e : doV m.st o now = (m.st, ⟨1, 0, false, 0⟩) := by unfold doV; rw [if_neg (by omega), if_neg (by omega), if_neg (by omega), if_neg (by omega)]
  rw [e]
  simp only [D7]
  (have zz:=trivial;repeat((first|clear zz|with_reducible first|refine A3 ?_|refine A5 fun _=>?_|refine A4 fun _=>?_);try simp(disch:=first|omega|assumption|((repeat(first|exact A1|exact uH|apply A2|apply uT));first|done|fail)|(simp;first|done|omega|fail))[c0, c4, bdF]))
  refine B1 m ⟨by simp [AnsV.val], rfl, rfl⟩ ?_
  simp only [D7]
  (repeat' constructor)
 have hk : o.kind = 0 ∨ o.kind = 1 ∨ o.kind = 2 ∨ o.kind = 3 := by omega
 rcases hk with hk | hk | hk | hk
 ·rw [show doV m.st o now = U6 m.st o.packet now by simp [doV, hk]]
  simp only [D7]
  (have zz:=trivial;repeat((first|clear zz|with_reducible first|refine A3 ?_|refine A5 fun _=>?_|refine A4 fun _=>?_);try simp(disch:=first|omega|assumption|((repeat(first|exact A1|exact uH|apply A2|apply uT));first|done|fail)|(simp;first|done|omega|fail))[hk, bdF]))
  refine D0 (Hc := D7 m) A4V (fun w' hw' hs => by have := B9Q w' m o v now hv.form hpk hm hs; rw [OpV.val, hk] at this; exact this) (by simp only [D7]; (repeat' constructor)) ?_
  rintro m' _ ⟨rfl, hb, hst⟩
  simp only [D7]
  (have zz:=trivial;repeat((first|clear zz|with_reducible first|refine A3 ?_|refine A5 fun _=>?_|refine A4 fun _=>?_);try simp(disch:=first|omega|assumption|((repeat(first|exact A1|exact uH|apply A2|apply uT));first|done|fail)|(simp;first|done|omega|fail))[AnsV.val]))
  refine B1 m' ⟨by simp [AnsV.val], hb, hst⟩ ?_
  simp only [D7]
  (repeat' constructor)
 ·rw [show doV m.st o now = B0l m.st o.pool by simp [doV, hk]]
  simp only [D7]
  (have zz:=trivial;repeat((first|clear zz|with_reducible first|refine A3 ?_|refine A5 fun _=>?_|refine A4 fun _=>?_);try simp(disch:=first|omega|assumption|((repeat(first|exact A1|exact uH|apply A2|apply uT));first|done|fail)|(simp;first|done|omega|fail))[hk, bdF]))
  refine D0 (Hc := D7 m) A6K (fun w' hw' hs => by have := C37 w' m o v now ⟨hv.at (by rw [hS]; exact hw'.ks), hv.off, hv.len, hv.form⟩ hs; rw [OpV.val, hk] at this; exact this) (by simp only [D7]; (repeat' constructor)) ?_
  rintro m' _ ⟨rfl, hb, hst⟩
  simp only [D7]
  (have zz:=trivial;repeat((first|clear zz|with_reducible first|refine A3 ?_|refine A5 fun _=>?_|refine A4 fun _=>?_);try simp(disch:=first|omega|assumption|((repeat(first|exact A1|exact uH|apply A2|apply uT));first|done|fail)|(simp;first|done|omega|fail))[AnsV.val]))
  refine B1 m' ⟨by simp [AnsV.val], hb, hst⟩ ?_
  simp only [D7]
  (repeat' constructor)
 ·rw [show doV m.st o now = B0q m.st o.shard now by simp [doV, hk]]
  simp only [D7]
  (have zz:=trivial;repeat((first|clear zz|with_reducible first|refine A3 ?_|refine A5 fun _=>?_|refine A4 fun _=>?_);try simp(disch:=first|omega|assumption|((repeat(first|exact A1|exact uH|apply A2|apply uT));first|done|fail)|(simp;first|done|omega|fail))[hk, bdF]))
  refine D0 (Hc := D7 m) A6u (fun w' hw' hs => by have := C2L w' m o v now hv.form hm.toMoOk hs; rw [OpV.val, hk] at this; exact this) (by simp only [D7]; (repeat' constructor)) ?_
  rintro m' _ ⟨rfl, hb, hst⟩
  simp only [D7]
  (have zz:=trivial;repeat((first|clear zz|with_reducible first|refine A3 ?_|refine A5 fun _=>?_|refine A4 fun _=>?_);try simp(disch:=first|omega|assumption|((repeat(first|exact A1|exact uH|apply A2|apply uT));first|done|fail)|(simp;first|done|omega|fail))[AnsV.val]))
  refine B1 m' ⟨by simp [AnsV.val], hb, hst⟩ ?_
  simp only [D7]
  (repeat' constructor)
 ·rw [show doV m.st o now = B7F m.st by simp [doV, hk]]
  simp only [D7]
  (have zz:=trivial;repeat((first|clear zz|with_reducible first|refine A3 ?_|refine A5 fun _=>?_|refine A4 fun _=>?_);try simp(disch:=first|omega|assumption|((repeat(first|exact A1|exact uH|apply A2|apply uT));first|done|fail)|(simp;first|done|omega|fail))[hk, bdF]))
  refine D0 (Hc := D7 m) A7l (fun w' hw' hs => by have := C5x w' m o v now hv.form hm.toMoOk hs; rw [OpV.val, hk] at this; exact this) (by simp only [D7]; (repeat' constructor)) ?_
  rintro m' _ ⟨rfl, hb, hst⟩
  simp only [D7]
  (have zz:=trivial;repeat((first|clear zz|with_reducible first|refine A3 ?_|refine A5 fun _=>?_|refine A4 fun _=>?_);try simp(disch:=first|omega|assumption|((repeat(first|exact A1|exact uH|apply A2|apply uT));first|done|fail)|(simp;first|done|omega|fail))[AnsV.val]))
  refine B1 m' ⟨by simp [AnsV.val], hb, hst⟩ ?_
  simp only [D7]
  (repeat' constructor)
end Go.Proofs.YtjobgnabneddjaaGreat
namespace Go.Proofs.YtjobgnabneddjaaGreat
open Go
theorem B2x {l : List EnV} {j : Nat} {x : EnV} (h : N0 l) (hx : x.key.size < 2 ^ 60) : N0 (l.set j x) := fun y hy => by
 rcases List.mem_or_eq_of_mem_set hy with h1 | rfl
 ·exact h y h1
 ·exact hx
theorem B8C (n : Nat) : N0 (newE n) := fun x hx => by
 unfold newE at hx
 rw [(List.mem_replicate.1 hx).2]; simp [noE]
theorem C3K {a : List EnV} {x : EnV} (h : N0 a) (hx : x.key.size < 2 ^ 60) : N0 (c8 a x) := by
 unfold c8
 cases hp : K3 a x with
 | none => exact h
 | some u => obtain ⟨j, _, rfl⟩ := B3K hp; exact B2x h hx
theorem C34 {l : List EnV} (h : N0 l) : N0 (l4 l) := by
 unfold l4
 have : ∀ (L : List (Nat × EnV)) (a : List EnV), (∀ p ∈ L, p.2.key.size < 2 ^ 60) → N0 a → N0 (L.foldl (fun acc p => c8 acc p.2) a) := by
  intro L
  induction L with
  | nil => intro a _ h; exact h
  | cons p L ih => intro a hL ha; rw [List.foldl_cons]; exact ih _ (fun q hq => hL q (List.mem_cons_of_mem _ hq)) (C3K ha (hL p (List.mem_cons_self ..)))
 exact this _ _ (fun p hp => h _ (B52 p hp).1) (B8C _)
theorem B9f {l : List EnV} (h : N0 l) : N0 (P3 l) := by
 unfold P3; split
 ·exact C34 h
 ·exact h
theorem C5F : V9.key.size < 2 ^ 60 := by simp [V9]
structure TabOk (n : Nat) (l : List EnV) : Prop where
 len : l.length = n
 few : n ≤ 64
 keys : N0 l
 right : U0 l = true
theorem TabOk.new {n : Nat} (h : n ≤ 64) : TabOk n (newE n) := ⟨by rw [A75]; omega, h, B8C _, B5r _⟩
theorem TabOk.settle {n : Nat} {l : List EnV} (h : TabOk n l) : TabOk n (P3 l) := ⟨by rw [C1U (by rw [h.len]; exact h.few), h.len], h.few, B9f h.keys, B7x h.right⟩
theorem TabOk.tomb {n : Nat} {l : List EnV} {j : Nat} (h : TabOk n l) (hj : j < l.length) : TabOk n (l.set j V9) := ⟨by rw [List.length_set, h.len], h.few, B2x h.keys C5F, C03 hj h.right⟩
theorem TabOk.put {n : Nat} {l u : List EnV} {x : EnV} (h : TabOk n l) (hx : x.key.size < 2 ^ 60) (h1 : x.st = 1) (hp : K3 l x = some u) : TabOk n u :=
 ⟨by rw [A8T hp, h.len], h.few, by obtain ⟨j, _, rfl⟩ := B3K hp; exact B2x h.keys hx, B5x h1 hp h.right⟩
theorem TabOk.perm {n : Nat} {l : List EnV} (h : TabOk n l) : (D6 (P3 l)).Perm (D6 l) := B5M h.right (by rw [h.len]; exact h.few)
theorem B2Q {l : List EnV} {key : ByteArray} (h : 0 ≤ F2 l key) : l[(F2 l key).toNat]? = some (a8 l key) ∧ (a8 l key).st = 1 ∧ (a8 l key).key = key := by
 obtain ⟨x, h1, h2, h3⟩ := B7u (l := l) (key := key) (j := (F2 l key).toNat) (by omega)
 have e : a8 l key = x := by unfold a8; rw [List.getD_eq_getElem?_getD, h1]; rfl
 rw [e]; exact ⟨h1, h2, h3⟩
theorem C4N {l u : List EnV} {key : ByteArray} (h : V0 l key = some u) : 0 ≤ F2 l key ∧ (F2 l key).toNat < l.length ∧ u = l.set (F2 l key).toNat V9 ∧ (a8 l key :: D6 u).Perm (D6 l) := by
 unfold V0 at h
 split at h
 ·cases h
 ·rename_i c
  injection h with h
  subst h
  have h0 : 0 ≤ F2 l key := by omega
  obtain ⟨h1, h2, h3⟩ := B2Q h0
  have hs := A2z (x := V9) h1
  unfold A88 at hs
  rw [if_pos h2, if_neg (by simp [V9])] at hs
  exact ⟨h0, A2a h0, rfl, by simpa using hs⟩
theorem C1Q {l u : List EnV} {x : EnV} (h1 : x.st = 1) (hp : K3 l x = some u) : (0 ≤ F2 l x.key ∧ (a8 l x.key :: D6 u).Perm (x :: D6 l)) ∨ (F2 l x.key < 0 ∧ (D6 u).Perm (x :: D6 l)) := by
 obtain ⟨j, hj, rfl, hf, hc⟩ := B0v hp h1
 have hj1 : l[j]? = some l[j] := List.getElem?_eq_getElem hj
 have hs := A2z (x := x) hj1
 unfold A88 at hs
 rw [if_pos h1] at hs
 rcases hc with hc | ⟨hc, hr⟩
 ·left
  have h0 : 0 ≤ F2 l x.key := by omega
  obtain ⟨e1, e2, e3⟩ := B2Q h0
  have : (F2 l x.key).toNat = j := by omega
  rw [this, hj1] at e1
  injection e1 with e1
  rw [e1, if_pos e2] at hs
  exact ⟨h0, by simpa using hs⟩
 ·right
  refine ⟨hc, ?_⟩
  have hm : ∀ L, Q8 L = (j : Nat) → ∃ y, (j, y) ∈ L ∧ y.st ≠ 1 := by
   intro L
   induction L with
   | nil => intro h; simp [Q8] at h <;> omega
   | cons p L ih =>
    intro h
    simp only [Q8] at h
    split at h
    ·obtain ⟨y, h1, h2⟩ := ih h; exact ⟨y, List.mem_cons_of_mem _ h1, h2⟩
    ·rename_i c2
     have : p.1 = j := by omega
     exact ⟨p.2, by rw [← this]; simp, c2⟩
  obtain ⟨y, h2, h3⟩ := hm _ hr
  have h4 := B2v h2
  rw [hj1] at h4
  injection h4 with h4
  rw [if_neg (by rw [h4]; exact h3)] at hs
  simpa using hs
structure Decided (l u : List EnV) (key : ByteArray) (made : Bool) : Prop where
 up : (D6 u).length ≤ (D6 l).length + 1
 down : (D6 l).length ≤ (D6 u).length + 1
 new : (D6 l).length < (D6 u).length → made = true
 from' : ∀ x ∈ D6 u, x ∈ D6 l ∨ x.key = key
theorem Decided.refl (l : List EnV) (key : ByteArray) (made : Bool) : Decided l l key made := ⟨by omega, by omega, by omega, fun x hx => Or.inl hx⟩
theorem C0v {l : List EnV} {p : List E9} {key : ByteArray} {now : Int} (h : F2 l key < 0) : (H8 l p key now).2 = false := by
 unfold H8; rw [if_pos (Or.inl h)]
theorem A39 {n : Nat} {l : List EnV} {p : List E9} {key : ByteArray} {closing : Bool} {now idle : Int} (h : TabOk n l) (hk : key.size < 2 ^ 60) :
  TabOk n (D4 l p key closing now idle).1 ∧ Decided l (D4 l p key closing now idle).1 key (D4 l p key closing now idle).2.1.made := by
 unfold D4
 split
 ·exact ⟨h, .refl _ _ _⟩
 ·split
  ·unfold V2
   cases hd : V0 l key with
   | none => exact ⟨h, .refl _ _ _⟩
   | some u =>
    obtain ⟨h0, hlt, rfl, hp⟩ := C4N hd
    have ht := h.tomb hlt
    have hp2 := (ht.perm.cons (a8 l key)).trans hp
    have hl := hp2.length_eq
    simp only [List.length_cons] at hl
    exact ⟨ht.settle, by simp only; omega, by simp only; omega, fun h => by simp only at h; omega, fun x hx => Or.inl (hp2.subset (List.mem_cons_of_mem _ hx))⟩
  ·cases hp : K3 l (A6L l p key now idle) with
   | none => exact ⟨h, .refl _ _ _⟩
   | some u =>
    refine ⟨h.put hk rfl hp, ?_⟩
    rcases C1Q (x := A6L l p key now idle) rfl hp with ⟨h0, h1⟩ | ⟨h0, h1⟩
    ·have hl := h1.length_eq
     simp only [List.length_cons] at hl
     exact ⟨by simp only; omega, by simp only; omega, fun h => by simp only at h; omega, fun x hx => by
      rcases List.mem_cons.1 (h1.subset (List.mem_cons_of_mem _ hx)) with rfl | h2
      ·exact Or.inr rfl
      ·exact Or.inl h2⟩
    ·have hl := h1.length_eq
     simp only [List.length_cons] at hl
     exact ⟨by simp only; omega, by simp only; omega, fun h => by simp [C0v (p := p) (now := now) (show F2 l key < 0 from h0)], fun x hx => by
      rcases List.mem_cons.1 (h1.subset hx) with rfl | h2
      ·exact Or.inr rfl
      ·exact Or.inl h2⟩
def A1g (now : Int) (l u : List EnV) (k : Nat) : Prop := ∃ r, (r ++ D6 u).Perm (D6 l) ∧ (∀ x ∈ r, A45 x now = true) ∧ r.length = k
theorem A1g.trans {now : Int} {a b c : List EnV} {i j : Nat} (h : A1g now a b i) (h' : A1g now b c j) : A1g now a c (i + j) := by
 obtain ⟨r, h1, h2, h3⟩ := h
 obtain ⟨s, h4, h5, h6⟩ := h'
 refine ⟨r ++ s, ?_, ?_, by rw [List.length_append, h3, h6]⟩
 ·rw [List.append_assoc]; exact (h4.append_left r).trans h1
 ·intro x hx
  rcases List.mem_append.1 hx with hx | hx
  ·exact h2 x hx
  ·exact h5 x hx
theorem C5g {n : Nat} {l : List EnV} {now : Int} {c j : Nat} (h : TabOk n l) (hj : j < l.length) : TabOk n (S3 now (l, c) j).1 ∧ ∃ k, (S3 now (l, c) j).2 = c + k ∧ A1g now l (S3 now (l, c) j).1 k ∧ (∀ i x, (S3 now (l, c) j).1[i]? = some x → A45 x now = true → i ≠ j ∧ l[i]? = some x) := by
 have hj1 : l[j]? = some l[j] := List.getElem?_eq_getElem hj
 have hd : l.getD j noE = l[j] := by rw [List.getD_eq_getElem?_getD, hj1]; rfl
 unfold S3
 simp only [hd]
 by_cases c1 : A45 l[j] now = true
 ·rw [if_pos c1]
  have hst : l[j].st = 1 := by unfold A45 at c1; simp at c1; exact c1.1
  have hs := A2z (x := V9) hj1
  unfold A88 at hs
  rw [if_pos hst, if_neg (by simp [V9])] at hs
  refine ⟨h.tomb hj, 1, rfl, ⟨[l[j]], by simpa using hs, by simpa using c1, rfl⟩, fun i x hx hdx => ?_⟩
  rcases getElem?_set_some hx with ⟨_, rfl⟩ | h2
  ·simp [A45, V9] at hdx
  ·exact h2
 ·rw [if_neg c1]
  refine ⟨h, 0, rfl, ⟨[], by simp, by simp, rfl⟩, fun i x hx hdx => ⟨fun e => ?_, hx⟩⟩
  subst e
  rw [hj1] at hx
  injection hx with hx
  rw [hx] at c1
  exact c1 hdx
theorem C7k {n : Nat} {now : Int} : ∀ (L : List Nat) (l : List EnV) (c : Nat), TabOk n l → (∀ j ∈ L, j < n) → TabOk n (L.foldl (S3 now) (l, c)).1 ∧ ∃ k, (L.foldl (S3 now) (l, c)).2 = c + k ∧ A1g now l (L.foldl (S3 now) (l, c)).1 k ∧ (∀ i x, (L.foldl (S3 now) (l, c)).1[i]? = some x → A45 x now = true → i ∉ L ∧ l[i]? = some x) := by
 intro L
 induction L with
 | nil => intro l c h _; exact ⟨h, 0, rfl, ⟨[], by simp, by simp, rfl⟩, fun i x hx _ => ⟨by simp, hx⟩⟩
 | cons j L ih =>
  intro l c h hL
  obtain ⟨h1, k, h2, h3, h3'⟩ := C5g (now := now) (c := c) h (by rw [h.len]; exact hL j (List.mem_cons_self ..))
  obtain ⟨h4, k', h5, h6, h6'⟩ := ih (S3 now (l, c) j).1 (S3 now (l, c) j).2 h1 fun q hq => hL q (List.mem_cons_of_mem _ hq)
  rw [List.foldl_cons]
  refine ⟨h4, k + k', by rw [h5, h2]; omega, h3.trans h6, fun i x hx hd => ?_⟩
  obtain ⟨a, b⟩ := h6' i x hx hd
  obtain ⟨c, d⟩ := h3' i x b hd
  exact ⟨by simp [a, c], d⟩
theorem A1g.zero {now : Int} {l u : List EnV} (h : (D6 u).Perm (D6 l)) : A1g now l u 0 := ⟨[], h, by simp, rfl⟩
theorem C2T {f n m : Nat} (hm : 0 < m) : ∀ j ∈ P1 f n m, j < m := fun j hj => by
 unfold P1 at hj
 obtain ⟨i, _, rfl⟩ := List.mem_map.1 hj
 exact Nat.mod_lt _ hm
theorem C2J {n : Nat} {l : List EnV} {f k now : Int} (h : TabOk n l) (hn : 0 < n) : TabOk n (Q1 l f k now).1 ∧ A1g now l (Q1 l f k now).1 (Q1 l f k now).2.2 := by
 obtain ⟨h1, q, h2, h3⟩ : TabOk n (A7G l (U9 l f) (A0q l k) now).1 ∧ ∃ q, (A7G l (U9 l f) (A0q l k) now).2 = q ∧ A1g now l (A7G l (U9 l f) (A0q l k) now).1 q := by
  obtain ⟨h1, q, h2, h3, _⟩ := C7k (now := now) (P1 (U9 l f) (A0q l k) l.length) l 0 h (by rw [← h.len]; exact C2T (by rw [h.len]; exact hn))
  exact ⟨h1, q, by rw [Nat.zero_add] at h2; exact h2, h3⟩
 unfold Q1
 simp only
 by_cases c : 0 < (A7G l (U9 l f) (A0q l k) now).2
 ·rw [if_pos c]
  refine ⟨h1.settle, ?_⟩
  have := h3.trans (A1g.zero (now := now) h1.perm)
  rw [h2]; simpa using this
 ·rw [if_neg c]
  exact ⟨h1, by rw [h2]; exact h3⟩
structure Inv (c : CfgV) (s : MoS) : Prop where
 cfg : s.c = c
 ok : M1 c = true
 pool : L5 s.pool = 0
 sh : (s.tabs.length : Int) = c.sh
 tab : ∀ t ∈ s.tabs, TabOk c.cp.toNat t.1
 own : ∀ (i : Nat) t, s.tabs[i]? = some t → ∀ x ∈ D6 t.1, L7 x.key c.sh = i
theorem A4L {c : CfgV} (h : M1 c = true) : 1 ≤ c.wk ∧ c.wk ≤ 64 ∧ 1 ≤ c.sh ∧ c.sh ≤ 16 ∧ 1 ≤ c.cp ∧ c.cp ≤ 64 ∧ 0 ≤ c.idle ∧ c.idle ≤ 1000000 := by
 simp [M1, Y7] at h; omega
theorem Inv.new {c : CfgV} (h : M1 c = true) : Inv c ⟨c, [], A22 c⟩ := by
 have hb := A4L h
 refine ⟨rfl, h, rfl, by simp [A22]; omega, fun t ht => ?_, fun i t ht x hx => ?_⟩
 ·rw [A22] at ht
  rw [(List.mem_replicate.1 ht).2]
  exact TabOk.new (by omega)
 ·have ht := List.mem_of_getElem? ht
  rw [A22] at ht
  rw [(List.mem_replicate.1 ht).2, A24] at hx
  cases hx
theorem C2Q {key : ByteArray} {n : Int} (h : 1 ≤ n) : L7 key n < n.toNat := by
 unfold L7; rw [if_neg (by omega)]; exact Nat.mod_lt _ (by omega)
theorem Inv.set {c : CfgV} {s : MoS} (h : Inv c s) {i : Nat} {t u : List EnV × Nat} (ht : s.tabs[i]? = some t) (hu : TabOk c.cp.toNat u.1) (hf : ∀ x ∈ D6 u.1, x ∈ D6 t.1 ∨ L7 x.key c.sh = i) : Inv c { s with tabs := s.tabs.set i u } := by
 refine ⟨h.cfg, h.ok, h.pool, by rw [List.length_set]; exact h.sh, fun v hv => ?_, fun j v hv x hx => ?_⟩
 ·rcases List.mem_or_eq_of_mem_set hv with h1 | rfl
  ·exact h.tab v h1
  ·exact hu
 ·rcases getElem?_set_some hv with ⟨rfl, rfl⟩ | ⟨_, h2⟩
  ·rcases hf x hx with h1 | h1
   ·exact h.own j t ht x h1
   ·exact h1
  ·exact h.own j v h2 x hx
theorem Inv.at {c : CfgV} {s : MoS} (h : Inv c s) {i : Nat} (hi : i < c.sh.toNat) : s.tabs[i]? = some (s.tabs.getD i ([], 0)) := getD_some _ (by have := h.sh; omega)
theorem Inv.do' {c : CfgV} {s : MoS} (h : Inv c s) (o : OpV) (now : Int) : Inv c (doV s o now).1 := by
 have hb := A4L h.ok
 obtain ⟨sc, sp, st⟩ := s
 obtain rfl : sc = c := h.cfg
 unfold doV
 split
 ·unfold U6
  simp only
  split
  ·exact h
  ·have hi := C2Q (key := P9 (B2 o.packet).1) hb.2.2.1
   have hat := h.at hi
   have ht := h.tab _ (List.mem_of_getElem? hat)
   obtain ⟨h1, h2⟩ := A39 (p := sp) (closing := M3 (B2 o.packet).1 (B2 o.packet).2.1) (now := now) (idle := sc.idle) ht (A3c (B2 o.packet).1)
   exact h.set (u := (_, _)) hat h1 fun x hx => by
    rcases h2.from' x hx with h3 | h3
    ·exact Or.inl h3
    ·exact Or.inr (by rw [h3])
 split
 ·unfold B0l
  split
  ·rename_i hc
   exact ⟨h.cfg, h.ok, hc, h.sh, h.tab, h.own⟩
  ·exact h
 split
 ·unfold B0q
  split
  ·exact h
  ·rename_i hc
   have hat := h.at (i := o.shard.toNat) (by have := h.sh; omega)
   have ht := h.tab _ (List.mem_of_getElem? hat)
   simp only
   obtain ⟨h1, h2⟩ := C2J (f := (st.getD o.shard.toNat ([], 0)).2) (k := 4) (now := now) ht (by omega)
   refine h.set (u := (_, _)) hat h1 fun x hx => ?_
   obtain ⟨r, h3, _⟩ := h2
   exact Or.inl (h3.subset (List.mem_append_right _ hx))
 split
 ·exact h
 ·exact h
theorem Inv.ok2 {m : MoH} {c : CfgV} (h : Inv c m.st) : MoOk2 m := by
 have hb := A4L h.ok
 have hl : m.st.tabs.length = m.ts.length := by simp [MoH.st]
 have hsh := h.sh
 have hm : ∀ t ∈ m.ts, TabOk c.cp.toNat t.1.2 := fun t ht => h.tab (t.1.2, t.2) (List.mem_map.2 ⟨t, ht, rfl⟩)
 have hc : m.c = c := h.cfg
 have hp := h.pool
 refine ⟨⟨by omega, fun t ht => by rw [(hm t ht).len]; omega, fun t ht => (hm t ht).keys⟩, ?_, by rw [hc]; omega, by omega⟩
 have : m.st.pool = m.pool := rfl
 rw [this] at hp
 unfold L5 at hp
 split at hp
 ·rename_i hc; simp at hc; omega
 ·cases hp
end Go.Proofs.YtjobgnabneddjaaGreat
namespace Go.Proofs.YtjobgnabneddjaaGreat
open Go
def A05 (X : Nat → Prop) (t0 : Value) (R : Value → WP) : WP :=
 A0 PR (A8 .min #[3, 3] 0 [t0, (.int .i64 8)]) fun t4 =>
 A0 PR (A8 .max #[3, 3] 0 [(.int .i64 0), t4]) fun t5 =>
 B3 PR X (Instr.makeSlice 104 t5 t5) fun t6 =>
 R t6
theorem A6F : A9 PR 92 := A7 Tryz.func92 (by kernel_rfl) rfl
theorem A7J {X : Nat → Prop} {t0 : Value} {R : Value → WP} {w : World} (h : A05 X t0 R w) : Fn PR X 92 #[t0] w R := C8 (args := [t0]) mixed Tryz.func92 (by kernel_rfl) h
end Go.Proofs.YtjobgnabneddjaaGreat
namespace Go.Proofs.YtjobgnabneddjaaGreat
open Go
def A1L (X : Nat → Prop) (t0 : Value) (R : Value → WP) : WP :=
 A0 PR (A8 .min #[3, 3] 0 [t0, (.int .i64 8)]) fun t4 =>
 A0 PR (A8 .max #[3, 3] 0 [(.int .i64 0), t4]) fun t5 =>
 B3 PR X (Instr.makeSlice 103 t5 t5) fun t6 =>
 R t6
theorem A6Z : A9 PR 91 := A7 Tryz.func91 (by kernel_rfl) rfl
theorem A67 {X : Nat → Prop} {t0 : Value} {R : Value → WP} {w : World} (h : A1L X t0 R w) : Fn PR X 91 #[t0] w R := C8 (args := [t0]) mixed Tryz.func91 (by kernel_rfl) h
def A0H (X : Nat → Prop) (t0 t1 : Value) (R : Value → WP) : WP :=
 jn (n := 2) (fun t4 t5 =>
 A0 PR (Instr.build 270 #[(0, (.int .i64 1))]) fun t13 =>
 B5 PR X 152 [t0, t1, t13] fun t14 =>
 R (.tuple #[t14, (.bool true)])) fun J1 =>
 B5 PR X 151 [t0, t1] fun t8 =>
 A0 PR (Op.unary .not t8) fun t9 =>
 C6 t9 (
 R (.tuple #[t0, (.bool false)])) (
 J1 (.slice none 0 0) (.bool false))
theorem A4f : A9 PR 96 := A7 Tryz.func96 (by kernel_rfl) rfl
theorem A5Q {X : Nat → Prop} {t0 t1 : Value} {R : Value → WP} {w : World} (h : A0H X t0 t1 R w) : Fn PR X 96 #[t0, t1] w R := C8 (args := [t0, t1]) mixed Tryz.func96 (by kernel_rfl) h
def A0Y (X : Nat → Prop) (t0 t1 t2 : Value) (R : Value → WP) : WP :=
 jn (n := 2) (fun t6 t7 =>
 A0 PR (Instr.build 270 #[(0, (.int .i64 2)), (1, t2)]) fun t29 =>
 B5 PR X 152 [t0, t1, t29] fun t30 =>
 R (.tuple #[t30, (.bool true)])) fun J1 =>
 B5 PR X 151 [t0, t1] fun t10 =>
 A0 PR (Op.unary .not t10) fun t11 =>
 gj t11 false (fun J => J t0) fun t13 =>
 gj t11 false (fun J => J t1) fun t14 =>
 gj t11 false (fun J => A0 PR (Instr.indexAt 103 t13 t14) J) fun t15 =>
 gj t11 false (fun J => A0 PR (Instr.fieldAt 270 t15 0) J) fun t16 =>
 gj t11 false (fun J => A6 PR (Instr.loadAt 3 t16) J) fun t17 =>
 gj t11 false (fun J => A0 PR (binOp .neq 3 t17 (.int .i64 1)) J) fun t18 =>
 A0 PR (do pure (if ← asBool t11 then (.bool true) else t18)) fun t19 =>
 gj t19 false (fun J => J t2) fun t21 =>
 gj t19 false (fun J => B5 PR X 153 [t21] J) fun t22 =>
 gj t19 false (fun J => A0 PR (binOp .neq 27 t22 (.int .i64 0)) J) fun t23 =>
 A0 PR (do pure (if ← asBool t19 then (.bool true) else t23)) fun t24 =>
 C6 t24 (
 R (.tuple #[t0, (.bool false)])) (
 J1 (.slice none 0 0) (.bool false))
theorem A5K : A9 PR 97 := A7 Tryz.func97 (by kernel_rfl) rfl
theorem A6p {X : Nat → Prop} {t0 t1 t2 : Value} {R : Value → WP} {w : World} (h : A0Y X t0 t1 t2 R w) : Fn PR X 97 #[t0, t1, t2] w R := C8 (args := [t0, t1, t2]) mixed Tryz.func97 (by kernel_rfl) h
def A0M (X : Nat → Prop) (t0 t1 : Value) (R : Value → WP) : WP :=
 jn (n := 2) (fun t4 t5 =>
 A0 PR (Instr.build 270 #[]) fun t13 =>
 B5 PR X 152 [t0, t1, t13] fun t14 =>
 R (.tuple #[t14, (.bool true)])) fun J1 =>
 B5 PR X 151 [t0, t1] fun t8 =>
 A0 PR (Op.unary .not t8) fun t9 =>
 C6 t9 (
 R (.tuple #[t0, (.bool false)])) (
 J1 (.slice none 0 0) (.bool false))
theorem A4Y : A9 PR 99 := A7 Tryz.func99 (by kernel_rfl) rfl
theorem A5F {X : Nat → Prop} {t0 t1 : Value} {R : Value → WP} {w : World} (h : A0M X t0 t1 R w) : Fn PR X 99 #[t0, t1] w R := C8 (args := [t0, t1]) mixed Tryz.func99 (by kernel_rfl) h
def A1k (X : Nat → Prop) (t0 t1 : Value) (R : Value → WP) : WP :=
 A0 PR (binOp .geq 3 t1 (.int .i64 0)) fun t6 =>
 gj t6 true (fun J => J t1) fun t8 =>
 gj t6 true (fun J => J t0) fun t9 =>
 gj t6 true (fun J => A0 PR (A8 .len #[103] 0 [t9]) J) fun t10 =>
 gj t6 true (fun J => A0 PR (binOp .lss 3 t8 t10) J) fun t11 =>
 A0 PR (do pure (if ← asBool t6 then t11 else (.bool false))) fun t12 =>
 R t12
theorem m4 : A9 PR 151 := A7 Tryz.func151 (by kernel_rfl) rfl
theorem A8C {X : Nat → Prop} {t0 t1 : Value} {R : Value → WP} {w : World} (h : A1k X t0 t1 R w) : Fn PR X 151 #[t0, t1] w R := C8 (args := [t0, t1]) mixed Tryz.func151 (by kernel_rfl) h
def A0a (X : Nat → Prop) (t0 t1 t2 : Value) (R : Value → WP) : WP :=
 B3 PR X (Instr.box 270 t2) fun t5 =>
 B3 PR X (Instr.buildSlice 103 0 #[]) fun t8 =>
 B3 PR X (A8 .append #[103, 103] 103 [t8, t0]) fun t10 =>
 A6 PR (Instr.loadAt 270 t5) fun t13 =>
 A0 PR (Instr.indexAt 103 t10 t1) fun t14 =>
 C3 PR X (Instr.storeAt 270 t14 t13) <|
 R t10
theorem b9 : A9 PR 152 := A7 Tryz.func152 (by kernel_rfl) rfl
theorem A6M {X : Nat → Prop} {t0 t1 t2 : Value} {R : Value → WP} {w : World} (h : A0a X t0 t1 t2 R w) : Fn PR X 152 #[t0, t1, t2] w R := C8 (args := [t0, t1, t2]) mixed Tryz.func152 (by kernel_rfl) h
end Go.Proofs.YtjobgnabneddjaaGreat
namespace Go.Proofs.YtjobgnabneddjaaGreat
open Go
def A1P (X : Nat → Prop) (t0 : Value) (R : Value → WP) : WP :=
 B3 PR X (Instr.box 23 t0) fun t1 =>
 drw <|
 kt (n := 1) (fun t3 =>
 jn (n := 1) (fun t4 =>
 A0 PR (Instr.fieldAt 23 t1 4) fun t43 =>
 A6 PR (Instr.loadAt 3 t43) fun t44 =>
 B5 PR X 91 [t44] fun t45 =>
 A0 PR (B8 t3) fun t46 =>
 A0 PR (Instr.fieldAt 106 t46 5) fun t47 =>
 C3 PR X (Instr.storeAt 103 t47 t45) <|
 A0 PR (Instr.fieldAt 23 t1 4) fun t49 =>
 A6 PR (Instr.loadAt 3 t49) fun t50 =>
 B5 PR X 92 [t50] fun t51 =>
 A0 PR (B8 t3) fun t52 =>
 A0 PR (Instr.fieldAt 106 t52 6) fun t53 =>
 C3 PR X (Instr.storeAt 104 t53 t51) <|
 R t3) fun J1 =>
 lp (n := 1) (fun L2 t4_1 =>
 jn (n := 0) (
 jn (n := 0) (
 A0 PR (binOp .add 3 t4_1 (.int .i64 1)) fun t20 =>
 L2 t20) fun J3 =>
 A0 PR (B8 t3) fun t23 =>
 A0 PR (Instr.fieldAt 106 t23 4) fun t24 =>
 A6 PR (Instr.loadAt 37 t24) fun t25 =>
 B3 PR X (Instr.buildSlice 37 1 #[(0, (.int .i64 (-1)))]) fun t26 =>
 B3 PR X (A8 .append #[37, 37] 37 [t25, t26]) fun t27 =>
 A0 PR (B8 t3) fun t28 =>
 A0 PR (Instr.fieldAt 106 t28 4) fun t29 =>
 C3 PR X (Instr.storeAt 37 t29 t27) <|
 drw <|
 A0 PR (B8 t3) fun t32 =>
 A0 PR (Instr.fieldAt 106 t32 7) fun t33 =>
 A6 PR (Instr.loadAt 36 t33) fun t34 =>
 A0 PR (Instr.fieldAt 23 t1 2) fun t35 =>
 A6 PR (Instr.loadAt 3 t35) fun t36 =>
 B5 PR X 90 [t36] fun t37 =>
 watch PR [(none, (Instr.loadAt 36 t33), t34)] <|
 B3 PR X (Instr.buildSlice 36 1 #[(0, t37)]) fun t38 =>
 watch PR [(none, (Instr.loadAt 36 t33), t34)] <|
 B3 PR X (A8 .append #[36, 36] 36 [t34, t38]) fun t39 =>
 A0 PR (B8 t3) fun t40 =>
 A0 PR (Instr.fieldAt 106 t40 7) fun t41 =>
 C3 PR X (Instr.storeAt 36 t41 t39) <|
 J3) fun J4 =>
 A0 PR (Instr.fieldAt 23 t1 1) fun t16 =>
 A6 PR (Instr.loadAt 3 t16) fun t17 =>
 A0 PR (binOp .lss 3 t4_1 t17) fun t18 =>
 C6 t18 (
 J4) (
 J1 t4_1)) (.int .i64 0)) fun C5 =>
 A6 PR (Instr.loadAt 23 t1) fun t5_1 =>
 A0 PR (Instr.fieldAt 23 t1 0) fun t6_1 =>
 A6 PR (Instr.loadAt 3 t6_1) fun t7_1 =>
 A0 PR (binOp .add 3 t7_1 (.int .i64 1)) fun t8_1 =>
 A0 PR (Instr.fieldAt 23 t1 1) fun t10_1 =>
 A6 PR (Instr.loadAt 3 t10_1) fun t11_1 =>
 both (B3 PR X (Instr.makeSlice 37 t8_1 t8_1) fun t9_2 =>
 watch PR [(none, (Instr.loadAt 3 t10_1), t11_1), (none, (Instr.loadAt 23 t1), t5_1)] <|
 B3 PR X (Instr.makeSlice 37 t11_1 t11_1) fun t12_2 =>
 watch PR [(none, (Instr.loadAt 23 t1), t5_1)] <|
 A0 PR (Instr.build 106 #[(0, t5_1), (3, t9_2), (8, t12_2)]) fun t13_2 =>
 B3 PR X (Instr.box 106 t13_2) fun t14_2 =>
 C5 t14_2) (both (B3 PR X (Instr.makeSlice 37 t11_1 t11_1) fun t12_1 =>
 watch PR [(none, (Instr.loadAt 3 t6_1), t7_1), (none, (Instr.loadAt 23 t1), t5_1)] <|
 B3 PR X (Instr.makeSlice 37 t8_1 t8_1) fun t9_1 =>
 watch PR [(none, (Instr.loadAt 23 t1), t5_1)] <|
 A0 PR (Instr.build 106 #[(0, t5_1), (3, t9_1), (8, t12_1)]) fun t13_1 =>
 B3 PR X (Instr.box 106 t13_1) fun t14_1 =>
 C5 t14_1) ((fun _ => True)))
theorem A6e : A9 PR 42 := A7 Tryz.func42 (by kernel_rfl) rfl
theorem A7D {X : Nat → Prop} {t0 : Value} {R : Value → WP} {w : World} (h : A1P X t0 R w) : Fn PR X 42 #[t0] w R := C8 (args := [t0]) mixed Tryz.func42 (by kernel_rfl) h
def l8 (X : Nat → Prop) (t0 t1 : Value) (R : Value → WP) : WP :=
 A0 PR (binOp .geq 3 t1 (.int .i64 0)) fun t5 =>
 gj t5 true (fun J => J t1) fun t7 =>
 gj t5 true (fun J => A0 PR (binOp .leq 3 t7 (.int .i64 1000000)) J) fun t8 =>
 A0 PR (do pure (if ← asBool t5 then t8 else (.bool false))) fun t9 =>
 gj t9 true (fun J => J t0) fun t11 =>
 gj t9 true (fun J => A0 PR (B8 t11) J) fun t12 =>
 gj t9 true (fun J => A0 PR (Instr.fieldAt 106 t12 9) J) fun t13 =>
 gj t9 true (fun J => A6 PR (Instr.loadAt 3 t13) J) fun t14 =>
 gj t9 true (fun J => J t1) fun t15 =>
 gj t9 true (fun J => A0 PR (binOp .add 3 t14 t15) J) fun t16 =>
 gj t9 true (fun J => A0 PR (binOp .leq 3 t16 (.int .i64 1000000000)) J) fun t17 =>
 A0 PR (do pure (if ← asBool t9 then t17 else (.bool false))) fun t18 =>
 C6 t18 (
 A0 PR (B8 t0) fun t21 =>
 A0 PR (Instr.fieldAt 106 t21 9) fun t22 =>
 A6 PR (Instr.loadAt 3 t22) fun t23 =>
 A0 PR (binOp .add 3 t23 t1) fun t25 =>
 A0 PR (B8 t0) fun t26 =>
 A0 PR (Instr.fieldAt 106 t26 9) fun t27 =>
 C3 PR X (Instr.storeAt 3 t27 t25) <|
 R (.tuple #[])) (
 R (.tuple #[]))
theorem A18 : A9 PR 101 := A7 Tryz.func101 (by kernel_rfl) rfl
theorem A2n {X : Nat → Prop} {t0 t1 : Value} {R : Value → WP} {w : World} (h : l8 X t0 t1 R w) : Fn PR X 101 #[t0, t1] w R := C8 (args := [t0, t1]) mixed Tryz.func101 (by kernel_rfl) h
end Go.Proofs.YtjobgnabneddjaaGreat
namespace Go.Proofs.YtjobgnabneddjaaGreat
open Go
def A1Q (X : Nat → Prop) (t0 : Value) (R : Value → WP) : WP :=
 A0 PR (A8 .min #[3, 3] 0 [t0, (.int .i64 64)]) fun t4 =>
 A0 PR (A8 .max #[3, 3] 0 [(.int .i64 0), t4]) fun t5 =>
 B3 PR X (Instr.makeSlice 84 t5 t5) fun t6 =>
 R t6
theorem A6S : A9 PR 90 := A7 Tryz.func90 (by kernel_rfl) rfl
theorem A7L {X : Nat → Prop} {t0 : Value} {R : Value → WP} {w : World} (h : A1Q X t0 R w) : Fn PR X 90 #[t0] w R := C8 (args := [t0]) mixed Tryz.func90 (by kernel_rfl) h
end Go.Proofs.YtjobgnabneddjaaGreat
namespace Go.Proofs.YtjobgnabneddjaaGreat
open Go
def A0j (X : Nat → Prop) (t0 t1 : Value) (R : Value → WP) : WP :=
 jn (n := 1) (fun t4 =>
 jn (n := 2) (fun t4_1 t5 =>
 R (.bool true)) fun J1 =>
 lp (n := 2) (fun L2 t4_2 t5_1 =>
 jn (n := 0) (
 jn (n := 1) (fun t4_3 =>
 A0 PR (binOp .add 3 t5_1 (.int .i64 1)) fun t16 =>
 L2 t4_3 t16) fun J3 =>
 drw <|
 A0 PR (Instr.indexAt 84 t0 t5_1) fun t19 =>
 A6 PR (Instr.loadAt 218 t19) fun t20 =>
 A0 PR (Instr.indexAt 84 t1 t5_1) fun t23 =>
 A6 PR (Instr.loadAt 218 t23) fun t24 =>
 A6 PR (H0 .neq 218 (.tmp 20) (.tmp 24) t20 t24) fun t25 =>
 C6 t25 (
 R (.bool false)) (
 J3 t4_2)) fun J4 =>
 A0 PR (A8 .len #[84] 0 [t0]) fun t13 =>
 A0 PR (binOp .lss 3 t5_1 t13) fun t14 =>
 C6 t14 (
 J4) (
 J1 t4_2 t5_1)) t4 (.int .i64 0)) fun J5 =>
 A0 PR (A8 .len #[84] 0 [t0]) fun t7 =>
 A0 PR (A8 .len #[84] 0 [t1]) fun t9 =>
 A0 PR (binOp .neq 3 t7 t9) fun t10 =>
 C6 t10 (
 R (.bool false)) (
 J5 (.bool false))
theorem A5B : A9 PR 61 := A7 Tryz.func61 (by kernel_rfl) rfl
theorem A6s {X : Nat → Prop} {t0 t1 : Value} {R : Value → WP} {w : World} (h : A0j X t0 t1 R w) : Fn PR X 61 #[t0, t1] w R := C8 (args := [t0, t1]) mixed Tryz.func61 (by kernel_rfl) h
end Go.Proofs.YtjobgnabneddjaaGreat
namespace Go.Proofs.YtjobgnabneddjaaGreat
open Go
end Go.Proofs.YtjobgnabneddjaaGreat
namespace Go.Proofs.YtjobgnabneddjaaGreat
open Go
end Go.Proofs.YtjobgnabneddjaaGreat
namespace Go.Proofs.YtjobgnabneddjaaGreat
open Go
end Go.Proofs.YtjobgnabneddjaaGreat
namespace Go.Proofs.YtjobgnabneddjaaGreat
open Go
theorem C36 (w : World) (u v : Value) (l m : List EnV) (hn : l.length ≤ 1000000) (hm : m.length ≤ 1000000) (hu : F9 w u l.length (l.flatMap F6)) (hv : F9 w v m.length (m.flatMap F6)) :
  Fn PR C0 61 #[u, v] w (fun r w' => r = .bool (decide (l = m)) ∧ D2 [] w w') := by
 refine Fn.pure (A6s (TW.go (κ := false) (S := []) ?_))
 unfold A0j
 obtain ⟨a, c, rfl, hr⟩ := hu.form
 obtain ⟨a', c', rfl, hr'⟩ := hv.form
 by_cases hlen : l.length = m.length
 case neg =>
  have hne : ¬ l = m := fun h => hlen (by rw [h])
  have hl' : ¬ ((l.length : Nat) : Int) = m.length := by omega
  (have zz:=trivial;repeat((first|clear zz|with_reducible first|refine A3 ?_|refine A5 fun _=>?_|refine A4 fun _=>?_);try simp(disch:=first|omega|assumption|((repeat(first|exact A1|exact uH|apply A2|apply uT));first|done|fail)|(simp;first|done|omega|fail))[hl', hlen]))
  exact B0 (by simp [hne])
 (have zz:=trivial;repeat((first|clear zz|with_reducible first|refine A3 ?_|refine A5 fun _=>?_|refine A4 fun _=>?_);try simp(disch:=first|omega|assumption|((repeat(first|exact A1|exact uH|apply A2|apply uT));first|done|fail)|(simp;first|done|omega|fail))[hlen]))
 refine w7 (α := Unit) m.length (fun _ _ => .bool false) (fun _ _ => []) (fun i _ => ∀ j, j < i → l[j]? = m[j]?) () (by intro j hj; omega) ?_
 rintro i _ hi hpre L hL
 by_cases hlt : i < m.length
 ·obtain ⟨b, o, rfl, hrow⟩ := hr (by omega)
  obtain ⟨b', o', rfl, hrow'⟩ := hr' (by omega)
  obtain ⟨x, hx⟩ : ∃ x, l[i]? = some x := ⟨_, List.getElem?_eq_getElem (by omega)⟩
  obtain ⟨y, hy⟩ : ∃ y, m[i]? = some y := ⟨_, List.getElem?_eq_getElem hlt⟩
  have h1 := hrow.at (f := F6) (k := 4) (fun _ => rfl) hx
  have h2 := hrow'.at (f := F6) (k := 4) (fun _ => rfl) hy
  rw [F6] at h1 h2
  by_cases he : x = y
  ·subst he
   (have zz:=trivial;repeat((first|clear zz|with_reducible first|refine A3 ?_|refine A5 fun _=>?_|refine A4 fun _=>?_);try simp(disch:=first|omega|assumption|((repeat(first|exact A1|exact uH|apply A2|apply uT));first|done|fail)|(simp;first|done|omega|fail))[hlt, hlen, h1, h2]))
   refine Sels.tw .nil (hL hlt () ?_)
   intro j hj
   by_cases hji : j = i
   ·subst hji; rw [hx, hy]
   ·exact hpre j (by omega)
  ·have hne : ¬ l = m := fun h => he (by rw [h] at hx; rw [hx] at hy; exact Option.some.inj hy)
   have he' : ¬ (x.st = y.st ∧ x.key = y.key ∧ x.bk = y.bk ∧ x.dl = y.dl) := fun h => he (by cases x; cases y; simpa using h)
   (have zz:=trivial;repeat((first|clear zz|with_reducible first|refine A3 ?_|refine A5 fun _=>?_|refine A4 fun _=>?_);try simp(disch:=first|omega|assumption|((repeat(first|exact A1|exact uH|apply A2|apply uT));first|done|fail)|(simp;first|done|omega|fail))[hlt, hlen, h1, h2]))
   refine B7J (fun _ => B0 (by simp [hne])) fun hc => absurd ?_ he'
   refine ⟨Classical.byContradiction fun h => hc (Or.inl h), Classical.byContradiction fun h => hc (Or.inr (Or.inl h)), Classical.byContradiction fun h => hc (Or.inr (Or.inr (Or.inl h))), Classical.byContradiction fun h => hc (Or.inr (Or.inr (Or.inr h)))⟩
 ·obtain rfl : i = m.length := by omega
  have : l = m := C9s hlen fun j hj => hpre j (by omega)
  (have zz:=trivial;repeat((first|clear zz|with_reducible first|refine A3 ?_|refine A5 fun _=>?_|refine A4 fun _=>?_);try simp(disch:=first|omega|assumption|((repeat(first|exact A1|exact uH|apply A2|apply uT));first|done|fail)|(simp;first|done|omega|fail))[hlen]))
  exact B0 (by rw [decide_eq_true this])
end Go.Proofs.YtjobgnabneddjaaGreat
namespace Go.Proofs.YtjobgnabneddjaaGreat
open Go
theorem C42 (w : World) (n : Nat) (hn : n ≤ 1000000) : Fn PR C0 90 #[.int .i64 (n : Int)] w (Rn [] w (fun r u => u = r) fun r => [G7 r (newE n)]) := by
 refine A7L (TW.go (κ := false) (S := []) ?_)
 unfold A1Q
 have e : max 0 (min (n : Int) 64) = ((min n 64 : Nat) : Int) := by omega
 (have zz:=trivial;repeat((first|clear zz|with_reducible first|refine A3 ?_|refine A5 fun _=>?_|refine A4 fun _=>?_);try simp(disch:=first|omega|assumption|((repeat(first|exact A1|exact uH|apply A2|apply uT));first|done|fail)|(simp;first|done|omega|fail))[]))
 rw [e]
 refine u6 (by omega) (by omega) (by omega) (by omega) fun b => ?_
 rw [Int.toNat_natCast, C6x]
 refine B1 _ rfl ?_
 simp only [G7, newE, List.length_replicate]
 (repeat' constructor)
end Go.Proofs.YtjobgnabneddjaaGreat
namespace Go.Proofs.YtjobgnabneddjaaGreat
open Go
def A0D (X : Nat → Prop) (t0 : Value) (R : Value → WP) : WP :=
 jn (n := 1) (fun t2 =>
 jn (n := 2) (fun t2_1 t3 =>
 R (.int .i64 0)) fun J1 =>
 lp (n := 2) (fun L2 t2_2 t3_1 =>
 jn (n := 0) (
 jn (n := 1) (fun t2_3 =>
 A0 PR (binOp .add 3 t3_1 (.int .i64 1)) fun t13 =>
 L2 t2_3 t13) fun J3 =>
 A0 PR (Instr.indexAt 58 t0 t3_1) fun t16 =>
 A6 PR (Instr.loadAt 155 t16) fun t17 =>
 B3 PR X (Instr.alloc 155 true (.tuple #[])) fun t4 =>
 C3 PR X (Instr.storeAt 155 t4 t17) <|
 A0 PR (Instr.fieldAt 155 t4 0) fun t18 =>
 A6 PR (Instr.loadAt 3 t18) fun t19 =>
 A0 PR (binOp .lss 3 t19 (.int .i64 1)) fun t20 =>
 gj t20 false (fun J => A0 PR (Instr.fieldAt 155 t4 0) J) fun t22 =>
 gj t20 false (fun J => A6 PR (Instr.loadAt 3 t22) J) fun t23 =>
 gj t20 false (fun J => A0 PR (binOp .gtr 3 t23 (.int .i64 65535)) J) fun t24 =>
 A0 PR (do pure (if ← asBool t20 then (.bool true) else t24)) fun t25 =>
 gj t25 false (fun J => A0 PR (Instr.fieldAt 155 t4 1) J) fun t27 =>
 gj t25 false (fun J => A6 PR (Instr.loadAt 3 t27) J) fun t28 =>
 gj t25 false (fun J => A0 PR (binOp .lss 3 t28 (.int .i64 1)) J) fun t29 =>
 A0 PR (do pure (if ← asBool t25 then (.bool true) else t29)) fun t30 =>
 gj t30 false (fun J => A0 PR (Instr.fieldAt 155 t4 1) J) fun t32 =>
 gj t30 false (fun J => A6 PR (Instr.loadAt 3 t32) J) fun t33 =>
 gj t30 false (fun J => A0 PR (binOp .gtr 3 t33 (.int .i64 16)) J) fun t34 =>
 A0 PR (do pure (if ← asBool t30 then (.bool true) else t34)) fun t35 =>
 gj t35 false (fun J => J t0) fun t37 =>
 gj t35 false (fun J => A0 PR (Instr.fieldAt 155 t4 0) J) fun t38 =>
 gj t35 false (fun J => A6 PR (Instr.loadAt 3 t38) J) fun t39 =>
 gj t35 false (fun J => B5 PR X 202 [t37, t39] J) fun t40 =>
 gj t35 false (fun J => J t3_1) fun t41 =>
 gj t35 false (fun J => A0 PR (binOp .neq 3 t40 t41) J) fun t42 =>
 A0 PR (do pure (if ← asBool t35 then (.bool true) else t42)) fun t43 =>
 C6 t43 (
 R (.int .i64 10)) (
 J3 t2_2)) fun J4 =>
 A0 PR (A8 .len #[58] 0 [t0]) fun t10 =>
 A0 PR (binOp .lss 3 t3_1 t10) fun t11 =>
 C6 t11 (
 J4) (
 J1 t2_2 t3_1)) t2 (.int .i64 0)) fun J5 =>
 A0 PR (A8 .len #[58] 0 [t0]) fun t6 =>
 A0 PR (binOp .gtr 3 t6 (.int .i64 32)) fun t7 =>
 C6 t7 (
 R (.int .i64 10)) (
 J5 (.int .i64 0))
theorem A41 : A9 PR 153 := A7 Tryz.func153 (by kernel_rfl) rfl
theorem A5V {X : Nat → Prop} {t0 : Value} {R : Value → WP} {w : World} (h : A0D X t0 R w) : Fn PR X 153 #[t0] w R := C8 (args := [t0]) mixed Tryz.func153 (by kernel_rfl) h
def A0m (X : Nat → Prop) (t0 t1 : Value) (R : Value → WP) : WP :=
 jn (n := 2) (fun t4 t5 =>
 R (.int .i64 (-1))) fun J1 =>
 lp (n := 2) (fun L2 t4_1 t5_1 =>
 jn (n := 0) (
 jn (n := 1) (fun t4_2 =>
 A0 PR (binOp .add 3 t5_1 (.int .i64 1)) fun t11 =>
 L2 t4_2 t11) fun J3 =>
 A0 PR (Instr.indexAt 58 t0 t5_1) fun t14 =>
 A0 PR (Instr.fieldAt 155 t14 0) fun t15 =>
 A6 PR (Instr.loadAt 3 t15) fun t16 =>
 A0 PR (binOp .eql 3 t16 t1) fun t18 =>
 C6 t18 (
 R t5_1) (
 J3 t4_1)) fun J4 =>
 A0 PR (A8 .len #[58] 0 [t0]) fun t8 =>
 A0 PR (binOp .lss 3 t5_1 t8) fun t9 =>
 C6 t9 (
 J4) (
 J1 t4_1 t5_1)) (.int .i64 0) (.int .i64 0)
theorem A5E : A9 PR 202 := A7 Tryz.func202 (by kernel_rfl) rfl
theorem A6a {X : Nat → Prop} {t0 t1 : Value} {R : Value → WP} {w : World} (h : A0m X t0 t1 R w) : Fn PR X 202 #[t0, t1] w R := C8 (args := [t0, t1]) mixed Tryz.func202 (by kernel_rfl) h
end Go.Proofs.YtjobgnabneddjaaGreat
namespace Go.Proofs.YtjobgnabneddjaaGreat
open Go
end Go.Proofs.YtjobgnabneddjaaGreat
namespace Go.Proofs.YtjobgnabneddjaaGreat
open Go
end Go.Proofs.YtjobgnabneddjaaGreat
namespace Go.Proofs.YtjobgnabneddjaaGreat
open Go
end Go.Proofs.YtjobgnabneddjaaGreat
namespace Go.Proofs.YtjobgnabneddjaaGreat
open Go
end Go.Proofs.YtjobgnabneddjaaGreat
namespace Go.Proofs.YtjobgnabneddjaaGreat
open Go
section
variable {κ : Bool} {X : Nat → Prop} {S : List Nat} {w0 : World} {H H' Hk : List Res} {K : Value → WP} {K0 : WP}
end
end Go.Proofs.YtjobgnabneddjaaGreat
namespace Go.Proofs.YtjobgnabneddjaaGreat
open Go
theorem N9.mono {κ : Bool} {S : List Nat} {w0 : World} {H H' : List Res} {v : Value} {n : Nat} {xs : List Value} (h : N9 κ S w0 H v n xs) (hs : H.Sublist H') : N9 κ S w0 H' v n xs := fun w hw => h w (hw.sub hs)
def RdC (w : World) (v : Value) (l : List (Nat × Int)) : Prop := F9 w v l.length (l.flatMap H9) ∧ ∃ a c, v = .slice a l.length c ∧ l.length ≤ c
theorem RdC.ks {w w' : World} {v : Value} {l : List (Nat × Int)} (h : RdC w v l) (hk : KS false [] w w') : RdC w' v l := ⟨h.1.ks hk (by simp), h.2⟩
end Go.Proofs.YtjobgnabneddjaaGreat
namespace Go.Proofs.YtjobgnabneddjaaGreat
open Go
theorem B8Z (l : List EnV) (p : List E9) (key : ByteArray) (closing : Bool) (now idle : Int) :
  ((H8 l p key now).2 = false ∧ p = [] ∧ D4 l p key closing now idle = (l, ⟨11, 0, false, 0⟩, false)) ∨
  (¬ ((H8 l p key now).2 = false ∧ p = []) ∧ closing = true ∧ D4 l p key closing now idle = (V2 l key, ⟨0, Y1 l p key now, false, 0⟩, (V0 l key).isSome)) ∨
  (¬ ((H8 l p key now).2 = false ∧ p = []) ∧ closing = false ∧ F2 l key < 0 ∧ D4 l p key closing now idle = (l, ⟨12, 0, false, 0⟩, false)) ∨
  (¬ ((H8 l p key now).2 = false ∧ p = []) ∧ closing = false ∧ ∃ u, K3 l (A6L l p key now idle) = some u ∧ D4 l p key closing now idle = (u, ⟨0, Y1 l p key now, !(H8 l p key now).2, 0⟩, true)) := by
 unfold D4
 by_cases h : (H8 l p key now).2 = false ∧ p = []
 ·left; exact ⟨h.1, h.2, if_pos h⟩
 right
 rw [if_neg h]
 cases closing with
 | true => left; exact ⟨h, rfl, rfl⟩
 | false =>
  right
  cases hp : K3 l (A6L l p key now idle) with
  | none => left; exact ⟨h, rfl, C2k hp, rfl⟩
  | some u => right; exact ⟨h, rfl, u, rfl, rfl⟩
end Go.Proofs.YtjobgnabneddjaaGreat
