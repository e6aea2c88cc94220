/- The proof of a given statement, a part of it (Atm Cells Cells2 ShEpoch Ep Ep2 ShSlots Slo Slo2 Wor Wor2 Wor3 Con Con2 Con3 Con4 Con5 Con6 Con7 ShL20 Upd Upd2 RunG Job Jw1 Jw2 UpdR BusL CurL Jw3 Jw4 Jw5 LockL LockM JwQ WsN JwK Works19 Tab Tab2 Model8 Tab3 ShR15 ShR16 ShR18 ShR12 ShR11 Rf11 ShR02 Rf02 Rf11b Rf12 ShR08 ShR09 ShR10 ShR01 Rf01 Without Rf09 Makes Rf17a ShR07 ShR05 ShR06 ShR03 ShR04 Rf03 Rf04 Rf07 Rf08 ShR13 Rf13 RdN DoT Rf17b Rf17c Rf17d). No condition but what each lemma says. -/
import Derived.Conc.AtomicLaws2
import Derived.Test.YtjobgnabneddjaaGreatU16
set_option linter.unusedVariables false
set_option linter.unusedSimpArgs false
namespace Go.Proofs.YtjobgnabneddjaaGreat
open Go
theorem B51 {w : World} {b o : Nat} {c : Array Value} {T : TypeId} (v : Value) (hb : bl w b = some (.cells c T (0, 0))) : w.setCell ⟨b, o, none⟩ v = World.putb w b (.cells (c.setIfInBounds o v) T (0, 0)) := by
 unfold World.setCell World.putb
 congr 1
 apply Array.ext_getElem?
 intro r
 rw [Array.getElem?_modify]
 by_cases hr : b = r
 ·subst hr
  have : w.heap[b]? = some (.cells c T (0, 0)) := hb
  rw [Array.getElem?_setIfInBounds_self_of_lt (show b < w.heap.size from H7 hb)]
  simp [this]
 ·rw [Array.getElem?_setIfInBounds_ne hr]; simp [hr]
theorem C0w {w : World} {b o : Nat} {c : Array Value} {T : TypeId} (hb : bl w b = some (.cells c T (0, 0))) : w.frozen? ⟨b, o, none⟩ = false := by
 have : w.heap[b]? = some (.cells c T (0, 0)) := hb
 simp [World.frozen?, this]
theorem B73 {w : World} {b o : Nat} {c : Array Value} {T : TypeId} {x d : Int} (hb : bl w b = some (.cells c T (0, 0))) (ho : c[o]? = some (.int .i64 x)) :
  (callFunc 234 #[.pointer (some ⟨b, o, none⟩), .int .i64 d]).run PR w = .ok (.value (.int .i64 (IntKind.i64.wrap (x + d)))) (World.putb w b (.cells (c.setIfInBounds o (.int .i64 (IntKind.i64.wrap (x + d)))) T (0, 0))) := by
 have h1 : Extern.findNext Tryz.f234 = none := by kernel_rfl
 have h2 : Extern.find Tryz.f234 = some (Extern.Atomic.update (Op.intArith .add) .i64 true) := by kernel_rfl
 have h3 : (Tryz.f234.name == "runtime.NumGoroutine") = false := by kernel_rfl
 have h4 : Tryz.f234.body.isNone = true := by kernel_rfl
 have h5 : PR.funcs[234]? = some Tryz.f234 := Tryz.func234
 have hc : w.cell? ⟨b, o, none⟩ = some (.int .i64 x) := by rw [E5 hb]; exact ho
 have hf := C0w (o := o) hb
 simp only [callFunc, Sem.run_bind, run_program, Result.andThen_ok, h5, h3, h4, Bool.false_eq_true, if_false, if_true, h1, h2]
 have := Conc.run_add_entry (P := PR) (ad := ⟨b, o, none⟩) (k := .i64) (v := x) (d := d) hc hf
 rw [B51 _ hb] at this
 have hm : (mark (Mark.extern 234)).run PR w = .ok () w := rfl
 rw [hm, Result.andThen_ok, this]
 rfl
theorem C1E {κ : Bool} {X : Nat → Prop} {S : List Nat} {w0 : World} {H H' : List Res} {K : Value → WP} {b o : Nat} {c : Array Value} {T : TypeId} {x d : Int} (ho : c[o]? = some (.int .i64 x))
  (hu : Up (.pt b (.cells c T (0, 0))) (.pt b (.cells (c.setIfInBounds o (.int .i64 (IntKind.i64.wrap (x + d)))) T (0, 0))) H H')
  (hK : TW κ S w0 H' (K (.int .i64 (IntKind.i64.wrap (x + d))))) : TW κ S w0 H (B4 PR X 234 [.pointer (some ⟨b, o, none⟩), .int .i64 d] K) := fun w hw => by
 have hm : Res.pt b (.cells c T (0, 0)) ∈ H := by obtain ⟨A, B, rfl, _⟩ := hu.parts; simp
 have hb := hw.pt hm
 refine Or.inr ⟨_, _, B73 hb ho, Sk.putb _ hb, hK _ (hw.up hu ⟨KS.putb hb (by simp [Res.foot]), ?_, ?_, by simp⟩)⟩
 ·simp only [List.mem_singleton, forall_eq, Res.holds]; exact ⟨Q2 (H7 hb), rfl⟩
 ·simp only [List.mem_singleton, forall_eq, Res.foot]; exact ⟨Or.inl (by simp), by have := H7 hb; simpa using this⟩
end Go.Proofs.YtjobgnabneddjaaGreat
namespace Go.Proofs.YtjobgnabneddjaaGreat
open Go
def F9 (l : List Int) : List Value := l.map fun n => .int .i64 n
@[simp] theorem D2P (l : List Int) : (F9 l).length = l.length := by unfold F9; rw [List.length_map]
theorem A15 {l : List Int} {i : Nat} (h : i < l.length) : (F9 l)[i]? = some (.int .i64 (l.getD i 0)) := by
 unfold F9; rw [List.getElem?_map, List.getElem?_eq_getElem h, List.getD_eq_getElem?_getD, List.getElem?_eq_getElem h]; rfl
theorem A18 {l : List Int} {i : Nat} (h : i < l.length) (v : Int) : Y5 (F9 l) i [.int .i64 v] = F9 (l.set i v) := by
 unfold Y5 F9
 rw [List.map_set, List.set_eq_take_append_cons_drop, if_pos (by simpa using h)]
 simp
def D1 (b : Nat) (n : Int) (cv ov : Value) (cs os : List Int) : List Res := [.pt b (.cells #[.int .i64 n, cv, ov] 141), .own 3 1 cv cs.length (F9 cs), .own 3 1 ov os.length (F9 os)]
theorem C3f (w : World) (b : Nat) (n : Int) (cv ov : Value) (hw : LW false [b] w [.pt b (.cells #[.int .i64 n, cv, ov] 141)] w) :
  Fn PR B8 178 #[.pointer (some ⟨b, 0, none⟩), .int .i64 1] w (Rn [b] w (fun (_ : Unit) u => u = .int .i64 (IntKind.i64.wrap (n + 1))) fun _ => [.pt b (.cells #[.int .i64 (IntKind.i64.wrap (n + 1)), cv, ov] 141)]) := by
 refine A3v (TW.goH (κ := false) (S := [b]) ?_ hw)
 unfold s4
 (have zz:=trivial;repeat((first|clear zz|with_reducible first|refine A3 ?_|refine A5 fun _=>?_|refine A4 fun _=>?_);try simp(disch:=first|omega|assumption|((repeat(first|exact A1|exact uH|apply A2|apply uT));first|done|fail)|(simp;first|done|omega|fail))[]))
 refine C1E (x := n) (c := #[.int .i64 n, cv, ov]) (o := 0) rfl Up.here ?_
 exact B1 () rfl (by (repeat' constructor))
theorem C1g (w : World) (b : Nat) (n : Int) (cv ov : Value) (hw : LW false [b] w [.pt b (.cells #[.int .i64 n, cv, ov] 141)] w) :
  Fn PR B8 129 #[.pointer (some ⟨b, 0, none⟩)] w (Rn [b] w (fun (n : Int) u => u = .tuple #[]) fun n => [.pt b (.cells #[.int .i64 n, cv, ov] 141)]) := by
 refine A55 (TW.goH (κ := false) (S := [b]) ?_ hw)
 unfold y9
 (have zz:=trivial;repeat((first|clear zz|with_reducible first|refine A3 ?_|refine A5 fun _=>?_|refine A4 fun _=>?_);try simp(disch:=first|omega|assumption|((repeat(first|exact A1|exact uH|apply A2|apply uT));first|done|fail)|(simp;first|done|omega|fail))[]))
 refine C6 (Hc := [.pt b (.cells #[.int .i64 n, cv, ov] 141)]) A3M (fun w' _ hs => C3f w' b n cv ov hs) (by (repeat' constructor)) ?_
 rintro _ v rfl
 exact B1 (IntKind.i64.wrap (n + 1)) rfl (by (repeat' constructor))
def A3S (v : Value) (l : List Int) (i : Int) (u : Value) : Prop := if 0 ≤ i ∧ i < l.length then ∃ g c, v = .slice (some ⟨g, 0, none⟩) l.length c ∧ u = .pointer (some ⟨g, i.toNat, none⟩) else u = .pointer none
theorem A58 (w : World) (b : Nat) (n : Int) (cv ov : Value) (v : Value) (l : List Int) (i : Int) (hl : l.length ≤ 1024) (hv : P3 w 3 1 v l.length (F9 l)) (hw : LW false [b] w [.pt b (.cells #[.int .i64 n, cv, ov] 141)] w) :
  Fn PR B8 74 #[.pointer (some ⟨b, 0, none⟩), v, .int .i64 i] w (Rn [b] w (fun (n : Int) u => A3S v l i u) fun n => [.pt b (.cells #[.int .i64 n, cv, ov] 141)]) := by
 refine A8k (TW.goH (κ := false) (S := [b]) ?_ hw)
 unfold A1q
 obtain ⟨a, c, rfl⟩ := hv.form
 by_cases c1 : i < 0
 ·(have zz:=trivial;repeat((first|clear zz|with_reducible first|refine A3 ?_|refine A5 fun _=>?_|refine A4 fun _=>?_);try simp(disch:=first|omega|assumption|((repeat(first|exact A1|exact uH|apply A2|apply uT));first|done|fail)|(simp;first|done|omega|fail))[c1]))
  exact B1 n (by unfold A3S; rw [if_neg (by omega)]) (by (repeat' constructor))
 by_cases c2 : (l.length : Int) ≤ i
 ·(have zz:=trivial;repeat((first|clear zz|with_reducible first|refine A3 ?_|refine A5 fun _=>?_|refine A4 fun _=>?_);try simp(disch:=first|omega|assumption|((repeat(first|exact A1|exact uH|apply A2|apply uT));first|done|fail)|(simp;first|done|omega|fail))[c1, c2]))
  exact B1 n (by unfold A3S; rw [if_neg (by omega)]) (by (repeat' constructor))
 obtain ⟨j, rfl⟩ : ∃ j : Nat, i = j := ⟨i.toNat, by omega⟩
 have hj : j < l.length := by omega
 have hj2 : ¬ l.length ≤ j := by omega
 rcases hv.2 with ⟨h, e⟩ | ⟨g, cap, cur, e, h2⟩
 ·omega
 cases e
 (have zz:=trivial;repeat((first|clear zz|with_reducible first|refine A3 ?_|refine A5 fun _=>?_|refine A4 fun _=>?_);try simp(disch:=first|omega|assumption|((repeat(first|exact A1|exact uH|apply A2|apply uT));first|done|fail)|(simp;first|done|omega|fail))[c1, c2, hj, hj2]))
 refine C6 (Hc := [.pt b (.cells #[.int .i64 n, cv, ov] 141)]) A4b (fun w' _ hs => C1g w' b n cv ov hs) (by (repeat' constructor)) ?_
 rintro m v rfl
 (have zz:=trivial;repeat((first|clear zz|with_reducible first|refine A3 ?_|refine A5 fun _=>?_|refine A4 fun _=>?_);try simp(disch:=first|omega|assumption|((repeat(first|exact A1|exact uH|apply A2|apply uT));first|done|fail)|(simp;first|done|omega|fail))[c1, c2, hj, hj2]))
 exact B1 m (by unfold A3S; rw [if_pos (by omega)]; exact ⟨_, _, rfl, by simp⟩) (by (repeat' constructor))
theorem A69 (w : World) (b : Nat) (n : Int) (cv ov : Value) (cs os : List Int) (i : Int) (hl : cs.length ≤ 1024) (hw : LW false (B5 (D1 b n cv ov cs os)) w (D1 b n cv ov cs os) w) :
  Fn PR B8 35 #[.pointer (some ⟨b, 0, none⟩), .int .i64 i] w (Rn (B5 (D1 b n cv ov cs os)) w (fun (n : Int) u => u = .int .i64 (D2 cs i)) fun n => D1 b n cv ov cs os) := by
 refine A8r (TW.goH (κ := false) (S := B5 (D1 b n cv ov cs os)) ?_ hw)
 unfold A1p
 refine T6 (e := 3) (k := 1) (v := cv) (q := cs.length) (xs := F9 cs) (by simp only [D1]; (repeat constructor)) fun ca cc e => ?_
 subst e
 simp only [D1]
 (have zz:=trivial;repeat((first|clear zz|with_reducible first|refine A3 ?_|refine A5 fun _=>?_|refine A4 fun _=>?_);try simp(disch:=first|omega|assumption|((repeat(first|exact A1|exact uH|apply A2|apply uT));first|done|fail)|(simp;first|done|omega|fail))[]))
 refine C6 (Hc := [.pt b (.cells #[.int .i64 n, .slice ca cs.length cc, ov] 141)]) Q9 (fun w' hw' hs => A58 w' b n (.slice ca cs.length cc) ov (.slice ca cs.length cc) cs i hl (hw'.hold (.own 3 1 (.slice ca cs.length cc) cs.length (F9 cs)) ?_) hs) (by (repeat' constructor)) ?_
 ·(repeat constructor)
 intro m u hu
 unfold A3S at hu
 by_cases c1 : 0 ≤ i ∧ i < cs.length
 ·rw [if_pos c1] at hu
  obtain ⟨g, c, e, rfl⟩ := hu
  cases e
  obtain ⟨j, rfl⟩ : ∃ j : Nat, i = j := ⟨i.toNat, by omega⟩
  have hj : j < cs.length := by omega
  have hg := A15 hj
  (have zz:=trivial;repeat((first|clear zz|with_reducible first|refine A3 ?_|refine A5 fun _=>?_|refine A4 fun _=>?_);try simp(disch:=first|omega|assumption|((repeat(first|exact A1|exact uH|apply A2|apply uT));first|done|fail)|(simp;first|done|omega|fail))[hg]))
  exact B1 m (by unfold D2; rw [if_pos c1, Int.toNat_natCast]; exact (List.getElem?_eq_some_iff.1 hg).2) (by (repeat' constructor))
 ·rw [if_neg c1] at hu
  subst hu
  (have zz:=trivial;repeat((first|clear zz|with_reducible first|refine A3 ?_|refine A5 fun _=>?_|refine A4 fun _=>?_);try simp(disch:=first|omega|assumption|((repeat(first|exact A1|exact uH|apply A2|apply uT));first|done|fail)|(simp;first|done|omega|fail))[]))
  exact B1 m (by unfold D2; rw [if_neg c1]) (by (repeat' constructor))
theorem A9A (w : World) (b : Nat) (n : Int) (cv ov : Value) (cs os : List Int) (i v : Int) (hl : cs.length ≤ 1024) (hw : LW false (B5 (D1 b n cv ov cs os)) w (D1 b n cv ov cs os) w) :
  Fn PR B8 31 #[.pointer (some ⟨b, 0, none⟩), .int .i64 i, .int .i64 v] w (Rn (B5 (D1 b n cv ov cs os)) w (fun (n : Int) u => u = .tuple #[]) fun n => D1 b n cv ov (H5 cs i v) os) := by
 refine A71 (TW.goH (κ := false) (S := B5 (D1 b n cv ov cs os)) ?_ hw)
 unfold A06
 refine T6 (e := 3) (k := 1) (v := cv) (q := cs.length) (xs := F9 cs) (by simp only [D1]; (repeat constructor)) fun ca cc e => ?_
 subst e
 simp only [D1]
 (have zz:=trivial;repeat((first|clear zz|with_reducible first|refine A3 ?_|refine A5 fun _=>?_|refine A4 fun _=>?_);try simp(disch:=first|omega|assumption|((repeat(first|exact A1|exact uH|apply A2|apply uT));first|done|fail)|(simp;first|done|omega|fail))[]))
 refine C6 (Hc := [.pt b (.cells #[.int .i64 n, .slice ca cs.length cc, ov] 141)]) Q9 (fun w' hw' hs => A58 w' b n (.slice ca cs.length cc) ov (.slice ca cs.length cc) cs i hl (hw'.hold (.own 3 1 (.slice ca cs.length cc) cs.length (F9 cs)) ?_) hs) (by (repeat' constructor)) ?_
 ·(repeat constructor)
 intro m u hu
 unfold A3S at hu
 by_cases c1 : 0 ≤ i ∧ i < cs.length
 ·rw [if_pos c1] at hu
  obtain ⟨g, c, e, rfl⟩ := hu
  cases e
  obtain ⟨j, rfl⟩ : ∃ j : Nat, i = j := ⟨i.toNat, by omega⟩
  have hj : j < cs.length := by omega
  (have zz:=trivial;repeat((first|clear zz|with_reducible first|refine A3 ?_|refine A5 fun _=>?_|refine A4 fun _=>?_);try simp(disch:=first|omega|assumption|((repeat(first|exact A1|exact uH|apply A2|apply uT));first|done|fail)|(simp;first|done|omega|fail))[]))
  refine U0 (by (repeat constructor)) (by simp) (by simp; omega) (by simp) ?_
  refine B1 m rfl ?_
  have e : Y5 (F9 cs) ((j : Nat) : Int).toNat [.int .i64 v] = F9 (H5 cs j v) := by unfold H5; rw [if_pos c1, Int.toNat_natCast, A18 hj]
  have el : (H5 cs j v).length = cs.length := by unfold H5; rw [if_pos c1, List.length_set]
  rw [el, ← e]
  simp
  (repeat' constructor)
 ·rw [if_neg c1] at hu
  subst hu
  (have zz:=trivial;repeat((first|clear zz|with_reducible first|refine A3 ?_|refine A5 fun _=>?_|refine A4 fun _=>?_);try simp(disch:=first|omega|assumption|((repeat(first|exact A1|exact uH|apply A2|apply uT));first|done|fail)|(simp;first|done|omega|fail))[]))
  exact B1 m rfl (by unfold H5; rw [if_neg c1]; (repeat' constructor))
theorem C6B (w : World) (b : Nat) (n : Int) (cv ov : Value) (cs os : List Int) (i d : Int) (hl : cs.length ≤ 1024) (hi : 0 ≤ i ∧ i < cs.length) (hw : LW false (B5 (D1 b n cv ov cs os)) w (D1 b n cv ov cs os) w) :
  Fn PR B8 93 #[.pointer (some ⟨b, 0, none⟩), .int .i64 i, .int .i64 d] w (Rn (B5 (D1 b n cv ov cs os)) w (fun (n : Int) u => u = .int .i64 (IntKind.i64.wrap (D2 cs i + d))) fun n => D1 b n cv ov (H5 cs i (IntKind.i64.wrap (D2 cs i + d))) os) := by
 refine A9s (TW.goH (κ := false) (S := B5 (D1 b n cv ov cs os)) ?_ hw)
 unfold A2Y
 refine T6 (e := 3) (k := 1) (v := cv) (q := cs.length) (xs := F9 cs) (by simp only [D1]; (repeat constructor)) fun ca cc e => ?_
 subst e
 simp only [D1]
 (have zz:=trivial;repeat((first|clear zz|with_reducible first|refine A3 ?_|refine A5 fun _=>?_|refine A4 fun _=>?_);try simp(disch:=first|omega|assumption|((repeat(first|exact A1|exact uH|apply A2|apply uT));first|done|fail)|(simp;first|done|omega|fail))[]))
 refine C6 (Hc := [.pt b (.cells #[.int .i64 n, .slice ca cs.length cc, ov] 141)]) Q9 (fun w' hw' hs => A58 w' b n (.slice ca cs.length cc) ov (.slice ca cs.length cc) cs i hl (hw'.hold (.own 3 1 (.slice ca cs.length cc) cs.length (F9 cs)) ?_) hs) (by (repeat' constructor)) ?_
 ·(repeat constructor)
 intro m u hu
 unfold A3S at hu
 rw [if_pos hi] at hu
 obtain ⟨g, c, e, rfl⟩ := hu
 cases e
 obtain ⟨j, rfl⟩ : ∃ j : Nat, i = j := ⟨i.toNat, by omega⟩
 have hj : j < cs.length := by omega
 have hg := A15 hj
 have hld : D2 cs j = cs.getD j 0 := by unfold D2; rw [if_pos hi, Int.toNat_natCast]
 rw [hld]
 obtain ⟨z, hz⟩ : ∃ z, z = cs.getD j 0 := ⟨_, rfl⟩
 rw [← hz] at hg ⊢
 have hgg := (List.getElem?_eq_some_iff.1 hg).2
 (have zz:=trivial;repeat((first|clear zz|with_reducible first|refine A3 ?_|refine A5 fun _=>?_|refine A4 fun _=>?_);try simp(disch:=first|omega|assumption|((repeat(first|exact A1|exact uH|apply A2|apply uT));first|done|fail)|(simp;first|done|omega|fail))[hg, hgg]))
 refine U0 (by (repeat constructor)) (by simp) (by simp; omega) (by simp) ?_
 have e : ∀ v : Int, Y5 (F9 cs) j (Value.int .i64 v).cells.toList = F9 (H5 cs j v) := fun v => by unfold H5; rw [if_pos hi, Int.toNat_natCast, ← A18 hj]; rfl
 have el : ∀ v : Int, (H5 cs j v).length = cs.length := fun v => by unfold H5; rw [if_pos hi, List.length_set]
 have hr : ∀ v : Int, (F9 (H5 cs j v))[j]? = some (.int .i64 v) := fun v => by
  rw [A15 (by rw [el]; exact hj)]; unfold H5; rw [if_pos hi, Int.toNat_natCast, List.getD_eq_getElem?_getD, List.getElem?_set_self hj]; rfl
 have hrr : ∀ v : Int, ∀ h, (F9 (H5 cs j v))[j]'h = .int .i64 v := fun v h => (List.getElem?_eq_some_iff.1 (hr v)).2
 simp only [Int.toNat_natCast, e]
 (have zz:=trivial;repeat((first|clear zz|with_reducible first|refine A3 ?_|refine A5 fun _=>?_|refine A4 fun _=>?_);try simp(disch:=first|omega|assumption|((repeat(first|exact A1|exact uH|apply A2|apply uT));first|done|fail)|(simp;first|done|omega|fail))[el, e, hr, hrr]))
 exact B1 m rfl (by (repeat' constructor))
theorem B62 (w : World) (v u : Value) (l : List Int) (i x y : Int) (hu : A3S v l i u) (hw : LW false (B5 [.own 3 1 v l.length (F9 l)]) w [.own 3 1 v l.length (F9 l)] w) :
  Fn PR B8 75 #[u, .int .i64 x, .int .i64 y] w (Rn (B5 [.own 3 1 v l.length (F9 l)]) w (fun (_ : Unit) r => r = .bool (decide (0 ≤ i ∧ i < l.length ∧ l.getD i.toNat 0 = x))) fun _ => [.own 3 1 v (A2H l i x y).length (F9 (A2H l i x y))]) := by
 refine B4x (TW.goH (κ := false) (S := B5 [.own 3 1 v l.length (F9 l)]) ?_ hw)
 unfold A8V
 unfold A3S at hu
 by_cases c1 : 0 ≤ i ∧ i < l.length
 ·rw [if_pos c1] at hu
  obtain ⟨g, c, rfl, rfl⟩ := hu
  obtain ⟨j, rfl⟩ : ∃ j : Nat, i = j := ⟨i.toNat, by omega⟩
  have hj : j < l.length := by omega
  have hg := A15 hj
  unfold A2H
  simp only [Int.toNat_natCast]
  by_cases c2 : l.getD j 0 = x
  ·rw [if_pos ⟨c1.1, c1.2, c2⟩, decide_eq_true ⟨c1.1, c1.2, c2⟩]
   obtain ⟨z, hz⟩ : ∃ z, z = l.getD j 0 := ⟨_, rfl⟩
   rw [← hz] at hg c2
   have hgg := (List.getElem?_eq_some_iff.1 hg).2
   subst c2
   (have zz:=trivial;repeat((first|clear zz|with_reducible first|refine A3 ?_|refine A5 fun _=>?_|refine A4 fun _=>?_);try simp(disch:=first|omega|assumption|((repeat(first|exact A1|exact uH|apply A2|apply uT));first|done|fail)|(simp;first|done|omega|fail))[hg, hgg]))
   refine U0 (by (repeat constructor)) (by simp) (by simp; omega) (by simp) ?_
   refine B1 () rfl ?_
   have e : Y5 (F9 l) j (Value.int .i64 y).cells.toList = F9 (l.set j y) := by rw [← A18 hj]; rfl
   rw [List.length_set, ← e]
   (repeat' constructor)
  ·rw [if_neg (fun h => c2 h.2.2), decide_eq_false (fun h => c2 h.2.2)]
   obtain ⟨z, hz⟩ : ∃ z, z = l.getD j 0 := ⟨_, rfl⟩
   rw [← hz] at hg c2
   have hgg := (List.getElem?_eq_some_iff.1 hg).2
   (have zz:=trivial;repeat((first|clear zz|with_reducible first|refine A3 ?_|refine A5 fun _=>?_|refine A4 fun _=>?_);try simp(disch:=first|omega|assumption|((repeat(first|exact A1|exact uH|apply A2|apply uT));first|done|fail)|(simp;first|done|omega|fail))[hg, hgg, c2]))
   exact B1 () rfl (by (repeat' constructor))
 ·rw [if_neg c1] at hu
  subst hu
  unfold A2H
  rw [if_neg (fun h => c1 ⟨h.1, h.2.1⟩), decide_eq_false (fun h => c1 ⟨h.1, h.2.1⟩)]
  (have zz:=trivial;repeat((first|clear zz|with_reducible first|refine A3 ?_|refine A5 fun _=>?_|refine A4 fun _=>?_);try simp(disch:=first|omega|assumption|((repeat(first|exact A1|exact uH|apply A2|apply uT));first|done|fail)|(simp;first|done|omega|fail))[]))
  exact B1 () rfl (by (repeat' constructor))
def A39 (u : Value) : Prop := ∃ r : Bool, u = .bool r
theorem Y8 (r : Bool) : A39 (.bool r) := ⟨r, rfl⟩
theorem B5w (w : World) (b : Nat) (n : Int) (cv ov : Value) (cs os : List Int) (i who : Int) (hl : os.length ≤ 1024) (hw : LW false (B5 (D1 b n cv ov cs os)) w (D1 b n cv ov cs os) w) :
  Fn PR B8 19 #[.pointer (some ⟨b, 0, none⟩), .int .i64 i, .int .i64 who] w (Rn (B5 (D1 b n cv ov cs os)) w (fun (n : Int) u => A39 u) fun n => D1 b n cv ov cs (W7 os i who)) := by
 refine A8c (TW.goH (κ := false) (S := B5 (D1 b n cv ov cs os)) ?_ hw)
 unfold A1l
 refine T6 (e := 3) (k := 1) (v := ov) (q := os.length) (xs := F9 os) (by simp only [D1]; (repeat constructor)) fun ca cc e => ?_
 subst e
 simp only [D1]
 (have zz:=trivial;repeat((first|clear zz|with_reducible first|refine A3 ?_|refine A5 fun _=>?_|refine A4 fun _=>?_);try simp(disch:=first|omega|assumption|((repeat(first|exact A1|exact uH|apply A2|apply uT));first|done|fail)|(simp;first|done|omega|fail))[]))
 refine C6 (Hc := [.pt b (.cells #[.int .i64 n, cv, .slice ca os.length cc] 141)]) Q9 (fun w' hw' hs => A58 w' b n cv (.slice ca os.length cc) (.slice ca os.length cc) os i hl (hw'.hold (.own 3 1 (.slice ca os.length cc) os.length (F9 os)) ?_) hs) (by (repeat' constructor)) ?_
 ·(repeat constructor)
 intro m u hu
 unfold W7
 by_cases c1 : 0 ≤ who
 ·rw [if_pos c1]
  (have zz:=trivial;repeat((first|clear zz|with_reducible first|refine A3 ?_|refine A5 fun _=>?_|refine A4 fun _=>?_);try simp(disch:=first|omega|assumption|((repeat(first|exact A1|exact uH|apply A2|apply uT));first|done|fail)|(simp;first|done|omega|fail))[c1]))
  refine C6 (Hc := [.own 3 1 (.slice ca os.length cc) os.length (F9 os)]) A6l (fun w' _ hs => B62 w' _ u os i (-1) who hu hs) (by (repeat' constructor)) ?_
  rintro _ r rfl
  (have zz:=trivial;repeat((first|clear zz|with_reducible first|refine A3 ?_|refine A5 fun _=>?_|refine A4 fun _=>?_);try simp(disch:=first|omega|assumption|((repeat(first|exact A1|exact uH|apply A2|apply uT));first|done|fail)|(simp;first|done|omega|fail))[]))
  exact B1 m (Y8 _) (by (repeat' constructor))
 ·rw [if_neg c1]
  (have zz:=trivial;repeat((first|clear zz|with_reducible first|refine A3 ?_|refine A5 fun _=>?_|refine A4 fun _=>?_);try simp(disch:=first|omega|assumption|((repeat(first|exact A1|exact uH|apply A2|apply uT));first|done|fail)|(simp;first|done|omega|fail))[c1]))
  exact B1 m (Y8 _) (by (repeat' constructor))
theorem B17 (w : World) (b : Nat) (n : Int) (cv ov : Value) (cs os : List Int) (i who : Int) (hl : os.length ≤ 1024) (hw : LW false (B5 (D1 b n cv ov cs os)) w (D1 b n cv ov cs os) w) :
  Fn PR B8 25 #[.pointer (some ⟨b, 0, none⟩), .int .i64 i, .int .i64 who] w (Rn (B5 (D1 b n cv ov cs os)) w (fun (n : Int) u => A39 u) fun n => D1 b n cv ov cs (N4 os i who)) := by
 refine A6r (TW.goH (κ := false) (S := B5 (D1 b n cv ov cs os)) ?_ hw)
 unfold A0l
 refine T6 (e := 3) (k := 1) (v := ov) (q := os.length) (xs := F9 os) (by simp only [D1]; (repeat constructor)) fun ca cc e => ?_
 subst e
 simp only [D1]
 (have zz:=trivial;repeat((first|clear zz|with_reducible first|refine A3 ?_|refine A5 fun _=>?_|refine A4 fun _=>?_);try simp(disch:=first|omega|assumption|((repeat(first|exact A1|exact uH|apply A2|apply uT));first|done|fail)|(simp;first|done|omega|fail))[]))
 refine C6 (Hc := [.pt b (.cells #[.int .i64 n, cv, .slice ca os.length cc] 141)]) Q9 (fun w' hw' hs => A58 w' b n cv (.slice ca os.length cc) (.slice ca os.length cc) os i hl (hw'.hold (.own 3 1 (.slice ca os.length cc) os.length (F9 os)) ?_) hs) (by (repeat' constructor)) ?_
 ·(repeat constructor)
 intro m u hu
 unfold N4
 by_cases c1 : 0 ≤ who
 ·rw [if_pos c1]
  (have zz:=trivial;repeat((first|clear zz|with_reducible first|refine A3 ?_|refine A5 fun _=>?_|refine A4 fun _=>?_);try simp(disch:=first|omega|assumption|((repeat(first|exact A1|exact uH|apply A2|apply uT));first|done|fail)|(simp;first|done|omega|fail))[c1]))
  refine C6 (Hc := [.own 3 1 (.slice ca os.length cc) os.length (F9 os)]) A6l (fun w' _ hs => B62 w' _ u os i who (-1) hu hs) (by (repeat' constructor)) ?_
  rintro _ r rfl
  (have zz:=trivial;repeat((first|clear zz|with_reducible first|refine A3 ?_|refine A5 fun _=>?_|refine A4 fun _=>?_);try simp(disch:=first|omega|assumption|((repeat(first|exact A1|exact uH|apply A2|apply uT));first|done|fail)|(simp;first|done|omega|fail))[]))
  exact B1 m (Y8 _) (by (repeat' constructor))
 ·rw [if_neg c1]
  (have zz:=trivial;repeat((first|clear zz|with_reducible first|refine A3 ?_|refine A5 fun _=>?_|refine A4 fun _=>?_);try simp(disch:=first|omega|assumption|((repeat(first|exact A1|exact uH|apply A2|apply uT));first|done|fail)|(simp;first|done|omega|fail))[c1]))
  exact B1 m (Y8 _) (by (repeat' constructor))
theorem C2c (w : World) (b : Nat) (n : Int) (cv ov : Value) (os : List Int) (i : Int) (hb : bl w b = some (.cells #[.int .i64 n, cv, ov] 141 (0, 0))) (hv : G1 w ov os.length (F9 os)) :
  Fn PR B8 37 #[.pointer (some ⟨b, 0, none⟩), .int .i64 i] w (fun u w' => u = .int .i64 (A1y os i) ∧ C7 [] w w') := by
 refine Fn.pure (A7T (TW.go (κ := false) (S := []) ?_))
 unfold A08
 obtain ⟨a, c, rfl, hr⟩ := hv.form
 have h2 : w.cell? ⟨b, 2, none⟩ = some (.slice a os.length c) := by rw [E5 hb]; rfl
 by_cases c1 : i < 0
 ·(have zz:=trivial;repeat((first|clear zz|with_reducible first|refine A3 ?_|refine A5 fun _=>?_|refine A4 fun _=>?_);try simp(disch:=first|omega|assumption|((repeat(first|exact A1|exact uH|apply A2|apply uT));first|done|fail)|(simp;first|done|omega|fail))[c1, h2]))
  exact B0 (by unfold A1y; rw [if_neg (by omega)])
 by_cases c2 : (os.length : Int) ≤ i
 ·(have zz:=trivial;repeat((first|clear zz|with_reducible first|refine A3 ?_|refine A5 fun _=>?_|refine A4 fun _=>?_);try simp(disch:=first|omega|assumption|((repeat(first|exact A1|exact uH|apply A2|apply uT));first|done|fail)|(simp;first|done|omega|fail))[c1, c2, h2]))
  exact B0 (by unfold A1y; rw [if_neg (by omega)])
 obtain ⟨j, rfl⟩ : ∃ j : Nat, i = j := ⟨i.toNat, by omega⟩
 have hj : j < os.length := by omega
 have hj2 : ¬ os.length ≤ j := by omega
 obtain ⟨g, o, rfl, hrow⟩ := hr (by omega)
 have hx : w.cell? ⟨g, o + j, none⟩ = some (.int .i64 (os.getD j 0)) := hrow.get (A15 hj)
 obtain ⟨z, hz⟩ : ∃ z, z = os.getD j 0 := ⟨_, rfl⟩
 rw [← hz] at hx
 (have zz:=trivial;repeat((first|clear zz|with_reducible first|refine A3 ?_|refine A5 fun _=>?_|refine A4 fun _=>?_);try simp(disch:=first|omega|assumption|((repeat(first|exact A1|exact uH|apply A2|apply uT));first|done|fail)|(simp;first|done|omega|fail))[c1, c2, hj, hj2, h2, hx]))
 exact B0 (by unfold A1y; rw [if_pos (by omega), Int.toNat_natCast, hz])
end Go.Proofs.YtjobgnabneddjaaGreat
namespace Go.Proofs.YtjobgnabneddjaaGreat
open Go
theorem B0M (n : Nat) : (Builtin.zeroCells (Value.int .i64 0).cells n).toList = F9 (List.replicate n 0) := by
 have hz : (Builtin.zeroCells (Value.int .i64 0).cells n).toList.length = n := by simp [size_zeroCells]
 apply List.ext_getElem (by rw [hz]; simp)
 intro i h1 h2
 simp [Builtin.zeroCells, F9, Nat.mod_one]
theorem D2Y {l i : Nat} (h : i < l) (a b : Int) : (List.replicate i a ++ List.replicate (l - i) b).set i a = List.replicate (i + 1) a ++ List.replicate (l - (i + 1)) b := by
 rw [List.set_append_right _ _ (by simp)]
 obtain ⟨k, hk⟩ : ∃ k, l - i = k + 1 := ⟨l - i - 1, by omega⟩
 have : l - (i + 1) = k := by omega
 rw [hk, this, List.replicate_succ' (n := i)]
 simp [List.replicate_succ]
theorem A7Y (w : World) (n : Nat) (h : n ≤ 1024) : Fn PR B8 128 #[.int .i64 (n : Nat)] w (fun u w' => u = .int .i64 (n : Nat) ∧ C7 [] w w') := by
 refine Fn.pure (B11 (TW.go (κ := false) (S := []) ?_))
 unfold A4q
 have h1 : max ((n : Nat) : Int) 0 = n := by omega
 have h2 : min ((n : Nat) : Int) 1024 = n := by omega
 (have zz:=trivial;repeat((first|clear zz|with_reducible first|refine A3 ?_|refine A5 fun _=>?_|refine A4 fun _=>?_);try simp(disch:=first|omega|assumption|((repeat(first|exact A1|exact uH|apply A2|apply uT));first|done|fail)|(simp;first|done|omega|fail))[h1, h2]))
 exact B0 rfl
theorem B7l (w : World) (a l : Nat) (ha : a ≤ 1024) (hl : l ≤ 1024) : Fn PR B8 68 #[.int .i64 (a : Nat), .int .i64 (l : Nat)] w
  (Rn [] w (fun (x : Nat × Value × Value) u => u = .pointer (some ⟨x.1, 0, none⟩)) fun x => D1 x.1 0 x.2.1 x.2.2 (List.replicate a 0) (List.replicate l (-1))) := by
 refine B6b (TW.go (κ := false) (S := []) ?_)
 unfold A9Y
 (have zz:=trivial;repeat((first|clear zz|with_reducible first|refine A3 ?_|refine A5 fun _=>?_|refine A4 fun _=>?_);try simp(disch:=first|omega|assumption|((repeat(first|exact A1|exact uH|apply A2|apply uT));first|done|fail)|(simp;first|done|omega|fail))[]))
 refine C40 (α := Nat × Nat × Nat) (fun _ => True) (fun x => D1 x.1 0 (.slice (some ⟨x.2.1, 0, none⟩) a a) (.slice (some ⟨x.2.2, 0, none⟩) l l) (List.replicate a 0) (List.replicate l 0)) (fun x => .pointer (some ⟨x.1, 0, none⟩)) ?_ ?_
 ·rintro ⟨b, bc, bo⟩ _
  simp only [D1]
  (have zz:=trivial;repeat((first|clear zz|with_reducible first|refine A3 ?_|refine A5 fun _=>?_|refine A4 fun _=>?_);try simp(disch:=first|omega|assumption|((repeat(first|exact A1|exact uH|apply A2|apply uT));first|done|fail)|(simp;first|done|omega|fail))[]))
  refine C6f l (fun i => [.pt b (.cells #[.int .i64 0, .slice (some ⟨bc, 0, none⟩) a a, .slice (some ⟨bo, 0, none⟩) l l] 141), .own 3 1 (.slice (some ⟨bc, 0, none⟩) a a) a (F9 (List.replicate a 0)), .own 3 1 (.slice (some ⟨bo, 0, none⟩) l l) l (F9 (List.replicate i (-1) ++ List.replicate (l - i) 0))]) ?_ (by simp)
  intro i hi L hL
  by_cases hlt : i < l
  ·(have zz:=trivial;repeat((first|clear zz|with_reducible first|refine A3 ?_|refine A5 fun _=>?_|refine A4 fun _=>?_);try simp(disch:=first|omega|assumption|((repeat(first|exact A1|exact uH|apply A2|apply uT));first|done|fail)|(simp;first|done|omega|fail))[hlt]))
   refine U0 (by (repeat constructor)) (by simp) (by simp; omega) (by simp) ?_
   have e : Y5 (F9 (List.replicate i (-1) ++ List.replicate (l - i) 0)) i (Value.int .i64 (-1)).cells.toList = F9 (List.replicate (i + 1) (-1) ++ List.replicate (l - (i + 1)) 0) := by
    rw [← D2Y hlt, ← A18 (by simp; omega)]; rfl
   rw [e]
   (have zz:=trivial;repeat((first|clear zz|with_reducible first|refine A3 ?_|refine A5 fun _=>?_|refine A4 fun _=>?_);try simp(disch:=first|omega|assumption|((repeat(first|exact A1|exact uH|apply A2|apply uT));first|done|fail)|(simp;first|done|omega|fail))[]))
   exact hL hlt
  ·obtain rfl : i = l := by omega
   (have zz:=trivial;repeat((first|clear zz|with_reducible first|refine A3 ?_|refine A5 fun _=>?_|refine A4 fun _=>?_);try simp(disch:=first|omega|assumption|((repeat(first|exact A1|exact uH|apply A2|apply uT));first|done|fail)|(simp;first|done|omega|fail))[]))
   refine B1 (b, .slice (some ⟨bc, 0, none⟩) a a, .slice (some ⟨bo, 0, none⟩) i i) rfl ?_
   simp only [List.length_replicate]
   (repeat' constructor)
 ·intro C hC
  have hC' : ∀ b bc bo, TW false [] w (D1 b 0 (.slice (some ⟨bc, 0, none⟩) a a) (.slice (some ⟨bo, 0, none⟩) l l) (List.replicate a 0) (List.replicate l 0)) (C (.pointer (some ⟨b, 0, none⟩))) := fun b bc bo => hC (b, bc, bo) trivial
  simp only [D1, List.length_replicate] at hC'
  refine C1 A0N (fun w' _ => A7Y w' a ha) ?_
  (have zz:=trivial;repeat((first|clear zz|with_reducible first|refine A3 ?_|refine A5 fun _=>?_|refine A4 fun _=>?_);try simp(disch:=first|omega|assumption|((repeat(first|exact A1|exact uH|apply A2|apply uT));first|done|fail)|(simp;first|done|omega|fail))[]))
  refine ⟨?_, ?_, fun _ _ => trivial⟩
  ·refine y3 (by omega) (by omega) (by omega) (by omega) fun bc => ?_
   rw [Int.toNat_natCast, B0M]
   refine C1 A0N (fun w' _ => A7Y w' l hl) ?_
   refine y3 (by omega) (by omega) (by omega) (by omega) fun bo => ?_
   rw [Int.toNat_natCast, B0M]
   (have zz:=trivial;repeat((first|clear zz|with_reducible first|refine A3 ?_|refine A5 fun _=>?_|refine A4 fun _=>?_);try simp(disch:=first|omega|assumption|((repeat(first|exact A1|exact uH|apply A2|apply uT));first|done|fail)|(simp;first|done|omega|fail))[]))
   rename_i b
   exact Sels.tw (by (repeat' constructor)) (hC' b bc bo)
  ·refine C1 A0N (fun w' _ => A7Y w' l hl) ?_
   (have zz:=trivial;repeat((first|clear zz|with_reducible first|refine A3 ?_|refine A5 fun _=>?_|refine A4 fun _=>?_);try simp(disch:=first|omega|assumption|((repeat(first|exact A1|exact uH|apply A2|apply uT));first|done|fail)|(simp;first|done|omega|fail))[]))
   refine ⟨?_, ?_, fun _ _ => trivial⟩
   ·refine y3 (by omega) (by omega) (by omega) (by omega) fun bc => ?_
    rw [Int.toNat_natCast, B0M]
    refine y3 (by omega) (by omega) (by omega) (by omega) fun bo => ?_
    rw [Int.toNat_natCast, B0M]
    (have zz:=trivial;repeat((first|clear zz|with_reducible first|refine A3 ?_|refine A5 fun _=>?_|refine A4 fun _=>?_);try simp(disch:=first|omega|assumption|((repeat(first|exact A1|exact uH|apply A2|apply uT));first|done|fail)|(simp;first|done|omega|fail))[]))
    rename_i b
    exact Sels.tw (by (repeat' constructor)) (hC' b bc bo)
   ·refine y3 (by omega) (by omega) (by omega) (by omega) fun bo => ?_
    rw [Int.toNat_natCast, B0M]
    refine y3 (by omega) (by omega) (by omega) (by omega) fun bc => ?_
    rw [Int.toNat_natCast, B0M]
    (have zz:=trivial;repeat((first|clear zz|with_reducible first|refine A3 ?_|refine A5 fun _=>?_|refine A4 fun _=>?_);try simp(disch:=first|omega|assumption|((repeat(first|exact A1|exact uH|apply A2|apply uT));first|done|fail)|(simp;first|done|omega|fail))[]))
    rename_i b
    exact Sels.tw (by (repeat' constructor)) (hC' b bc bo)
end Go.Proofs.YtjobgnabneddjaaGreat
namespace Go.Proofs.YtjobgnabneddjaaGreat
open Go
def A93 (X : Nat → Prop) (t0 : Value) (R : Value → WP) : WP :=
 A0 PR (A8 .min #[3, 3] 0 [t0, (.int .i64 8)]) fun t4 =>
 A0 PR (A8 .max #[3, 3] 0 [(.int .i64 0), t4]) fun t5 =>
 A0 PR (Instr.build 203 #[(1, t5)]) fun t6 =>
 B2 PR X (Instr.box 203 t6) fun t7 =>
 R t7
theorem B47 : A9 PR 71 := A7 Tryz.func71 (by kernel_rfl) rfl
theorem B6K {X : Nat → Prop} {t0 : Value} {R : Value → WP} {w : World} (h : A93 X t0 R w) : Fn PR X 71 #[t0] w R := C3 (args := [t0]) mixed Tryz.func71 (by kernel_rfl) h
end Go.Proofs.YtjobgnabneddjaaGreat
namespace Go.Proofs.YtjobgnabneddjaaGreat
open Go
def B2W (s : Int × Int) : List Value := [.int .i64 s.1, .int .i64 s.2]
theorem A9a (s : Int × Int) : (B2W s).length = 2 := rfl
def A9l (l : List (Int × Int)) : List (Int × Int) := l ++ List.replicate (8 - l.length) (0, 0)
def A47 (l : List (Int × Int)) : Array Value := ((A9l l).flatMap B2W ++ [Value.int .i64 (l.length : Nat)]).toArray
theorem C3d {l : List (Int × Int)} (h : l.length ≤ 8) : (A9l l).length = 8 := by unfold A9l; simp; omega
theorem B5z {l : List (Int × Int)} (h : l.length ≤ 8) : ((A9l l).flatMap B2W).length = 16 := by rw [P7 A9a, C3d h]
theorem C6L {l : List (Int × Int)} (h : l.length ≤ 8) : (A47 l)[16]? = some (.int .i64 (l.length : Nat)) := by
 unfold A47
 have := B5z h
 rw [List.getElem?_toArray, List.getElem?_append_right (by omega), this]; rfl
theorem C5U {l : List (Int × Int)} {i : Nat} (hi : i < l.length) : (A9l l)[i]? = some (l.getD i (0, 0)) := by
 unfold A9l
 rw [List.getElem?_append_left hi, List.getD_eq_getElem?_getD, List.getElem?_eq_getElem hi]; rfl
theorem C4V {l : List (Int × Int)} (h : l.length ≤ 8) {i : Nat} (hi : i < l.length) : (A47 l)[i * 2]? = some (.int .i64 (l.getD i (0, 0)).1) ∧ (A47 l)[i * 2 + 1]? = some (.int .i64 (l.getD i (0, 0)).2) := by
 have hl := B5z h
 have h0 := d8 A9a (A9l l) i 0 (by omega)
 have h1 := d8 A9a (A9l l) i 1 (by omega)
 rw [C5U hi] at h0 h1
 unfold A47
 constructor
 ·rw [List.getElem?_toArray, List.getElem?_append_left (by omega)]; simpa [B2W] using h0
 ·rw [List.getElem?_toArray, List.getElem?_append_left (by omega)]; simpa [B2W] using h1
def A7Z (b : Nat) (l : List (Int × Int)) : Res := .pt b (.cells (A47 l) 203)
def A7A (w : World) (b : Nat) (l : List (Int × Int)) : Prop := bl w b = some (.cells (A47 l) 203 (0, 0))
theorem A7A.n {w : World} {b : Nat} {l : List (Int × Int)} (h : A7A w b l) (hl : l.length ≤ 8) : w.cell? ⟨b, 16, none⟩ = some (.int .i64 (l.length : Nat)) := by rw [E5 h]; exact C6L hl
theorem A7A.at {w : World} {b : Nat} {l : List (Int × Int)} (h : A7A w b l) (hl : l.length ≤ 8) {i : Nat} (hi : i < l.length) : w.cell? ⟨b, i * 2, none⟩ = some (.int .i64 (l.getD i (0, 0)).1) ∧ w.cell? ⟨b, i * 2 + 1, none⟩ = some (.int .i64 (l.getD i (0, 0)).2) := by
 rw [E5 h, E5 h]; exact C4V hl hi
theorem A7A.ks {κ : Bool} {w w' : World} {b : Nat} {l : List (Int × Int)} {S : List Nat} (h : A7A w b l) (hk : KS κ S w w') (hS : b ∉ S) : A7A w' b l := hk.2.1 _ _ hS rfl h
theorem A7A.own {κ : Bool} {S : List Nat} {w0 w : World} {H : List Res} {b : Nat} {l : List (Int × Int)} (hw : LW κ S w0 H w) (hm : A7Z b l ∈ H) : A7A w b l := hw.pt hm
theorem C5N (w : World) (n : Nat) (hn : n ≤ 8) : Fn PR B8 71 #[.int .i64 (n : Nat)] w (Rn [] w (fun b u => u = .pointer (some ⟨b, 0, none⟩)) fun b => [A7Z b (List.replicate n (0, 0))]) := by
 refine B6K (TW.go (κ := false) (S := []) ?_)
 unfold A93
 have h1 : min ((n : Nat) : Int) 8 = n := by omega
 have h2 : max 0 ((n : Nat) : Int) = n := by omega
 (have zz:=trivial;repeat((first|clear zz|with_reducible first|refine A3 ?_|refine A5 fun _=>?_|refine A4 fun _=>?_);try simp(disch:=first|omega|assumption|((repeat(first|exact A1|exact uH|apply A2|apply uT));first|done|fail)|(simp;first|done|omega|fail))[h1, h2]))
 rename_i b
 have e : A47 (List.replicate n (0, 0)) = #[.int .i64 0, .int .i64 0, .int .i64 0, .int .i64 0, .int .i64 0, .int .i64 0, .int .i64 0, .int .i64 0, .int .i64 0, .int .i64 0, .int .i64 0, .int .i64 0, .int .i64 0, .int .i64 0, .int .i64 0, .int .i64 0, .int .i64 (n : Nat)] := by
  have h : n = 0 ∨ n = 1 ∨ n = 2 ∨ n = 3 ∨ n = 4 ∨ n = 5 ∨ n = 6 ∨ n = 7 ∨ n = 8 := by omega
  rcases h with rfl | rfl | rfl | rfl | rfl | rfl | rfl | rfl | rfl <;> rfl
 refine B1 b rfl ?_
 unfold A7Z
 rw [e]
 (repeat' constructor)
end Go.Proofs.YtjobgnabneddjaaGreat
namespace Go.Proofs.YtjobgnabneddjaaGreat
open Go
end Go.Proofs.YtjobgnabneddjaaGreat
namespace Go.Proofs.YtjobgnabneddjaaGreat
open Go
def A1b (X : Nat → Prop) (t0 t1 t2 : Value) (R : Value → WP) : WP :=
 B2 PR X (Instr.box 89 t2) fun t5 =>
 A0 PR (Instr.makeFunc (.func 110) #[] #[t5]) fun t10 =>
 B4 PR X 109 [t0, t1, t10] fun t11 =>
 A0 PR (Instr.extract t11 0) fun t12 =>
 A0 PR (Instr.extract t11 1) fun t13 =>
 R (.tuple #[t12, t13])
theorem A7g : A9 PR 48 := A7 Tryz.func48 (by kernel_rfl) rfl
theorem A8v {X : Nat → Prop} {t0 t1 t2 : Value} {R : Value → WP} {w : World} (h : A1b X t0 t1 t2 R w) : Fn PR X 48 #[t0, t1, t2] w R := C3 (args := [t0, t1, t2]) mixed Tryz.func48 (by kernel_rfl) h
def A1U (X : Nat → Prop) (t0 t1 : Value) (R : Value → WP) : WP :=
 B4 PR X 109 [t0, t1, (.func (.func 113) #[] #[])] fun t8 =>
 A0 PR (Instr.extract t8 0) fun t9 =>
 A0 PR (Instr.extract t8 1) fun t10 =>
 R (.tuple #[t9, t10])
theorem A70 : A9 PR 50 := A7 Tryz.func50 (by kernel_rfl) rfl
theorem A8m {X : Nat → Prop} {t0 t1 : Value} {R : Value → WP} {w : World} (h : A1U X t0 t1 R w) : Fn PR X 50 #[t0, t1] w R := C3 (args := [t0, t1]) mixed Tryz.func50 (by kernel_rfl) h
def A92 (X : Nat → Prop) (t0 : Value) (R : Value → WP) : WP :=
 A0 PR (A8 .min #[3, 3] 0 [t0, (.int .i64 8)]) fun t4 =>
 A0 PR (A8 .max #[3, 3] 0 [(.int .i64 0), t4]) fun t5 =>
 B2 PR X (Instr.makeSlice 229 t5 t5) fun t6 =>
 A0 PR (Instr.build 231 #[(0, t6)]) fun t7 =>
 B2 PR X (Instr.box 231 t7) fun t8 =>
 R t8
theorem B5V : A9 PR 70 := A7 Tryz.func70 (by kernel_rfl) rfl
theorem B6g {X : Nat → Prop} {t0 : Value} {R : Value → WP} {w : World} (h : A92 X t0 R w) : Fn PR X 70 #[t0] w R := C3 (args := [t0]) mixed Tryz.func70 (by kernel_rfl) h
def A1H (X : Nat → Prop) (t0 t1 : Value) (R : Value → WP) : WP :=
 A0 PR (Instr.build 263 #[]) fun t7 =>
 A0 PR (Instr.makeInterface 263 t7) fun t8 =>
 B4 PR X 150 [t0, t1, t8] fun t9 =>
 R t9
theorem A6q : A9 PR 94 := A7 Tryz.func94 (by kernel_rfl) rfl
theorem A7n {X : Nat → Prop} {t0 t1 : Value} {R : Value → WP} {w : World} (h : A1H X t0 t1 R w) : Fn PR X 94 #[t0, t1] w R := C3 (args := [t0, t1]) mixed Tryz.func94 (by kernel_rfl) h
def A1Q (X : Nat → Prop) (t0 t1 t2 : Value) (R : Value → WP) : WP :=
 jn (n := 1) (fun t6 =>
 jn (n := 1) (fun t6_1 =>
 B4 PR X 123 [t2] fun t41 =>
 B4 PR X 112 [t2] fun t43 =>
 A0 PR (Instr.build 195 #[(0, t41), (1, t43)]) fun t44 =>
 A0 PR (Instr.makeInterface 195 t44) fun t45 =>
 B4 PR X 150 [t0, t1, t45] fun t46 =>
 R t46) fun J1 =>
 A0 PR (B6 t0) fun t27 =>
 A0 PR (Instr.fieldAt 231 t27 0) fun t28 =>
 A6 PR (Instr.loadAt 229 t28) fun t29 =>
 A0 PR (Instr.indexAt 229 t29 t1) fun t31 =>
 A6 PR (Instr.loadAt 266 t31) fun t32 =>
 A0 PR (Instr.typeAssert t32 266 263 true) fun t33 =>
 A0 PR (Instr.extract t33 0) fun t34 =>
 A0 PR (Instr.extract t33 1) fun t35 =>
 B2 PR X (Instr.alloc 263 true (.tuple #[])) fun t7 =>
 C0 PR X (Instr.storeAt 263 t7 t34) <|
 A0 PR (Op.unary .not t35) fun t37 =>
 C4 t37 (
 R (.bool false)) (
 J1 t6)) fun J2 =>
 A0 PR (binOp .lss 3 t1 (.int .i64 0)) fun t10 =>
 gj t10 false (fun J => J t1) fun t12 =>
 gj t10 false (fun J => J t0) fun t13 =>
 gj t10 false (fun J => A0 PR (B6 t13) J) fun t14 =>
 gj t10 false (fun J => A0 PR (Instr.fieldAt 231 t14 0) J) fun t15 =>
 gj t10 false (fun J => A6 PR (Instr.loadAt 229 t15) J) fun t16 =>
 gj t10 false (fun J => A0 PR (A8 .len #[229] 0 [t16]) J) fun t17 =>
 gj t10 false (fun J => A0 PR (binOp .geq 3 t12 t17) J) fun t18 =>
 A0 PR (do pure (if ← asBool t10 then (.bool true) else t18)) fun t19 =>
 gj t19 false (fun J => J t2) fun t21 =>
 gj t19 false (fun J => B4 PR X 29 [t21] J) fun t22 =>
 gj t19 false (fun J => A0 PR (binOp .neq 27 t22 (.int .i64 0)) J) fun t23 =>
 A0 PR (do pure (if ← asBool t19 then (.bool true) else t23)) fun t24 =>
 C4 t24 (
 R (.bool false)) (
 J2 (.bool false))
theorem A7M : A9 PR 95 := A7 Tryz.func95 (by kernel_rfl) rfl
theorem A8d {X : Nat → Prop} {t0 t1 t2 : Value} {R : Value → WP} {w : World} (h : A1Q X t0 t1 t2 R w) : Fn PR X 95 #[t0, t1, t2] w R := C3 (args := [t0, t1, t2]) mixed Tryz.func95 (by kernel_rfl) h
def A01 (X : Nat → Prop) (t0 t1 : Value) (R : Value → WP) : WP :=
 B4 PR X 150 [t0, t1, .nilIface] fun t7 =>
 R t7
theorem A60 : A9 PR 98 := A7 Tryz.func98 (by kernel_rfl) rfl
theorem A7x {X : Nat → Prop} {t0 t1 : Value} {R : Value → WP} {w : World} (h : A01 X t0 t1 R w) : Fn PR X 98 #[t0, t1] w R := C3 (args := [t0, t1]) mixed Tryz.func98 (by kernel_rfl) h
def A3H (X : Nat → Prop) (t0 t1 t2 : Value) (R : Value → WP) : WP :=
 jn (n := 2) (fun t6 t7 =>
 A0 PR (B6 t0) fun t25 =>
 A0 PR (Instr.fieldAt 231 t25 0) fun t26 =>
 A6 PR (Instr.loadAt 229 t26) fun t27 =>
 A0 PR (Instr.indexAt 229 t27 t1) fun t29 =>
 A6 PR (Instr.loadAt 266 t29) fun t30 =>
 A0 PR (Instr.typeAssert t30 266 195 true) fun t31 =>
 A0 PR (Instr.extract t31 0) fun t32 =>
 A0 PR (Instr.extract t31 1) fun t33 =>
 B2 PR X (Instr.alloc 195 true (.tuple #[])) fun t9 =>
 C0 PR X (Instr.storeAt 195 t9 t32) <|
 jn (n := 2) (fun t6_1 t7_1 =>
 A6 PR (Instr.loadAt 195 t9) fun t38 =>
 L5 PR X t2 [t38] fun t39 =>
 R (.tuple #[t39, (.bool true)])) fun J1 =>
 A0 PR (Op.unary .not t33) fun t35 =>
 C4 t35 (
 R (.tuple #[(.int .i64 0), (.bool false)])) (
 J1 t6 t7)) fun J2 =>
 A0 PR (binOp .lss 3 t1 (.int .i64 0)) fun t12 =>
 gj t12 false (fun J => J t1) fun t14 =>
 gj t12 false (fun J => J t0) fun t15 =>
 gj t12 false (fun J => A0 PR (B6 t15) J) fun t16 =>
 gj t12 false (fun J => A0 PR (Instr.fieldAt 231 t16 0) J) fun t17 =>
 gj t12 false (fun J => A6 PR (Instr.loadAt 229 t17) J) fun t18 =>
 gj t12 false (fun J => A0 PR (A8 .len #[229] 0 [t18]) J) fun t19 =>
 gj t12 false (fun J => A0 PR (binOp .geq 3 t14 t19) J) fun t20 =>
 A0 PR (do pure (if ← asBool t12 then (.bool true) else t20)) fun t21 =>
 C4 t21 (
 R (.tuple #[(.int .i64 0), (.bool false)])) (
 J2 (.int .i64 0) (.bool false))
theorem A2a : A9 PR 109 := A7 Tryz.func109 (by kernel_rfl) rfl
theorem B0s {X : Nat → Prop} {t0 t1 t2 : Value} {R : Value → WP} {w : World} (h : A3H X t0 t1 t2 R w) : Fn PR X 109 #[t0, t1, t2] w R := C3 (args := [t0, t1, t2]) mixed Tryz.func109 (by kernel_rfl) h
def A0A (X : Nat → Prop) (t0 t1 : Value) (R : Value → WP) : WP :=
 B2 PR X (Instr.box 195 t0) fun t2 =>
 A0 PR (Instr.fieldAt 195 t2 1) fun t4 =>
 A6 PR (Instr.loadAt 193 t4) fun t5 =>
 A6 PR (Instr.loadAt 89 t1) fun t6 =>
 B4 PR X 111 [t5, t6] fun t7 =>
 R t7
theorem A4d : A9 PR 110 := A7 Tryz.func110 (by kernel_rfl) rfl
theorem A5y {X : Nat → Prop} {t0 t1 : Value} {R : Value → WP} {w : World} (h : A0A X t0 t1 R w) : Fn PR X 110 #[t0, t1] w R := C3 (args := [t0, t1]) mixed Tryz.func110 (by kernel_rfl) h
def A0D (X : Nat → Prop) (t0 : Value) (R : Value → WP) : WP :=
 B2 PR X (Instr.box 195 t0) fun t1 =>
 A0 PR (Instr.fieldAt 195 t1 0) fun t3 =>
 A6 PR (Instr.loadAt 192 t3) fun t4 =>
 A0 PR (A8 .len #[192] 0 [t4]) fun t5 =>
 R t5
theorem A4V : A9 PR 113 := A7 Tryz.func113 (by kernel_rfl) rfl
theorem A5d {X : Nat → Prop} {t0 : Value} {R : Value → WP} {w : World} (h : A0D X t0 R w) : Fn PR X 113 #[t0] w R := C3 (args := [t0]) mixed Tryz.func113 (by kernel_rfl) h
def A2q (X : Nat → Prop) (t0 t1 t2 : Value) (R : Value → WP) : WP :=
 B2 PR X (Instr.box 3 t2) fun t5 =>
 A0 PR (Instr.makeFunc (.func 181) #[] #[t5]) fun t10 =>
 B4 PR X 180 [t0, t1, t10] fun t11 =>
 A0 PR (Instr.extract t11 0) fun t12 =>
 A0 PR (Instr.extract t11 1) fun t13 =>
 R (.tuple #[t12, t13])
theorem A8x : A9 PR 134 := A7 Tryz.func134 (by kernel_rfl) rfl
theorem A9w {X : Nat → Prop} {t0 t1 t2 : Value} {R : Value → WP} {w : World} (h : A2q X t0 t1 t2 R w) : Fn PR X 134 #[t0, t1, t2] w R := C3 (args := [t0, t1, t2]) mixed Tryz.func134 (by kernel_rfl) h
def A2W (X : Nat → Prop) (t0 t1 t2 : Value) (R : Value → WP) : WP :=
 jn (n := 1) (fun t6 =>
 A0 PR (B6 t0) fun t19 =>
 A0 PR (Instr.fieldAt 231 t19 0) fun t20 =>
 A6 PR (Instr.loadAt 229 t20) fun t21 =>
 A0 PR (Instr.indexAt 229 t21 t1) fun t24 =>
 C0 PR X (Instr.storeAt 266 t24 t2) <|
 R (.bool true)) fun J1 =>
 A0 PR (binOp .lss 3 t1 (.int .i64 0)) fun t8 =>
 gj t8 false (fun J => J t1) fun t10 =>
 gj t8 false (fun J => J t0) fun t11 =>
 gj t8 false (fun J => A0 PR (B6 t11) J) fun t12 =>
 gj t8 false (fun J => A0 PR (Instr.fieldAt 231 t12 0) J) fun t13 =>
 gj t8 false (fun J => A6 PR (Instr.loadAt 229 t13) J) fun t14 =>
 gj t8 false (fun J => A0 PR (A8 .len #[229] 0 [t14]) J) fun t15 =>
 gj t8 false (fun J => A0 PR (binOp .geq 3 t10 t15) J) fun t16 =>
 A0 PR (do pure (if ← asBool t8 then (.bool true) else t16)) fun t17 =>
 C4 t17 (
 R (.bool false)) (
 J1 (.bool false))
theorem A8n : A9 PR 150 := A7 Tryz.func150 (by kernel_rfl) rfl
theorem A9b {X : Nat → Prop} {t0 t1 t2 : Value} {R : Value → WP} {w : World} (h : A2W X t0 t1 t2 R w) : Fn PR X 150 #[t0, t1, t2] w R := C3 (args := [t0, t1, t2]) mixed Tryz.func150 (by kernel_rfl) h
def A2d (X : Nat → Prop) (t0 t1 t2 : Value) (R : Value → WP) : WP :=
 jn (n := 2) (fun t6 t7 =>
 A0 PR (B6 t0) fun t25 =>
 A0 PR (Instr.fieldAt 231 t25 0) fun t26 =>
 A6 PR (Instr.loadAt 229 t26) fun t27 =>
 A0 PR (Instr.indexAt 229 t27 t1) fun t29 =>
 A6 PR (Instr.loadAt 266 t29) fun t30 =>
 A0 PR (Instr.typeAssert t30 266 195 true) fun t31 =>
 A0 PR (Instr.extract t31 0) fun t32 =>
 A0 PR (Instr.extract t31 1) fun t33 =>
 B2 PR X (Instr.alloc 195 true (.tuple #[])) fun t9 =>
 C0 PR X (Instr.storeAt 195 t9 t32) <|
 jn (n := 2) (fun t6_1 t7_1 =>
 A6 PR (Instr.loadAt 195 t9) fun t38 =>
 L5 PR X t2 [t38] fun t39 =>
 R (.tuple #[t39, (.bool true)])) fun J1 =>
 A0 PR (Op.unary .not t33) fun t35 =>
 C4 t35 (
 R (.tuple #[(.bool false), (.bool false)])) (
 J1 t6 t7)) fun J2 =>
 A0 PR (binOp .lss 3 t1 (.int .i64 0)) fun t12 =>
 gj t12 false (fun J => J t1) fun t14 =>
 gj t12 false (fun J => J t0) fun t15 =>
 gj t12 false (fun J => A0 PR (B6 t15) J) fun t16 =>
 gj t12 false (fun J => A0 PR (Instr.fieldAt 231 t16 0) J) fun t17 =>
 gj t12 false (fun J => A6 PR (Instr.loadAt 229 t17) J) fun t18 =>
 gj t12 false (fun J => A0 PR (A8 .len #[229] 0 [t18]) J) fun t19 =>
 gj t12 false (fun J => A0 PR (binOp .geq 3 t14 t19) J) fun t20 =>
 A0 PR (do pure (if ← asBool t12 then (.bool true) else t20)) fun t21 =>
 C4 t21 (
 R (.tuple #[(.bool false), (.bool false)])) (
 J2 (.bool false) (.bool false))
theorem A8W : A9 PR 180 := A7 Tryz.func180 (by kernel_rfl) rfl
theorem B0D {X : Nat → Prop} {t0 t1 t2 : Value} {R : Value → WP} {w : World} (h : A2d X t0 t1 t2 R w) : Fn PR X 180 #[t0, t1, t2] w R := C3 (args := [t0, t1, t2]) mixed Tryz.func180 (by kernel_rfl) h
def A0g (X : Nat → Prop) (t0 t1 : Value) (R : Value → WP) : WP :=
 B2 PR X (Instr.box 195 t0) fun t2 =>
 A0 PR (Instr.fieldAt 195 t2 0) fun t4 =>
 A6 PR (Instr.loadAt 192 t4) fun t5 =>
 A6 PR (Instr.loadAt 3 t1) fun t6 =>
 B4 PR X 182 [t5, t6] fun t7 =>
 R t7
theorem A5v : A9 PR 181 := A7 Tryz.func181 (by kernel_rfl) rfl
theorem A6C {X : Nat → Prop} {t0 t1 : Value} {R : Value → WP} {w : World} (h : A0g X t0 t1 R w) : Fn PR X 181 #[t0, t1] w R := C3 (args := [t0, t1]) mixed Tryz.func181 (by kernel_rfl) h
def A0a (X : Nat → Prop) (t0 t1 : Value) (R : Value → WP) : WP :=
 B4 PR X 237 [t0, t1] fun t7 =>
 A0 PR (binOp .geq 3 t7 (.int .i64 0)) fun t8 =>
 R t8
theorem A5w : A9 PR 182 := A7 Tryz.func182 (by kernel_rfl) rfl
theorem A6Y {X : Nat → Prop} {t0 t1 : Value} {R : Value → WP} {w : World} (h : A0a X t0 t1 R w) : Fn PR X 182 #[t0, t1] w R := C3 (args := [t0, t1]) mixed Tryz.func182 (by kernel_rfl) h
end Go.Proofs.YtjobgnabneddjaaGreat
namespace Go.Proofs.YtjobgnabneddjaaGreat
open Go
section
variable {P : Program} {t x : TypeId} {d : TypeDesc} {n m : Nat} {z : Value} {K : Value → WP}
theorem B7U (h : TI P t d n m z) (hd : ∀ ms, d ≠ .interface ms) : A0 P (Instr.typeAssert .nilIface x t true) K = K (.tuple #[z, .bool false]) :=
 F1 (fun w => by
  simp only [Instr.typeAssert, Sem.run_bind, h.run_und, Result.andThen_ok]
  cases d <;> first | (simp [h.run_zero]; done) | exact absurd rfl (hd _)) K
theorem B6D (h : TI P t d n m z) (hd : ∀ ms, d ≠ .interface ms) (v : Value) : A0 P (Instr.typeAssert (.iface t v) x t true) K = K (.tuple #[v, .bool true]) :=
 F1 (fun w => by
  simp only [Instr.typeAssert, Sem.run_bind, h.run_und, Result.andThen_ok]
  cases d <;> first | (simp; done) | exact absurd rfl (hd _)) K
theorem B8m (h : TI P t d n m z) (hd : ∀ ms, d ≠ .interface ms) {u : TypeId} (hu : u ≠ t) (v : Value) : A0 P (Instr.typeAssert (.iface u v) x t true) K = K (.tuple #[z, .bool false]) :=
 F1 (fun w => by
  simp only [Instr.typeAssert, Sem.run_bind, h.run_und, Result.andThen_ok]
  cases d <;> first | (simp [hu, h.run_zero]; done) | exact absurd rfl (hd _)) K
end
@[simp] theorem C8n (x : TypeId) (K : Value → WP) : A0 PR (Instr.typeAssert .nilIface x 263 true) K = K (.tuple #[.agg #[], .bool false]) := B7U B0b (by intro ms h; cases h)
@[simp] theorem C91 (x : TypeId) (v : Value) (K : Value → WP) : A0 PR (Instr.typeAssert (.iface 263 v) x 263 true) K = K (.tuple #[v, .bool true]) := B6D B0b (by intro ms h; cases h) v
@[simp] theorem C8w (x : TypeId) (v : Value) (K : Value → WP) : A0 PR (Instr.typeAssert (.iface 195 v) x 263 true) K = K (.tuple #[.agg #[], .bool false]) := B8m B0b (by intro ms h; cases h) (by decide) v
@[simp] theorem C8Q (x : TypeId) (K : Value → WP) : A0 PR (Instr.typeAssert .nilIface x 195 true) K = K (.tuple #[.agg #[.slice none 0 0, .slice none 0 0], .bool false]) := B7U A4m (by intro ms h; cases h)
@[simp] theorem C82 (x : TypeId) (v : Value) (K : Value → WP) : A0 PR (Instr.typeAssert (.iface 195 v) x 195 true) K = K (.tuple #[v, .bool true]) := B6D A4m (by intro ms h; cases h) v
@[simp] theorem D0A (x : TypeId) (v : Value) (K : Value → WP) : A0 PR (Instr.typeAssert (.iface 263 v) x 195 true) K = K (.tuple #[.agg #[.slice none 0 0, .slice none 0 0], .bool false]) := B8m A4m (by intro ms h; cases h) (by decide) v
inductive SlH where
 | no
 | bld
 | rdy (p : List E6) (pv rv : Value)
def SlH.val : SlH → Value
 | .no => .nilIface
 | .bld => .iface 263 (.agg #[])
 | .rdy _ pv rv => .iface 195 (.agg #[pv, rv])
def SlH.sp : SlH → SlV
 | .no => .no
 | .bld => .bld
 | .rdy p _ _ => .rdy p
def SlH.fo : SlH → List Nat
 | .rdy _ pv rv => L7 pv ++ L7 rv
 | _ => []
def B2j (pv : Value) (p : List E6) : Res := .own 155 2 pv p.length (p.flatMap J0)
def B2l (rv : Value) (p : List E6) : Res := .own 290 2 rv (M9 (G4 p)).length ((M9 (G4 p)).flatMap G8)
def SlH.ok (w : World) : SlH → Prop
 | .rdy p pv rv => (B2j pv p).holds w ∧ (B2l rv p).holds w ∧ p.length ≤ 32
 | _ => True
theorem SlH.keep {w w' : World} {s : SlH} (hk : ∀ b ∈ s.fo, ∀ o, B33 o = true → bl w b = some o → bl w' b = some o) (h : s.ok w) : s.ok w' := by
 cases s with
 | no => trivial
 | bld => trivial
 | rdy p pv rv =>
  refine ⟨Res.stable (fun b hb => hk b ?_) h.1, Res.stable (fun b hb => hk b ?_) h.2.1, h.2.2⟩
  ·exact List.mem_append_left _ hb
  ·exact List.mem_append_right _ hb
def A0E (ls : List SlH) : List Nat := ls.flatMap SlH.fo
def A7U (ls : List SlH) (w : World) : Prop := ∀ s ∈ ls, s.ok w
def u3 (ls : List SlH) : Res := .ab (A0E ls) (A7U ls) fun w w' hk h s hs => SlH.keep (fun b hb => hk b (by rw [A0E, List.mem_flatMap]; exact ⟨s, hs, hb⟩)) (h s hs)
def S8 (ls : List SlH) (i : Int) (x : SlH) : List SlH := if 0 ≤ i ∧ i < ls.length then ls.set i.toNat x else ls
theorem B1a (ls : List SlH) (i : Int) (x : SlH) : (S8 ls i x).length = ls.length := by unfold S8; split <;> simp
theorem B0e (ls : List SlH) (i : Int) (x : SlH) : (S8 ls i x).map SlH.sp = l5 (ls.map SlH.sp) i x.sp := by
 unfold S8 l5
 rw [List.length_map]
 split
 ·rw [List.map_set]
 ·rfl
theorem A7m {ls : List SlH} {i : Int} {x s : SlH} (h : s ∈ S8 ls i x) : s ∈ ls ∨ s = x := by
 unfold S8 at h
 split at h
 ·exact List.mem_or_eq_of_mem_set h
 ·exact Or.inl h
def G3 (b : Nat) (sv : Value) (ls : List SlH) : List Res := [.pt b (.cells #[sv] 231), .own 266 1 sv ls.length (ls.map SlH.val), u3 ls]
section
variable {κ : Bool} {S : List Nat} {w0 w : World} {H Hk Hc : List Res} {K0 : WP} {ls : List SlH}
theorem B83 {i : Int} {x : SlH} (hx : x.fo = [] ∧ ∀ w, x.ok w) (hp : Part [u3 ls] H Hk) (h : TW κ S w0 (u3 (S8 ls i x) :: Hk) K0) : TW κ S w0 H K0 := by
 refine A31 (r := u3 (S8 ls i x)) hp (fun w hh => (fun s hs => ?_ : A7U (S8 ls i x) w)) (fun b hb => ?_) h
 ·rcases A7m hs with hs | rfl
  ·exact (hh _ (List.mem_cons_self ..) : A7U ls w) s hs
  ·exact hx.2 w
 ·have hb' : b ∈ A0E (S8 ls i x) := hb
  rw [A0E, List.mem_flatMap] at hb'
  obtain ⟨s, hs, hbs⟩ := hb'
  rcases A7m hs with hs | rfl
  ·exact N9.2 ⟨u3 ls, by simp, by show b ∈ A0E ls; rw [A0E, List.mem_flatMap]; exact ⟨s, hs, hbs⟩⟩
  ·rw [hx.1] at hbs; cases hbs
theorem C5u {i : Int} {p : List E6} {pv rv : Value} (hl : p.length ≤ 32) (hp : Part [B2j pv p, B2l rv p, u3 ls] H Hk) (h : TW κ S w0 (u3 (S8 ls i (.rdy p pv rv)) :: Hk) K0) : TW κ S w0 H K0 := by
 refine A31 (r := u3 (S8 ls i (.rdy p pv rv))) hp (fun w hh => (fun s hs => ?_ : A7U (S8 ls i (.rdy p pv rv)) w)) (fun b hb => ?_) h
 ·rcases A7m hs with hs | rfl
  ·exact (hh (u3 ls) (by simp) : A7U ls w) s hs
  ·exact ⟨hh (B2j pv p) (by simp), hh (B2l rv p) (by simp), hl⟩
 ·have hb' : b ∈ A0E (S8 ls i (.rdy p pv rv)) := hb
  rw [A0E, List.mem_flatMap] at hb'
  obtain ⟨s, hs, hbs⟩ := hb'
  rcases A7m hs with hs | rfl
  ·exact N9.2 ⟨u3 ls, by simp, by show b ∈ A0E ls; rw [A0E, List.mem_flatMap]; exact ⟨s, hs, hbs⟩⟩
  ·rcases List.mem_append.1 hbs with hbs | hbs
   ·exact N9.2 ⟨B2j pv p, by simp, hbs⟩
   ·exact N9.2 ⟨B2l rv p, by simp, hbs⟩
end
theorem C5s (w : World) (b : Nat) (sv : Value) (xs : List Value) (i : Int) (x : Value) (hx : plain x = true) (hn : xs.length ≤ 1000) (hw : LW false (B5 [.pt b (.cells #[sv] 231), .own 266 1 sv xs.length xs]) w [.pt b (.cells #[sv] 231), .own 266 1 sv xs.length xs] w) :
  Fn PR B8 150 #[.pointer (some ⟨b, 0, none⟩), .int .i64 i, x] w (Rn (B5 [.pt b (.cells #[sv] 231), .own 266 1 sv xs.length xs]) w (fun (_ : Unit) u => A39 u) fun _ => [.pt b (.cells #[sv] 231), .own 266 1 sv xs.length (if 0 ≤ i ∧ i < xs.length then xs.set i.toNat x else xs)]) := by
 refine A9b (TW.goH (κ := false) ?_ hw)
 unfold A2W
 refine T6 (e := 266) (k := 1) (v := sv) (q := xs.length) (xs := xs) (by (repeat constructor)) fun a c e => ?_
 subst e
 by_cases c1 : i < 0
 ·(have zz:=trivial;repeat((first|clear zz|with_reducible first|refine A3 ?_|refine A5 fun _=>?_|refine A4 fun _=>?_);try simp(disch:=first|omega|assumption|((repeat(first|exact A1|exact uH|apply A2|apply uT));first|done|fail)|(simp;first|done|omega|fail))[c1]))
  rw [if_neg (by omega)]
  exact B1 () (Y8 _) (by (repeat' constructor))
 by_cases c2 : (xs.length : Int) ≤ i
 ·(have zz:=trivial;repeat((first|clear zz|with_reducible first|refine A3 ?_|refine A5 fun _=>?_|refine A4 fun _=>?_);try simp(disch:=first|omega|assumption|((repeat(first|exact A1|exact uH|apply A2|apply uT));first|done|fail)|(simp;first|done|omega|fail))[c1, c2]))
  rw [if_neg (by omega)]
  exact B1 () (Y8 _) (by (repeat' constructor))
 obtain ⟨j, rfl⟩ : ∃ j : Nat, i = j := ⟨i.toNat, by omega⟩
 have hj : j < xs.length := by omega
 have hj2 : ¬ xs.length ≤ j := by omega
 rw [if_pos (by omega)]
 refine s9 (e := 266) (k := 1) (v := .slice a xs.length c) (q := xs.length) (xs := xs) (by (repeat constructor)) (by omega) fun g gc hg => ?_
 cases hg
 (have zz:=trivial;repeat((first|clear zz|with_reducible first|refine A3 ?_|refine A5 fun _=>?_|refine A4 fun _=>?_);try simp(disch:=first|omega|assumption|((repeat(first|exact A1|exact uH|apply A2|apply uT));first|done|fail)|(simp;first|done|omega|fail))[c1, c2, hj, hj2]))
 have hxc : x.cells = #[x] := by cases x <;> first | rfl | cases hx
 refine U0 (by (repeat constructor)) (by rw [hxc]; rfl) (by omega) (by rw [hxc]; simpa using hx) ?_
 have e : Y5 xs j x.cells.toList = xs.set j x := by
  rw [hxc, List.set_eq_take_append_cons_drop, if_pos hj]; simp [Y5]
 refine B1 () (Y8 _) ?_
 rw [Int.toNat_natCast, ← e]
 (repeat' constructor)
theorem C6V (ls : List SlH) (i : Int) (x : SlH) : (if 0 ≤ i ∧ i < (ls.map SlH.val).length then (ls.map SlH.val).set i.toNat x.val else ls.map SlH.val) = (S8 ls i x).map SlH.val := by
 unfold S8
 rw [List.length_map]
 split
 ·rw [List.map_set]
 ·rfl
theorem SlH.plain (x : SlH) : Go.Proofs.YtjobgnabneddjaaGreat.plain x.val = true := by cases x <;> rfl
theorem A96 {κ : Bool} {X : Nat → Prop} {S : List Nat} {w0 : World} {H Hk : List Res} {K : Value → WP} {b : Nat} {sv : Value} {ls : List SlH} {i : Int} {x : SlH} (hl : ls.length ≤ 1000) (hp : Part [.pt b (.cells #[sv] 231), .own 266 1 sv ls.length (ls.map SlH.val)] H Hk)
  (hK : ∀ u, A39 u → TW κ S w0 (.pt b (.cells #[sv] 231) :: .own 266 1 sv (S8 ls i x).length ((S8 ls i x).map SlH.val) :: Hk) (K u)) :
  TW κ S w0 H (B4 PR X 150 [.pointer (some ⟨b, 0, none⟩), .int .i64 i, x.val] K) := by
 have hlm : (ls.map SlH.val).length = ls.length := List.length_map ..
 refine C6 (Hc := [.pt b (.cells #[sv] 231), .own 266 1 sv ls.length (ls.map SlH.val)]) A8n (fun w' _ hs => ?_) hp (fun _ u hu => ?_) (α := Unit) (φ := fun _ u => A39 u) (Hn := fun _ => [.pt b (.cells #[sv] 231), .own 266 1 sv (S8 ls i x).length ((S8 ls i x).map SlH.val)])
 ·have := C5s w' b sv (ls.map SlH.val) i x.val x.plain (by rw [hlm]; exact hl) (by rw [hlm]; exact hs)
  rw [C6V, hlm] at this
  rw [B1a]
  exact this
 ·exact hK u hu
theorem C2a (w : World) (b : Nat) (sv : Value) (ls : List SlH) (i : Int) (hl : ls.length ≤ 8) (hw : LW false (B5 (G3 b sv ls)) w (G3 b sv ls) w) :
  Fn PR B8 94 #[.pointer (some ⟨b, 0, none⟩), .int .i64 i] w (Rn (B5 (G3 b sv ls)) w (fun (_ : Unit) u => A39 u) fun _ => G3 b sv (S8 ls i .bld)) := by
 refine A7n (TW.goH (κ := false) ?_ hw)
 unfold A1H
 simp only [G3]
 (have zz:=trivial;repeat((first|clear zz|with_reducible first|refine A3 ?_|refine A5 fun _=>?_|refine A4 fun _=>?_);try simp(disch:=first|omega|assumption|((repeat(first|exact A1|exact uH|apply A2|apply uT));first|done|fail)|(simp;first|done|omega|fail))[]))
 refine A96 (x := .bld) (ls := ls) (sv := sv) (by omega) (by (repeat' constructor)) fun u hu => ?_
 refine B83 (ls := ls) (i := i) (x := .bld) ⟨rfl, fun _ => trivial⟩ (by (repeat' constructor)) ?_
 exact B1 () hu (by (repeat' constructor))
theorem C2M (w : World) (b : Nat) (sv : Value) (ls : List SlH) (i : Int) (hl : ls.length ≤ 8) (hw : LW false (B5 (G3 b sv ls)) w (G3 b sv ls) w) :
  Fn PR B8 98 #[.pointer (some ⟨b, 0, none⟩), .int .i64 i] w (Rn (B5 (G3 b sv ls)) w (fun (_ : Unit) u => A39 u) fun _ => G3 b sv (S8 ls i .no)) := by
 refine A7x (TW.goH (κ := false) ?_ hw)
 unfold A01
 simp only [G3]
 (have zz:=trivial;repeat((first|clear zz|with_reducible first|refine A3 ?_|refine A5 fun _=>?_|refine A4 fun _=>?_);try simp(disch:=first|omega|assumption|((repeat(first|exact A1|exact uH|apply A2|apply uT));first|done|fail)|(simp;first|done|omega|fail))[]))
 refine A96 (x := .no) (ls := ls) (sv := sv) (by omega) (by (repeat' constructor)) fun u hu => ?_
 refine B83 (ls := ls) (i := i) (x := .no) ⟨rfl, fun _ => trivial⟩ (by (repeat' constructor)) ?_
 exact B1 () hu (by (repeat' constructor))
end Go.Proofs.YtjobgnabneddjaaGreat
namespace Go.Proofs.YtjobgnabneddjaaGreat
open Go
theorem C5d {κ : Bool} {H : List Res} {r : Res} (h : r ∈ H) : Up r r H H := by
 induction H with
 | nil => cases h
 | cons a H ih =>
  rcases List.mem_cons.1 h with rfl | h
  ·exact .here
  ·exact .there (ih h)
theorem C0W {κ : Bool} {X : Nat → Prop} {S : List Nat} {w0 : World} {H : List Res} {K0 : WP} {b : Nat} (hm : Res.pt b (.cells #[] 263) ∈ H) (hK : TW κ S w0 H K0) :
  TW κ S w0 H (C0 PR X (Instr.storeAt 263 (.pointer (some ⟨b, 0, none⟩)) (.agg #[])) K0) := by
 have h := D20 (κ := κ) (X := X) (S := S) (w0 := w0) (K0 := K0) (t := 263) (v := .agg #[]) (b := b) (o := 0) (c := #[]) (T := 263) rfl (C5d (κ := κ) hm) (by simp) rfl
 exact h ▸ hK
def A14 (ls : List SlH) (i : Int) : SlH := if 0 ≤ i ∧ i < ls.length then ls.getD i.toNat .no else .no
theorem B3u (ls : List SlH) (i : Int) : H4 (ls.map SlH.sp) i = (A14 ls i).sp := by
 unfold H4 A14
 rw [List.length_map]
 split
 ·rename_i h
  rw [List.getD_eq_getElem?_getD, List.getD_eq_getElem?_getD, List.getElem?_map, List.getElem?_eq_getElem (by omega)]; rfl
 ·rfl
theorem B3n {ls : List SlH} {i : Nat} (h : i < ls.length) : (ls.map SlH.val)[i]? = some (ls.getD i .no).val := by
 rw [List.getElem?_map, List.getD_eq_getElem?_getD, List.getElem?_eq_getElem h]; rfl
theorem C3k {l : List SlV} {i : Int} {p : List E6} (h : H4 l i ≠ .bld ∨ K4 p ≠ 0) : s8 l i p = l := by
 unfold s8
 cases hg : H4 l i with
 | no => rfl
 | rdy q => rfl
 | bld =>
  rcases h with h | h
  ·exact absurd hg h
  ·simp [h]
set_option maxHeartbeats 400000 in
theorem C3y (w : World) (b : Nat) (sv : Value) (ls : List SlH) (i : Int) (pv : Value) (p : List E6) (hl : ls.length ≤ 8) (hp : p.length ≤ 1000) (hv : ∀ w', KS false (B5 (G3 b sv ls)) w w' → G1 w' pv p.length (p.flatMap J0)) (hw : LW false (B5 (G3 b sv ls)) w (G3 b sv ls) w) :
  Fn PR B8 95 #[.pointer (some ⟨b, 0, none⟩), .int .i64 i, pv] w (Rn (B5 (G3 b sv ls)) w (fun (ls' : List SlH) u => A39 u ∧ ls'.length = ls.length ∧ ls'.map SlH.sp = s8 (ls.map SlH.sp) i p) fun ls' => G3 b sv ls') := by
 refine A8d (TW.goH (κ := false) ?_ hw)
 unfold A1Q
 refine T6 (e := 266) (k := 1) (v := sv) (q := ls.length) (xs := ls.map SlH.val) (by simp only [G3]; (repeat constructor)) fun a c e => ?_
 subst e
 have no : H4 (ls.map SlH.sp) i ≠ .bld ∨ K4 p ≠ 0 → ∀ u, A39 u → A39 u ∧ ls.length = ls.length ∧ ls.map SlH.sp = s8 (ls.map SlH.sp) i p := fun h u hu => ⟨hu, rfl, (C3k h).symm⟩
 simp only [G3] at hv ⊢
 by_cases c1 : i < 0
 ·(have zz:=trivial;repeat((first|clear zz|with_reducible first|refine A3 ?_|refine A5 fun _=>?_|refine A4 fun _=>?_);try simp(disch:=first|omega|assumption|((repeat(first|exact A1|exact uH|apply A2|apply uT));first|done|fail)|(simp;first|done|omega|fail))[c1]))
  exact B1 ls (no (Or.inl (by unfold H4; rw [if_neg (by omega)]; simp)) _ (Y8 _)) (by (repeat' constructor))
 by_cases c2 : (ls.length : Int) ≤ i
 ·(have zz:=trivial;repeat((first|clear zz|with_reducible first|refine A3 ?_|refine A5 fun _=>?_|refine A4 fun _=>?_);try simp(disch:=first|omega|assumption|((repeat(first|exact A1|exact uH|apply A2|apply uT));first|done|fail)|(simp;first|done|omega|fail))[c1, c2]))
  exact B1 ls (no (Or.inl (by unfold H4; rw [if_neg (by simp; omega)]; simp)) _ (Y8 _)) (by (repeat' constructor))
 obtain ⟨j, rfl⟩ : ∃ j : Nat, i = j := ⟨i.toNat, by omega⟩
 have hj : j < ls.length := by omega
 have hj2 : ¬ ls.length ≤ j := by omega
 refine s9 (e := 266) (k := 1) (v := .slice a ls.length c) (q := ls.length) (xs := ls.map SlH.val) (by (repeat constructor)) (by omega) fun g gc hg => ?_
 cases hg
 (have zz:=trivial;repeat((first|clear zz|with_reducible first|refine A3 ?_|refine A5 fun _=>?_|refine A4 fun _=>?_);try simp(disch:=first|omega|assumption|((repeat(first|exact A1|exact uH|apply A2|apply uT));first|done|fail)|(simp;first|done|omega|fail))[c1, c2, hj, hj2]))
 refine C1 A6N (fun w' hw' => A9F w' pv p (by omega) (hv w' hw'.ks)) ?_
 by_cases c3 : K4 p = 0
 case neg =>
  (have zz:=trivial;repeat((first|clear zz|with_reducible first|refine A3 ?_|refine A5 fun _=>?_|refine A4 fun _=>?_);try simp(disch:=first|omega|assumption|((repeat(first|exact A1|exact uH|apply A2|apply uT));first|done|fail)|(simp;first|done|omega|fail))[c3]))
  exact B1 ls (no (Or.inr c3) _ (Y8 _)) (by (repeat' constructor))
 have hat := B3n hj
 have hget : H4 (ls.map SlH.sp) j = (ls.getD j .no).sp := by rw [B3u]; unfold A14; rw [if_pos (by omega), Int.toNat_natCast]
 obtain ⟨x, hx⟩ : ∃ x, x = ls.getD j .no := ⟨_, rfl⟩
 rw [← hx] at hat hget
 have hatt := (List.getElem?_eq_some_iff.1 hat).2
 cases x with
 | no =>
  simp only [SlH.val] at hat hatt
  (have zz:=trivial;repeat((first|clear zz|with_reducible first|refine A3 ?_|refine A5 fun _=>?_|refine A4 fun _=>?_);try simp(disch:=first|omega|assumption|((repeat(first|exact A1|exact uH|apply A2|apply uT));first|done|fail)|(simp;first|done|omega|fail))[c3, hat, hatt, hj, hj2]))
  refine C0W (by (repeat constructor)) ?_
  (have zz:=trivial;repeat((first|clear zz|with_reducible first|refine A3 ?_|refine A5 fun _=>?_|refine A4 fun _=>?_);try simp(disch:=first|omega|assumption|((repeat(first|exact A1|exact uH|apply A2|apply uT));first|done|fail)|(simp;first|done|omega|fail))[]))
  exact B1 ls (no (Or.inl (by rw [hget]; simp [SlH.sp])) _ (Y8 _)) (by (repeat' constructor))
 | rdy q qv rv =>
  simp only [SlH.val] at hat hatt
  (have zz:=trivial;repeat((first|clear zz|with_reducible first|refine A3 ?_|refine A5 fun _=>?_|refine A4 fun _=>?_);try simp(disch:=first|omega|assumption|((repeat(first|exact A1|exact uH|apply A2|apply uT));first|done|fail)|(simp;first|done|omega|fail))[c3, hat, hatt, hj, hj2]))
  refine C0W (by (repeat constructor)) ?_
  (have zz:=trivial;repeat((first|clear zz|with_reducible first|refine A3 ?_|refine A5 fun _=>?_|refine A4 fun _=>?_);try simp(disch:=first|omega|assumption|((repeat(first|exact A1|exact uH|apply A2|apply uT));first|done|fail)|(simp;first|done|omega|fail))[]))
  exact B1 ls (no (Or.inl (by rw [hget]; simp [SlH.sp])) _ (Y8 _)) (by (repeat' constructor))
 | bld =>
  simp only [SlH.val] at hat hatt
  have hp32 : p.length ≤ 32 := by
   unfold K4 at c3
   by_cases h : Z3 p && decide (p.length ≤ 32)
   ·simp at h; exact h.2
   ·rw [if_neg h] at c3; omega
  (have zz:=trivial;repeat((first|clear zz|with_reducible first|refine A3 ?_|refine A5 fun _=>?_|refine A4 fun _=>?_);try simp(disch:=first|omega|assumption|((repeat(first|exact A1|exact uH|apply A2|apply uT));first|done|fail)|(simp;first|done|omega|fail))[c3, hat, hatt, hj, hj2]))
  refine C0W (by (repeat constructor)) ?_
  (have zz:=trivial;repeat((first|clear zz|with_reducible first|refine A3 ?_|refine A5 fun _=>?_|refine A4 fun _=>?_);try simp(disch:=first|omega|assumption|((repeat(first|exact A1|exact uH|apply A2|apply uT));first|done|fail)|(simp;first|done|omega|fail))[]))
  refine H2 l4 (fun w' hw' => C1l w' pv p.length (p.flatMap J0) (by omega) (P7 (k := 2) (fun _ => rfl) p) (B87 p) (hv w' hw'.ks)) ?_
  rintro _ qv rfl
  refine H2 B5T (fun w' hw' => D0H w' pv p (by omega) (hv w' hw'.ks)) ?_
  rintro _ rv rfl
  refine A38 (e := 155) (k := 2) (v := qv) (q := p.length) (xs := p.flatMap J0) (by (repeat constructor)) fun hq1 hq2 hq3 => ?_
  refine A38 (e := 290) (k := 2) (v := rv) (q := (M9 (G4 p)).length) (xs := (M9 (G4 p)).flatMap G8) (by (repeat constructor)) fun hr1 hr2 hr3 => ?_
  (have zz:=trivial;repeat((first|clear zz|with_reducible first|refine A3 ?_|refine A5 fun _=>?_|refine A4 fun _=>?_);try simp(disch:=first|omega|assumption|((repeat(first|exact A1|exact uH|apply A2|apply uT));first|done|fail)|(simp;first|done|omega|fail))[hq1, hq2, hr1, hr2]))
  refine A96 (x := .rdy p qv rv) (ls := ls) (by omega) (by (repeat' constructor)) fun u hu => ?_
  refine C5u (ls := ls) (i := (j : Nat)) (p := p) (pv := qv) (rv := rv) hp32 (by unfold B2j B2l; (repeat' constructor)) ?_
  refine B1 (S8 ls (j : Nat) (.rdy p qv rv)) ⟨hu, B1a _ _ _, ?_⟩ (by (repeat' constructor))
  rw [B0e]
  unfold s8
  rw [hget]
  show l5 _ _ (.rdy p) = (if K4 p = 0 then l5 _ _ (.rdy p) else _)
  rw [if_pos c3]
def SlH.rd (w : World) : SlH → Prop
 | .rdy p pv rv => G1 w pv p.length (p.flatMap J0) ∧ G1 w rv (M9 (G4 p)).length ((M9 (G4 p)).flatMap G8) ∧ p.length ≤ 32
 | _ => True
structure SlAt (w : World) (b : Nat) (sv : Value) (ls : List SlH) : Prop where
 blk : bl w b = some (.cells #[sv] 231 (0, 0))
 rd : G1 w sv ls.length (ls.map SlH.val)
 all : ∀ s ∈ ls, s.rd w
theorem SlAt.own {κ : Bool} {S : List Nat} {w0 w : World} {H : List Res} {b : Nat} {sv : Value} {ls : List SlH} (hw : LW κ S w0 H w) (h1 : Res.pt b (.cells #[sv] 231) ∈ H) (h2 : Res.own 266 1 sv ls.length (ls.map SlH.val) ∈ H) (h3 : u3 ls ∈ H) : SlAt w b sv ls := by
 refine ⟨hw.pt h1, P6.own (e := 266) (k := 1) h2 w hw, fun s hs => ?_⟩
 have := (hw.hold _ h3 : A7U ls w) s hs
 cases s with
 | no => trivial
 | bld => trivial
 | rdy p pv rv => exact ⟨P3.rd this.1, P3.rd this.2.1, this.2.2⟩
theorem SlAt.at {w : World} {b : Nat} {sv : Value} {ls : List SlH} (h : SlAt w b sv ls) {i : Nat} (hi : i < ls.length) : (ls.getD i .no).rd w := by
 apply h.all
 rw [List.getD_eq_getElem?_getD, List.getElem?_eq_getElem hi]
 exact List.getElem_mem hi
def A2Q (l : List SlH) (i : Int) (f : List E6 → Int) : Int × Bool :=
 match A14 l i with
 | .rdy p _ _ => (f p, true)
 | _ => (0, false)
theorem B80 (w : World) (b : Nat) (sv : Value) (ls : List SlH) (i : Int) (g : FuncId) (cap : List Value) (f : List E6 → Int) (hl : ls.length ≤ 8) (h : SlAt w b sv ls) (he : A9 PR g)
  (hg : ∀ p pv rv, (SlH.rdy p pv rv).rd w → ∀ w', KS false [] w w' → Fn PR B8 g (Value.agg #[pv, rv] :: cap).toArray w' (fun u w'' => u = .int .i64 (f p) ∧ C7 [] w' w'')) :
  Fn PR B8 109 #[.pointer (some ⟨b, 0, none⟩), .int .i64 i, .func (.func g) #[] cap.toArray] w (fun u w' => u = .tuple #[.int .i64 (A2Q ls i f).1, .bool (A2Q ls i f).2] ∧ C7 [] w w') := by
 refine Fn.pure (B0s (TW.go (κ := false) (S := []) ?_))
 unfold A3H
 obtain ⟨a, c, rfl, hr⟩ := h.rd.form
 have h0 : w.cell? ⟨b, 0, none⟩ = some (.slice a ls.length c) := by rw [E5 h.blk]; rfl
 by_cases c1 : i < 0
 ·have e : A2Q ls i f = (0, false) := by unfold A2Q A14; rw [if_neg (by omega)]
  rw [e]
  (have zz:=trivial;repeat((first|clear zz|with_reducible first|refine A3 ?_|refine A5 fun _=>?_|refine A4 fun _=>?_);try simp(disch:=first|omega|assumption|((repeat(first|exact A1|exact uH|apply A2|apply uT));first|done|fail)|(simp;first|done|omega|fail))[c1]))
  exact B0 rfl
 by_cases c2 : (ls.length : Int) ≤ i
 ·have e : A2Q ls i f = (0, false) := by unfold A2Q A14; rw [if_neg (by omega)]
  rw [e]
  (have zz:=trivial;repeat((first|clear zz|with_reducible first|refine A3 ?_|refine A5 fun _=>?_|refine A4 fun _=>?_);try simp(disch:=first|omega|assumption|((repeat(first|exact A1|exact uH|apply A2|apply uT));first|done|fail)|(simp;first|done|omega|fail))[c1, c2, h0]))
  exact B0 rfl
 obtain ⟨j, rfl⟩ : ∃ j : Nat, i = j := ⟨i.toNat, by omega⟩
 have hj : j < ls.length := by omega
 have hj2 : ¬ ls.length ≤ j := by omega
 obtain ⟨gb, o, rfl, hrow⟩ := hr (by omega)
 have hrd := h.at hj
 have hx : w.cell? ⟨gb, o + j, none⟩ = some (ls.getD j .no).val := hrow.get (B3n hj)
 have e : A2Q ls j f = match ls.getD j .no with | .rdy p _ _ => (f p, true) | _ => (0, false) := by unfold A2Q A14; rw [if_pos (by omega), Int.toNat_natCast]
 rw [e]
 generalize ls.getD j .no = x at *
 cases x with
 | no =>
  simp only [SlH.val] at hx
  (have zz:=trivial;repeat((first|clear zz|with_reducible first|refine A3 ?_|refine A5 fun _=>?_|refine A4 fun _=>?_);try simp(disch:=first|omega|assumption|((repeat(first|exact A1|exact uH|apply A2|apply uT));first|done|fail)|(simp;first|done|omega|fail))[c1, c2, hj, hj2, h0, hx]))
  exact B0 rfl
 | bld =>
  simp only [SlH.val] at hx
  (have zz:=trivial;repeat((first|clear zz|with_reducible first|refine A3 ?_|refine A5 fun _=>?_|refine A4 fun _=>?_);try simp(disch:=first|omega|assumption|((repeat(first|exact A1|exact uH|apply A2|apply uT));first|done|fail)|(simp;first|done|omega|fail))[c1, c2, hj, hj2, h0, hx]))
  exact B0 rfl
 | rdy p pv rv =>
  simp only [SlH.val] at hx
  have hpv := hrd.1.form
  have hrv := hrd.2.1.form
  obtain ⟨pa, pc, hpe, _⟩ := hpv
  obtain ⟨ra, rc, hre, _⟩ := hrv
  subst hpe hre
  (have zz:=trivial;repeat((first|clear zz|with_reducible first|refine A3 ?_|refine A5 fun _=>?_|refine A4 fun _=>?_);try simp(disch:=first|omega|assumption|((repeat(first|exact A1|exact uH|apply A2|apply uT));first|done|fail)|(simp;first|done|omega|fail))[c1, c2, hj, hj2, h0, hx]))
  refine C1 he (fun w' hw' => hg _ _ _ hrd w' hw'.ks) ?_
  exact B0 rfl
def A2L (l : List SlH) (i : Int) (f : List E6 → Bool) : Bool × Bool :=
 match A14 l i with
 | .rdy p _ _ => (f p, true)
 | _ => (false, false)
theorem C6F (w : World) (b : Nat) (sv : Value) (ls : List SlH) (i : Int) (g : FuncId) (cap : List Value) (f : List E6 → Bool) (hl : ls.length ≤ 8) (h : SlAt w b sv ls) (he : A9 PR g)
  (hg : ∀ p pv rv, (SlH.rdy p pv rv).rd w → ∀ w', KS false [] w w' → Fn PR B8 g (Value.agg #[pv, rv] :: cap).toArray w' (fun u w'' => u = .bool (f p) ∧ C7 [] w' w'')) :
  Fn PR B8 180 #[.pointer (some ⟨b, 0, none⟩), .int .i64 i, .func (.func g) #[] cap.toArray] w (fun u w' => u = .tuple #[.bool (A2L ls i f).1, .bool (A2L ls i f).2] ∧ C7 [] w w') := by
 refine Fn.pure (B0D (TW.go (κ := false) (S := []) ?_))
 unfold A2d
 obtain ⟨a, c, rfl, hr⟩ := h.rd.form
 have h0 : w.cell? ⟨b, 0, none⟩ = some (.slice a ls.length c) := by rw [E5 h.blk]; rfl
 by_cases c1 : i < 0
 ·have e : A2L ls i f = (false, false) := by unfold A2L A14; rw [if_neg (by omega)]
  rw [e]
  (have zz:=trivial;repeat((first|clear zz|with_reducible first|refine A3 ?_|refine A5 fun _=>?_|refine A4 fun _=>?_);try simp(disch:=first|omega|assumption|((repeat(first|exact A1|exact uH|apply A2|apply uT));first|done|fail)|(simp;first|done|omega|fail))[c1]))
  exact B0 rfl
 by_cases c2 : (ls.length : Int) ≤ i
 ·have e : A2L ls i f = (false, false) := by unfold A2L A14; rw [if_neg (by omega)]
  rw [e]
  (have zz:=trivial;repeat((first|clear zz|with_reducible first|refine A3 ?_|refine A5 fun _=>?_|refine A4 fun _=>?_);try simp(disch:=first|omega|assumption|((repeat(first|exact A1|exact uH|apply A2|apply uT));first|done|fail)|(simp;first|done|omega|fail))[c1, c2, h0]))
  exact B0 rfl
 obtain ⟨j, rfl⟩ : ∃ j : Nat, i = j := ⟨i.toNat, by omega⟩
 have hj : j < ls.length := by omega
 have hj2 : ¬ ls.length ≤ j := by omega
 obtain ⟨gb, o, rfl, hrow⟩ := hr (by omega)
 have hrd := h.at hj
 have hx : w.cell? ⟨gb, o + j, none⟩ = some (ls.getD j .no).val := hrow.get (B3n hj)
 have e : A2L ls j f = match ls.getD j .no with | .rdy p _ _ => (f p, true) | _ => (false, false) := by unfold A2L A14; rw [if_pos (by omega), Int.toNat_natCast]
 rw [e]
 generalize ls.getD j .no = x at *
 cases x with
 | no =>
  simp only [SlH.val] at hx
  (have zz:=trivial;repeat((first|clear zz|with_reducible first|refine A3 ?_|refine A5 fun _=>?_|refine A4 fun _=>?_);try simp(disch:=first|omega|assumption|((repeat(first|exact A1|exact uH|apply A2|apply uT));first|done|fail)|(simp;first|done|omega|fail))[c1, c2, hj, hj2, h0, hx]))
  exact B0 rfl
 | bld =>
  simp only [SlH.val] at hx
  (have zz:=trivial;repeat((first|clear zz|with_reducible first|refine A3 ?_|refine A5 fun _=>?_|refine A4 fun _=>?_);try simp(disch:=first|omega|assumption|((repeat(first|exact A1|exact uH|apply A2|apply uT));first|done|fail)|(simp;first|done|omega|fail))[c1, c2, hj, hj2, h0, hx]))
  exact B0 rfl
 | rdy p pv rv =>
  simp only [SlH.val] at hx
  have hpv := hrd.1.form
  have hrv := hrd.2.1.form
  obtain ⟨pa, pc, hpe, _⟩ := hpv
  obtain ⟨ra, rc, hre, _⟩ := hrv
  subst hpe hre
  (have zz:=trivial;repeat((first|clear zz|with_reducible first|refine A3 ?_|refine A5 fun _=>?_|refine A4 fun _=>?_);try simp(disch:=first|omega|assumption|((repeat(first|exact A1|exact uH|apply A2|apply uT));first|done|fail)|(simp;first|done|omega|fail))[c1, c2, hj, hj2, h0, hx]))
  refine C1 he (fun w' hw' => hg _ _ _ hrd w' hw'.ks) ?_
  exact B0 rfl
theorem B6c (ls : List SlH) (i : Int) (f : List E6 → Int) : A2Q ls i f = match H4 (ls.map SlH.sp) i with | .rdy p => (f p, true) | _ => (0, false) := by
 rw [B3u]; unfold A2Q; cases A14 ls i <;> rfl
theorem C3K (ls : List SlH) (i : Int) (f : List E6 → Bool) : A2L ls i f = match H4 (ls.map SlH.sp) i with | .rdy p => (f p, true) | _ => (false, false) := by
 rw [B3u]; unfold A2L; cases A14 ls i <;> rfl
theorem SlH.rdks {κ : Bool} {w w' : World} {s : SlH} (hk : KS κ [] w w') (h : s.rd w) : s.rd w' := by
 cases s with
 | no => trivial
 | bld => trivial
 | rdy p pv rv => exact ⟨h.1.ks hk (by simp), h.2.1.ks hk (by simp), h.2.2⟩
theorem SlAt.ks {κ : Bool} {w w' : World} {b : Nat} {sv : Value} {ls : List SlH} (h : SlAt w b sv ls) (hk : KS κ [] w w') : SlAt w' b sv ls :=
 ⟨hk.2.1 _ _ (by simp) rfl h.blk, h.rd.ks hk (by simp), fun s hs => SlH.rdks hk (h.all s hs)⟩
theorem C1v (w : World) (p : List E6) (pv rv : Value) (bh h : Nat) (hx : (SlH.rdy p pv rv).rd w) (hb : w.cell? ⟨bh, 0, none⟩ = some (.int .u64 (h : Nat))) :
  Fn PR B8 110 #[.agg #[pv, rv], .pointer (some ⟨bh, 0, none⟩)] w (fun u w' => u = .int .i64 (A4n p h) ∧ C7 [] w w') := by
 refine Fn.pure (A5y (TW.go (κ := false) (S := []) ?_))
 unfold A0A
 obtain ⟨h1, h2, h3⟩ := hx
 obtain ⟨pa, pc, rfl, _⟩ := h1.form
 obtain ⟨ra, rc, rfl, _⟩ := h2.form
 have hll := B0a p
 have hpl : (M9 (G4 p)).length = (G4 p).length := r7 _
 (have zz:=trivial;repeat((first|clear zz|with_reducible first|refine A3 ?_|refine A5 fun _=>?_|refine A4 fun _=>?_);try simp(disch:=first|omega|assumption|((repeat(first|exact A1|exact uH|apply A2|apply uT));first|done|fail)|(simp;first|done|omega|fail))[hb]))
 refine C1 B5S (fun w' hw' => C51 w' _ (M9 (G4 p)) h (by omega) (h2.ks hw'.ks (by simp))) ?_
 exact B0 rfl
theorem C3W (w : World) (b : Nat) (sv : Value) (ls : List SlH) (i : Int) (h : Nat) (hl : ls.length ≤ 8) (hs : SlAt w b sv ls) :
  Fn PR B8 48 #[.pointer (some ⟨b, 0, none⟩), .int .i64 i, .int .u64 (h : Nat)] w (fun u w' => u = .tuple #[.int .i64 (A40 (ls.map SlH.sp) i h).1, .bool (A40 (ls.map SlH.sp) i h).2] ∧ C7 [] w w') := by
 refine Fn.pure (A8v (TW.go (κ := false) (S := []) ?_))
 unfold A1b
 (have zz:=trivial;repeat((first|clear zz|with_reducible first|refine A3 ?_|refine A5 fun _=>?_|refine A4 fun _=>?_);try simp(disch:=first|omega|assumption|((repeat(first|exact A1|exact uH|apply A2|apply uT));first|done|fail)|(simp;first|done|omega|fail))[]))
 rename_i bh
 refine C1 A2a (fun w' hw' => B80 w' b sv ls i 110 [.pointer (some ⟨bh, 0, none⟩)] (fun p => A4n p h) hl (hs.ks hw'.ks) A4d fun p pv rv hrd w'' hk => C1v w'' p pv rv bh h (SlH.rdks hk hrd) (hk.cell (by simp) (hw'.cell1 (by (repeat constructor))))) ?_
 (have zz:=trivial;repeat((first|clear zz|with_reducible first|refine A3 ?_|refine A5 fun _=>?_|refine A4 fun _=>?_);try simp(disch:=first|omega|assumption|((repeat(first|exact A1|exact uH|apply A2|apply uT));first|done|fail)|(simp;first|done|omega|fail))[]))
 exact B0 (by rw [B6c]; unfold A40; cases H4 (ls.map SlH.sp) i <;> rfl)
theorem C0k (w : World) (p : List E6) (pv rv : Value) (hx : (SlH.rdy p pv rv).rd w) :
  Fn PR B8 113 #[.agg #[pv, rv]] w (fun u w' => u = .int .i64 (p.length : Nat) ∧ C7 [] w w') := by
 refine Fn.pure (A5d (TW.go (κ := false) (S := []) ?_))
 unfold A0D
 obtain ⟨h1, h2, h3⟩ := hx
 obtain ⟨pa, pc, rfl, _⟩ := h1.form
 obtain ⟨ra, rc, rfl, _⟩ := h2.form
 (have zz:=trivial;repeat((first|clear zz|with_reducible first|refine A3 ?_|refine A5 fun _=>?_|refine A4 fun _=>?_);try simp(disch:=first|omega|assumption|((repeat(first|exact A1|exact uH|apply A2|apply uT));first|done|fail)|(simp;first|done|omega|fail))[]))
 exact B0 rfl
theorem C4M (w : World) (b : Nat) (sv : Value) (ls : List SlH) (i : Int) (hl : ls.length ≤ 8) (hs : SlAt w b sv ls) :
  Fn PR B8 50 #[.pointer (some ⟨b, 0, none⟩), .int .i64 i] w (fun u w' => u = .tuple #[.int .i64 (A67 (ls.map SlH.sp) i).1, .bool (A67 (ls.map SlH.sp) i).2] ∧ C7 [] w w') := by
 refine Fn.pure (A8m (TW.go (κ := false) (S := []) ?_))
 unfold A1U
 refine C1 A2a (fun w' hw' => B80 w' b sv ls i 113 [] (fun p => (p.length : Nat)) hl (hs.ks hw'.ks) A4V fun p pv rv hrd w'' hk => C0k w'' p pv rv (SlH.rdks hk hrd)) ?_
 (have zz:=trivial;repeat((first|clear zz|with_reducible first|refine A3 ?_|refine A5 fun _=>?_|refine A4 fun _=>?_);try simp(disch:=first|omega|assumption|((repeat(first|exact A1|exact uH|apply A2|apply uT));first|done|fail)|(simp;first|done|omega|fail))[]))
 exact B0 (by rw [B6c]; unfold A67; cases H4 (ls.map SlH.sp) i <;> rfl)
theorem C35 (w : World) (p : List E6) (pv : Value) (id : Int) (hv : G1 w pv p.length (p.flatMap J0)) (hp : p.length ≤ 32) :
  Fn PR B8 182 #[pv, .int .i64 id] w (fun u w' => u = .bool (decide (0 ≤ N6 p id)) ∧ C7 [] w w') := by
 refine Fn.pure (A6Y (TW.go (κ := false) (S := []) ?_))
 unfold A0a
 refine C1 B5a (fun w' hw' => B7v w' pv p id (by omega) (hv.ks hw'.ks (by simp))) ?_
 by_cases c1 : 0 ≤ N6 p id
 ·(have zz:=trivial;repeat((first|clear zz|with_reducible first|refine A3 ?_|refine A5 fun _=>?_|refine A4 fun _=>?_);try simp(disch:=first|omega|assumption|((repeat(first|exact A1|exact uH|apply A2|apply uT));first|done|fail)|(simp;first|done|omega|fail))[c1]))
  exact B0 rfl
 ·(have zz:=trivial;repeat((first|clear zz|with_reducible first|refine A3 ?_|refine A5 fun _=>?_|refine A4 fun _=>?_);try simp(disch:=first|omega|assumption|((repeat(first|exact A1|exact uH|apply A2|apply uT));first|done|fail)|(simp;first|done|omega|fail))[c1]))
  exact B0 rfl
theorem C2v (w : World) (p : List E6) (pv rv : Value) (bh : Nat) (id : Int) (hx : (SlH.rdy p pv rv).rd w) (hb : w.cell? ⟨bh, 0, none⟩ = some (.int .i64 id)) :
  Fn PR B8 181 #[.agg #[pv, rv], .pointer (some ⟨bh, 0, none⟩)] w (fun u w' => u = .bool (decide (0 ≤ N6 p id)) ∧ C7 [] w w') := by
 refine Fn.pure (A6C (TW.go (κ := false) (S := []) ?_))
 unfold A0g
 obtain ⟨h1, h2, h3⟩ := hx
 obtain ⟨pa, pc, rfl, _⟩ := h1.form
 obtain ⟨ra, rc, rfl, _⟩ := h2.form
 (have zz:=trivial;repeat((first|clear zz|with_reducible first|refine A3 ?_|refine A5 fun _=>?_|refine A4 fun _=>?_);try simp(disch:=first|omega|assumption|((repeat(first|exact A1|exact uH|apply A2|apply uT));first|done|fail)|(simp;first|done|omega|fail))[hb]))
 refine C1 A5w (fun w' hw' => C35 w' p _ id (h1.ks hw'.ks (by simp)) h3) ?_
 exact B0 rfl
theorem C6J (w : World) (b : Nat) (sv : Value) (ls : List SlH) (i id : Int) (hl : ls.length ≤ 8) (hs : SlAt w b sv ls) :
  Fn PR B8 134 #[.pointer (some ⟨b, 0, none⟩), .int .i64 i, .int .i64 id] w (fun u w' => u = .tuple #[.bool (B6E (ls.map SlH.sp) i id).1, .bool (B6E (ls.map SlH.sp) i id).2] ∧ C7 [] w w') := by
 refine Fn.pure (A9w (TW.go (κ := false) (S := []) ?_))
 unfold A2q
 (have zz:=trivial;repeat((first|clear zz|with_reducible first|refine A3 ?_|refine A5 fun _=>?_|refine A4 fun _=>?_);try simp(disch:=first|omega|assumption|((repeat(first|exact A1|exact uH|apply A2|apply uT));first|done|fail)|(simp;first|done|omega|fail))[]))
 rename_i bh
 refine C1 A8W (fun w' hw' => C6F w' b sv ls i 181 [.pointer (some ⟨bh, 0, none⟩)] (fun p => decide (0 ≤ N6 p id)) hl (hs.ks hw'.ks) A5v fun p pv rv hrd w'' hk => C2v w'' p pv rv bh id (SlH.rdks hk hrd) (hk.cell (by simp) (hw'.cell1 (by (repeat constructor))))) ?_
 (have zz:=trivial;repeat((first|clear zz|with_reducible first|refine A3 ?_|refine A5 fun _=>?_|refine A4 fun _=>?_);try simp(disch:=first|omega|assumption|((repeat(first|exact A1|exact uH|apply A2|apply uT));first|done|fail)|(simp;first|done|omega|fail))[]))
 exact B0 (by rw [C3K]; unfold B6E; cases H4 (ls.map SlH.sp) i <;> rfl)
theorem C6l (n : Nat) : (Builtin.zeroCells Value.nilIface.cells n).toList = (List.replicate n SlH.no).map SlH.val := by
 have hz : (Builtin.zeroCells Value.nilIface.cells n).toList.length = n := by simp [size_zeroCells, Value.cells]
 apply List.ext_getElem (by rw [hz]; simp)
 intro i h1 h2
 simp [Builtin.zeroCells, Value.cells, SlH.val, Nat.mod_one]
theorem C5W (w : World) (n : Nat) (hn : n ≤ 8) : Fn PR B8 70 #[.int .i64 (n : Nat)] w (Rn [] w (fun (x : Nat × Value) u => u = .pointer (some ⟨x.1, 0, none⟩)) fun x => G3 x.1 x.2 (List.replicate n SlH.no)) := by
 refine B6g (TW.go (κ := false) (S := []) ?_)
 unfold A92
 have h1 : min ((n : Nat) : Int) 8 = n := by omega
 have h2 : max 0 ((n : Nat) : Int) = n := by omega
 (have zz:=trivial;repeat((first|clear zz|with_reducible first|refine A3 ?_|refine A5 fun _=>?_|refine A4 fun _=>?_);try simp(disch:=first|omega|assumption|((repeat(first|exact A1|exact uH|apply A2|apply uT));first|done|fail)|(simp;first|done|omega|fail))[h1, h2]))
 refine y3 (by omega) (by omega) (by omega) (by omega) fun bs => ?_
 rw [Int.toNat_natCast, C6l]
 (have zz:=trivial;repeat((first|clear zz|with_reducible first|refine A3 ?_|refine A5 fun _=>?_|refine A4 fun _=>?_);try simp(disch:=first|omega|assumption|((repeat(first|exact A1|exact uH|apply A2|apply uT));first|done|fail)|(simp;first|done|omega|fail))[]))
 rename_i b
 refine A31 (r := u3 (List.replicate n SlH.no)) (Hc := []) Part.nil (fun w _ => (fun s hs => by rw [List.eq_of_mem_replicate hs]; trivial : A7U _ w)) (fun b hb => ?_) ?_
 ·have hb' : b ∈ A0E (List.replicate n SlH.no) := hb
  rw [A0E, List.mem_flatMap] at hb'
  obtain ⟨s, hs, hbs⟩ := hb'
  rw [List.eq_of_mem_replicate hs] at hbs; cases hbs
 ·refine B1 (b, .slice (some ⟨bs, 0, none⟩) n n) rfl ?_
  simp only [G3, List.length_replicate, List.map_replicate]
  (repeat' constructor)
end Go.Proofs.YtjobgnabneddjaaGreat
namespace Go.Proofs.YtjobgnabneddjaaGreat
open Go
def B1n (c : CfgV) : Array Value := #[.int .i64 c.wk, .int .i64 c.sh, .int .i64 c.cp, .int .i64 c.idle, .int .i64 c.sl]
def E2 (c : CfgV) (pc ps pk tv pv now : Value) : Array Value := #[.int .i64 c.wk, .int .i64 c.sh, .int .i64 c.cp, .int .i64 c.idle, .int .i64 c.sl, pc, ps, pk, tv, pv, now]
def E0 (b : Nat) (c : CfgV) (pc ps pk tv pv now : Value) : Res := .pt b (.cells (E2 c pc ps pk tv pv now) 39)
theorem C3Y (w : World) (b b1 : Nat) (c : CfgV) (pc ps pk tv pv now : Value) (hw1 : 0 ≤ c.wk ∧ c.wk ≤ 64) (hs1 : 0 ≤ c.sh ∧ c.sh ≤ 16) (hb1 : bl w b1 = some (.cells (B1n c) 23 (0, 0))) (hne : b1 ≠ b) (hw : LW false [b] w [E0 b c pc ps pk tv pv now] w) :
  Fn PR B8 67 #[.pointer (some ⟨b, 0, none⟩), .pointer (some ⟨b1, 0, none⟩)] w (Rn [b] w (fun (x : Nat × Value × Value) u => u = .tuple #[]) fun x => E0 b c (.pointer (some ⟨x.1, 0, none⟩)) ps pk tv pv now :: D1 x.1 0 x.2.1 x.2.2 (List.replicate (2 + c.wk.toNat) 0) (List.replicate c.sh.toNat (-1))) := by
 refine B3G (TW.goH (κ := false) (S := [b]) ?_ hw)
 unfold A4u
 have h0 : w.cell? ⟨b1, 0, none⟩ = some (.int .i64 c.wk) := by rw [E5 hb1]; rfl
 have h1 : w.cell? ⟨b1, 1, none⟩ = some (.int .i64 c.sh) := by rw [E5 hb1]; rfl
 obtain ⟨n, hn⟩ : ∃ n : Nat, c.wk = n := ⟨c.wk.toNat, by omega⟩
 obtain ⟨k, hk⟩ : ∃ k : Nat, c.sh = k := ⟨c.sh.toNat, by omega⟩
 rw [hn] at h0
 rw [hk] at h1
 simp only [E0, E2, hn, hk, Int.toNat_natCast]
 (have zz:=trivial;repeat((first|clear zz|with_reducible first|refine A3 ?_|refine A5 fun _=>?_|refine A4 fun _=>?_);try simp(disch:=first|omega|assumption|((repeat(first|exact A1|exact uH|apply A2|apply uT));first|done|fail)|(simp;first|done|omega|fail))[h0, h1, hne]))
 rw [show (2 + (n : Int)) = ((2 + n : Nat) : Int) by omega]
 refine H2 B5b (fun w' _ => B7l w' (2 + n) k (by omega) (by omega)) ?_
 rintro x v rfl
 simp only [D1]
 (have zz:=trivial;repeat((first|clear zz|with_reducible first|refine A3 ?_|refine A5 fun _=>?_|refine A4 fun _=>?_);try simp(disch:=first|omega|assumption|((repeat(first|exact A1|exact uH|apply A2|apply uT));first|done|fail)|(simp;first|done|omega|fail))[]))
 exact B1 x rfl (by (repeat' constructor))
theorem C3b (w : World) (b b1 : Nat) (c : CfgV) (pc ps pk tv pv now : Value) (hsl : 0 ≤ c.sl ∧ c.sl ≤ 8) (hb1 : bl w b1 = some (.cells (B1n c) 23 (0, 0))) (hne : b1 ≠ b) (hw : LW false [b] w [E0 b c pc ps pk tv pv now] w) :
  Fn PR B8 69 #[.pointer (some ⟨b, 0, none⟩), .pointer (some ⟨b1, 0, none⟩)] w (Rn [b] w (fun (x : Nat × Value × Nat) u => u = .tuple #[]) fun x => E0 b c pc (.pointer (some ⟨x.1, 0, none⟩)) (.pointer (some ⟨x.2.2, 0, none⟩)) tv pv now :: A7Z x.2.2 (List.replicate c.sl.toNat (0, 0)) :: G3 x.1 x.2.1 (List.replicate c.sl.toNat SlH.no)) := by
 refine B26 (TW.goH (κ := false) (S := [b]) ?_ hw)
 unfold A5B
 have h0 : w.cell? ⟨b1, 4, none⟩ = some (.int .i64 c.sl) := by rw [E5 hb1]; rfl
 obtain ⟨n, hn⟩ : ∃ n : Nat, c.sl = n := ⟨c.sl.toNat, by omega⟩
 rw [hn] at h0
 simp only [E0, E2, hn, Int.toNat_natCast]
 (have zz:=trivial;repeat((first|clear zz|with_reducible first|refine A3 ?_|refine A5 fun _=>?_|refine A4 fun _=>?_);try simp(disch:=first|omega|assumption|((repeat(first|exact A1|exact uH|apply A2|apply uT));first|done|fail)|(simp;first|done|omega|fail))[h0, hne]))
 refine H2 B5V (fun w' _ => C5W w' n (by omega)) ?_
 rintro x v rfl
 simp only [G3]
 (have zz:=trivial;repeat((first|clear zz|with_reducible first|refine A3 ?_|refine A5 fun _=>?_|refine A4 fun _=>?_);try simp(disch:=first|omega|assumption|((repeat(first|exact A1|exact uH|apply A2|apply uT));first|done|fail)|(simp;first|done|omega|fail))[h0, hne]))
 refine H2 B47 (fun w' _ => C5N w' n (by omega)) ?_
 rintro bk v rfl
 (have zz:=trivial;repeat((first|clear zz|with_reducible first|refine A3 ?_|refine A5 fun _=>?_|refine A4 fun _=>?_);try simp(disch:=first|omega|assumption|((repeat(first|exact A1|exact uH|apply A2|apply uT));first|done|fail)|(simp;first|done|omega|fail))[]))
 refine B1 (x.1, x.2, bk) rfl ?_
 simp only [List.length_replicate, List.map_replicate]
 (repeat' constructor)
def A22 (l : List Nat) : List Value := l.map fun n : Nat => .int .i64 (n : Int)
theorem C4J (w : World) (b b1 : Nat) (c : CfgV) (pc ps pk now : Value) (hs1 : 1 ≤ c.sh ∧ c.sh ≤ 16) (hc1 : 1 ≤ c.cp ∧ c.cp ≤ 64) (hb1 : bl w b1 = some (.cells (B1n c) 23 (0, 0))) (hne : b1 ≠ b) (hw : LW false [b] w [E0 b c pc ps pk (.slice none 0 0) (.slice none 0 0) now] w) :
  Fn PR B8 72 #[.pointer (some ⟨b, 0, none⟩), .pointer (some ⟨b1, 0, none⟩)] w (Rn [b] w (fun (x : Value × Value × List (Value × List EnV)) u => u = .tuple #[] ∧ x.2.2.map (·.2) = List.replicate c.sh.toNat (newE c.cp.toNat)) fun x => [E0 b c pc ps pk x.1 x.2.1 now, .own 84 1 x.1 x.2.2.length (x.2.2.map (·.1)), .own 3 1 x.2.1 x.2.2.length (A22 (List.replicate c.sh.toNat 0)), Y3 x.2.2]) := by
 refine B21 (TW.goH (κ := false) (S := [b]) ?_ hw)
 unfold A43
 have h0 : w.cell? ⟨b1, 1, none⟩ = some (.int .i64 c.sh) := by rw [E5 hb1]; rfl
 have h1 : w.cell? ⟨b1, 2, none⟩ = some (.int .i64 c.cp) := by rw [E5 hb1]; rfl
 obtain ⟨n, hn⟩ : ∃ n : Nat, c.sh = n := ⟨c.sh.toNat, by omega⟩
 obtain ⟨k, hk⟩ : ∃ k : Nat, c.cp = k := ⟨c.cp.toNat, by omega⟩
 rw [hn] at h0
 rw [hk] at h1
 simp only [E0, E2, hn, hk, Int.toNat_natCast]
 (have zz:=trivial;repeat((first|clear zz|with_reducible first|refine A3 ?_|refine A5 fun _=>?_|refine A4 fun _=>?_);try simp(disch:=first|omega|assumption|((repeat(first|exact A1|exact uH|apply A2|apply uT));first|done|fail)|(simp;first|done|omega|fail))[h0, h1, hne]))
 refine k9 84 1 ?_
 refine k9 3 1 ?_
 refine B7Q ?_
 refine Sels.tw (rs := [.pt b (.cells #[.int .i64 c.wk, .int .i64 (n : Nat), .int .i64 (k : Nat), .int .i64 c.idle, .int .i64 c.sl, pc, ps, pk, .slice none 0 0, .slice none 0 0, now] 39), .own 84 1 (.slice none 0 0) 0 [], .own 3 1 (.slice none 0 0) 0 [], Y3 []]) (by (repeat' constructor)) ?_
 refine A0U (α := Option Addr × Nat × Option Addr × Nat × List (Value × List EnV)) n (fun i x => [.pt b (.cells #[.int .i64 c.wk, .int .i64 (n : Nat), .int .i64 (k : Nat), .int .i64 c.idle, .int .i64 c.sl, pc, ps, pk, .slice x.1 i x.2.1, .slice x.2.2.1 i x.2.2.2.1, now] 39), .own 84 1 (.slice x.1 i x.2.1) i (x.2.2.2.2.map (·.1)), .own 3 1 (.slice x.2.2.1 i x.2.2.2.1) i (A22 (List.replicate i 0)), Y3 x.2.2.2.2]) (fun i x => x.2.2.2.2.length = i ∧ x.2.2.2.2.map (·.2) = List.replicate i (newE k)) (none, 0, none, 0, []) ⟨rfl, rfl⟩ ?_
 ·rintro i ⟨ta, tc, pa, qc, ts⟩ hi ⟨hlen, hmap⟩ L hL
  simp only at hlen hmap ⊢
  by_cases hlt : i < n
  ·(have zz:=trivial;repeat((first|clear zz|with_reducible first|refine A3 ?_|refine A5 fun _=>?_|refine A4 fun _=>?_);try simp(disch:=first|omega|assumption|((repeat(first|exact A1|exact uH|apply A2|apply uT));first|done|fail)|(simp;first|done|omega|fail))[h1, hne, hlt]))
   refine H2 A8A (fun w' _ => B02 w' k (by omega)) ?_
   intro y u hu
   subst hu
   refine T6 (e := 218) (k := 4) (v := u) (q := (newE k).length) (xs := (newE k).flatMap H0) (by (repeat constructor)) fun ua uc hu => ?_
   subst hu
   (have zz:=trivial;repeat((first|clear zz|with_reducible first|refine A3 ?_|refine A5 fun _=>?_|refine A4 fun _=>?_|refine D6 fun _=>?_|refine D3 (hK:=fun _=>?_)|refine D7 (hK:=fun _=>?_)|refine D8 (hK:=fun _=>?_)|refine D5 (hK:=fun _=>?_)|refine D4 (hK:=fun _=>?_));try simp(disch:=first|omega|assumption|((repeat(first|exact A1|exact uH|apply A2|apply uT));first|done|fail)|(simp;first|done|omega|fail))[h1, hne, hlt]))
   refine u5 (e := 84) (k := 1) (q := i) (r := 1) (xs := ts.map (·.1)) (news := [.slice ua (newE k).length uc]) (by (repeat constructor)) (P6.own (by (repeat constructor))) (by decide) (by simp [hlen]) (by simp) (by simp only [maxLen]; omega) (by omega) fun a' c' => ?_
   (have zz:=trivial;repeat((first|clear zz|with_reducible first|refine A3 ?_|refine A5 fun _=>?_|refine A4 fun _=>?_|refine D6 fun _=>?_|refine D3 (hK:=fun _=>?_)|refine D7 (hK:=fun _=>?_)|refine D8 (hK:=fun _=>?_)|refine D5 (hK:=fun _=>?_)|refine D4 (hK:=fun _=>?_));try simp(disch:=first|omega|assumption|((repeat(first|exact A1|exact uH|apply A2|apply uT));first|done|fail)|(simp;first|done|omega|fail))[h1, hne, hlt]))
   refine u5 (e := 3) (k := 1) (q := i) (r := 1) (xs := A22 (List.replicate i 0)) (news := [.int .i64 0]) (by (repeat constructor)) (P6.own (by (repeat constructor))) (by decide) (by simp) (by simp) (by simp only [maxLen]; omega) (by omega) fun a'' c'' => ?_
   (have zz:=trivial;repeat((first|clear zz|with_reducible first|refine A3 ?_|refine A5 fun _=>?_|refine A4 fun _=>?_);try simp(disch:=first|omega|assumption|((repeat(first|exact A1|exact uH|apply A2|apply uT));first|done|fail)|(simp;first|done|omega|fail))[]))
   refine a7 (r := .slice ua (newE k).length uc) (l := newE k) (ts := ts) (by (repeat' constructor)) ?_
   have h := hL hlt (a', c', a'', c'', ts ++ [(.slice ua (newE k).length uc, newE k)]) ⟨by simp [hlen], by rw [List.map_append, hmap, List.replicate_succ']; rfl⟩
   have e : A22 (List.replicate (i + 1) 0) = A22 (List.replicate i 0) ++ [.int .i64 0] := by rw [List.replicate_succ', A22, List.map_append]; rfl
   simp only [List.map_append, List.map_cons, List.map_nil, e] at h
   exact Sels.tw (by (repeat' constructor)) h
  ·obtain rfl : i = n := by omega
   (have zz:=trivial;repeat((first|clear zz|with_reducible first|refine A3 ?_|refine A5 fun _=>?_|refine A4 fun _=>?_);try simp(disch:=first|omega|assumption|((repeat(first|exact A1|exact uH|apply A2|apply uT));first|done|fail)|(simp;first|done|omega|fail))[]))
   refine B1 (.slice ta i tc, .slice pa i qc, ts) ⟨rfl, hmap⟩ ?_
   simp only [hlen]
   (repeat' constructor)
end Go.Proofs.YtjobgnabneddjaaGreat
namespace Go.Proofs.YtjobgnabneddjaaGreat
open Go
structure WoH where
 b : Nat
 bc : Nat
 bs : Nat
 bk : Nat
 cn : Int
 cv : Value
 ov : Value
 sv : Value
 tv : Value
 pv : Value
 c : CfgV
 cells : List Int
 own : List Int
 ls : List SlH
 keep : List (Int × Int)
 ts : List (Value × List EnV)
 pl : List Nat
 now : Int
def C8 (m : WoH) : List Res := [E0 m.b m.c (.pointer (some ⟨m.bc, 0, none⟩)) (.pointer (some ⟨m.bs, 0, none⟩)) (.pointer (some ⟨m.bk, 0, none⟩)) m.tv m.pv (.int .i64 m.now),
 .pt m.bc (.cells #[.int .i64 m.cn, m.cv, m.ov] 141), .own 3 1 m.cv m.cells.length (F9 m.cells), .own 3 1 m.ov m.own.length (F9 m.own),
 .pt m.bs (.cells #[m.sv] 231), .own 266 1 m.sv m.ls.length (m.ls.map SlH.val), u3 m.ls, A7Z m.bk m.keep,
 .own 84 1 m.tv m.ts.length (m.ts.map (·.1)), .own 3 1 m.pv m.pl.length (A22 m.pl)]
def WoH.ws (m : WoH) : WS := ⟨m.c, m.cells, m.own, m.ls.map SlH.sp, m.keep, m.ts.map (·.2), m.pl, m.now⟩
def H6 (c : CfgV) : WS := ⟨c, List.replicate (2 + c.wk.toNat) 0, List.replicate c.sh.toNat (-1), List.replicate c.sl.toNat .no, List.replicate c.sl.toNat (0, 0), List.replicate c.sh.toNat (newE c.cp.toNat), List.replicate c.sh.toNat 0, 0⟩
abbrev C4m := (Nat × Value × Value) × (Nat × Value × Nat) × (Value × Value × List (Value × List EnV))
def T1 : Value := .pointer none
def G6 : Value := .slice none 0 0
def B0L (b : Nat) (c : CfgV) : Nat → C4m → List Res
 | 0, x => [E0 b c T1 T1 T1 G6 G6 (.int .i64 0)]
 | 1, x => E0 b c (.pointer (some ⟨x.1.1, 0, none⟩)) T1 T1 G6 G6 (.int .i64 0) :: D1 x.1.1 0 x.1.2.1 x.1.2.2 (List.replicate (2 + c.wk.toNat) 0) (List.replicate c.sh.toNat (-1))
 | 2, x => E0 b c (.pointer (some ⟨x.1.1, 0, none⟩)) (.pointer (some ⟨x.2.1.1, 0, none⟩)) (.pointer (some ⟨x.2.1.2.2, 0, none⟩)) G6 G6 (.int .i64 0) :: (D1 x.1.1 0 x.1.2.1 x.1.2.2 (List.replicate (2 + c.wk.toNat) 0) (List.replicate c.sh.toNat (-1)) ++ A7Z x.2.1.2.2 (List.replicate c.sl.toNat (0, 0)) :: G3 x.2.1.1 x.2.1.2.1 (List.replicate c.sl.toNat SlH.no))
 | _, x => E0 b c (.pointer (some ⟨x.1.1, 0, none⟩)) (.pointer (some ⟨x.2.1.1, 0, none⟩)) (.pointer (some ⟨x.2.1.2.2, 0, none⟩)) x.2.2.1 x.2.2.2.1 (.int .i64 0) :: (D1 x.1.1 0 x.1.2.1 x.1.2.2 (List.replicate (2 + c.wk.toNat) 0) (List.replicate c.sh.toNat (-1)) ++ A7Z x.2.1.2.2 (List.replicate c.sl.toNat (0, 0)) :: (G3 x.2.1.1 x.2.1.2.1 (List.replicate c.sl.toNat SlH.no) ++ [.own 84 1 x.2.2.1 x.2.2.2.2.length (x.2.2.2.2.map (·.1)), .own 3 1 x.2.2.2.1 x.2.2.2.2.length (A22 (List.replicate c.sh.toNat 0)), Y3 x.2.2.2.2]))
theorem C3p (w : World) (b1 : Nat) (c : CfgV) (pv : Value) (hok : M7 c = true) (hb1 : bl w b1 = some (.cells (B1n c) 23 (0, 0)))
  (hv : G1 w pv 3 [.func (.func 67) #[] #[.pointer (some ⟨b1, 0, none⟩)], .func (.func 69) #[] #[.pointer (some ⟨b1, 0, none⟩)], .func (.func 72) #[] #[.pointer (some ⟨b1, 0, none⟩)]]) :
  Fn PR B8 66 #[c.val, pv] w (Rn [] w (fun (y : WoH) u => u = .pointer (some ⟨y.b, 0, none⟩) ∧ y.c = c ∧ y.ws = H6 c) fun y => C8 y ++ [Y3 y.ts]) := by
 refine B49 (TW.go (κ := false) (S := []) ?_)
 unfold A8J
 have hb : (1 ≤ c.wk ∧ c.wk ≤ 64) ∧ (1 ≤ c.sh ∧ c.sh ≤ 16) ∧ (1 ≤ c.cp ∧ c.cp ≤ 64) ∧ (2 ≤ c.sl ∧ c.sl ≤ 8) := by
  simp [M7, W0] at hok; omega
 obtain ⟨a, cap, rfl, hr⟩ := hv.form
 obtain ⟨g, o, rfl, hrow⟩ := hr (by omega)
 simp only [CfgV.val]
 (have zz:=trivial;repeat((first|clear zz|with_reducible first|refine A3 ?_|refine A5 fun _=>?_|refine A4 fun _=>?_);try simp(disch:=first|omega|assumption|((repeat(first|exact A1|exact uH|apply A2|apply uT));first|done|fail)|(simp;first|done|omega|fail))[]))
 rename_i b2 b
 refine A0U (α := C4m) 3 (fun i x => B0L b c i x ++ [.pt b2 (.cells (B1n c) 23)]) (fun i x => i = 3 → x.2.2.2.2.map (·.2) = List.replicate c.sh.toNat (newE c.cp.toNat)) ((0, T1, T1), (0, T1, 0), (T1, T1, [])) (by omega) ?_ (by simp [B0L, E0, E2, B1n, T1, G6])
 have r0 : w.cell? ⟨g, o, none⟩ = some (.func (.func 67) #[] #[.pointer (some ⟨b1, 0, none⟩)]) := hrow 0 (by simp)
 have r1 : w.cell? ⟨g, o + 1, none⟩ = some (.func (.func 69) #[] #[.pointer (some ⟨b1, 0, none⟩)]) := hrow 1 (by simp)
 have r2 : w.cell? ⟨g, o + 2, none⟩ = some (.func (.func 72) #[] #[.pointer (some ⟨b1, 0, none⟩)]) := hrow 2 (by simp)
 have hne : ∀ {w' : World} {A : List Res}, LW false [] w A w' → ∀ pc ps pk tv pv now, E0 b c pc ps pk tv pv now ∈ A → b1 ≠ b := fun {w' A} hw' pc ps pk tv pv now hm e => by
  have := (hw'.own _ hm b (by simp [E0, Res.foot])).1
  have h1 := H7 hb1
  rcases this with h | h
  ·cases h
  ·omega
 have hbb : ∀ w', KS false [] w w' → bl w' b1 = some (.cells (B1n c) 23 (0, 0)) := fun w' hk => hk.2.1 _ _ (by simp) rfl hb1
 rintro i ⟨⟨bc, cv, ov⟩, ⟨bs, sv, bk⟩, ⟨tv, pv', ts⟩⟩ hi hφ L hL
 have hi4 : i = 0 ∨ i = 1 ∨ i = 2 ∨ i = 3 := by omega
 rcases hi4 with rfl | rfl | rfl | rfl
 ·simp only [B0L, List.cons_append, List.nil_append, D1] at hL ⊢
  (have zz:=trivial;repeat((first|clear zz|with_reducible first|refine A3 ?_|refine A5 fun _=>?_|refine A4 fun _=>?_);try simp(disch:=first|omega|assumption|((repeat(first|exact A1|exact uH|apply A2|apply uT));first|done|fail)|(simp;first|done|omega|fail))[r0]))
  refine C6 (Hc := [E0 b c T1 T1 T1 G6 G6 (.int .i64 0)]) B1d (fun w' hw' hs => C3Y w' b b1 c _ _ _ _ _ _ (by omega) (by omega) (hbb w' hw'.ks) (hne hw' _ _ _ _ _ _ (List.mem_cons_self ..)) hs) (by (repeat' constructor)) ?_
  rintro x v rfl
  simp only [D1, List.cons_append, List.nil_append]
  (have zz:=trivial;repeat((first|clear zz|with_reducible first|refine A3 ?_|refine A5 fun _=>?_|refine A4 fun _=>?_);try simp(disch:=first|omega|assumption|((repeat(first|exact A1|exact uH|apply A2|apply uT));first|done|fail)|(simp;first|done|omega|fail))[]))
  have h := hL (by omega) (x, (0, T1, 0), (T1, T1, [])) (by omega)
  simp only [List.length_replicate, List.map_replicate] at h ⊢
  exact Sels.tw (by (repeat' constructor)) h
 ·simp only [B0L, List.cons_append, List.nil_append, D1, G3] at hL ⊢
  (have zz:=trivial;repeat((first|clear zz|with_reducible first|refine A3 ?_|refine A5 fun _=>?_|refine A4 fun _=>?_);try simp(disch:=first|omega|assumption|((repeat(first|exact A1|exact uH|apply A2|apply uT));first|done|fail)|(simp;first|done|omega|fail))[r1]))
  refine C6 (Hc := [E0 b c (.pointer (some ⟨bc, 0, none⟩)) T1 T1 G6 G6 (.int .i64 0)]) B1j (fun w' hw' hs => C3b w' b b1 c _ _ _ _ _ _ (by omega) (hbb w' hw'.ks) (hne hw' _ _ _ _ _ _ (List.mem_cons_self ..)) hs) (by (repeat' constructor)) ?_
  rintro x v rfl
  simp only [G3, List.cons_append, List.nil_append]
  (have zz:=trivial;repeat((first|clear zz|with_reducible first|refine A3 ?_|refine A5 fun _=>?_|refine A4 fun _=>?_);try simp(disch:=first|omega|assumption|((repeat(first|exact A1|exact uH|apply A2|apply uT));first|done|fail)|(simp;first|done|omega|fail))[]))
  have h := hL (by omega) ((bc, cv, ov), x, (T1, T1, [])) (by omega)
  simp only [List.length_replicate, List.map_replicate] at h ⊢
  exact Sels.tw (by (repeat' constructor)) h
 ·simp only [B0L, List.cons_append, List.nil_append, D1, G3] at hL ⊢
  (have zz:=trivial;repeat((first|clear zz|with_reducible first|refine A3 ?_|refine A5 fun _=>?_|refine A4 fun _=>?_);try simp(disch:=first|omega|assumption|((repeat(first|exact A1|exact uH|apply A2|apply uT));first|done|fail)|(simp;first|done|omega|fail))[r2]))
  refine C6 (Hc := [E0 b c (.pointer (some ⟨bc, 0, none⟩)) (.pointer (some ⟨bs, 0, none⟩)) (.pointer (some ⟨bk, 0, none⟩)) G6 G6 (.int .i64 0)]) B1f (fun w' hw' hs => C4J w' b b1 c _ _ _ _ (by omega) (by omega) (hbb w' hw'.ks) (hne hw' _ _ _ _ _ _ (List.mem_cons_self ..)) hs) (by (repeat' constructor)) ?_
  rintro x v ⟨rfl, hx⟩
  simp only [List.cons_append, List.nil_append]
  (have zz:=trivial;repeat((first|clear zz|with_reducible first|refine A3 ?_|refine A5 fun _=>?_|refine A4 fun _=>?_);try simp(disch:=first|omega|assumption|((repeat(first|exact A1|exact uH|apply A2|apply uT));first|done|fail)|(simp;first|done|omega|fail))[]))
  have h := hL (by omega) ((bc, cv, ov), (bs, sv, bk), x) (fun _ => hx)
  simp only [List.length_replicate, List.map_replicate] at h ⊢
  exact Sels.tw (by (repeat' constructor)) h
 ·have ht := hφ rfl
  simp only [B0L, List.cons_append, List.nil_append, D1, G3] at ht ⊢
  have hlen : ts.length = c.sh.toNat := by
   have := congrArg List.length ht
   simpa using this
  (have zz:=trivial;repeat((first|clear zz|with_reducible first|refine A3 ?_|refine A5 fun _=>?_|refine A4 fun _=>?_);try simp(disch:=first|omega|assumption|((repeat(first|exact A1|exact uH|apply A2|apply uT));first|done|fail)|(simp;first|done|omega|fail))[]))
  refine B1 ⟨b, bc, bs, bk, 0, cv, ov, sv, tv, pv', c, List.replicate (2 + c.wk.toNat) 0, List.replicate c.sh.toNat (-1), List.replicate c.sl.toNat SlH.no, List.replicate c.sl.toNat (0, 0), ts, List.replicate c.sh.toNat 0, 0⟩ ⟨rfl, rfl, by simp [WoH.ws, H6, ht, SlH.sp]⟩ ?_
  simp only [C8, List.cons_append, List.nil_append, List.length_replicate, List.map_replicate, hlen]
  (repeat' constructor)
end Go.Proofs.YtjobgnabneddjaaGreat
namespace Go.Proofs.YtjobgnabneddjaaGreat
open Go
theorem B85 (w : World) (c : CfgV) : Fn PR B8 16 #[c.val] w (Rn [] w (fun (y : WoH) u => if M7 c then u = .tuple #[.pointer (some ⟨y.b, 0, none⟩), .int .i64 0] ∧ y.c = c ∧ y.ws = H6 c else u = .tuple #[.pointer none, .int .i64 1]) fun y => if M7 c then C8 y ++ [Y3 y.ts] else []) := by
 refine B50 (TW.go (κ := false) (S := []) ?_)
 unfold B0G
 simp only [CfgV.val]
 (have zz:=trivial;repeat((first|clear zz|with_reducible first|refine A3 ?_|refine A5 fun _=>?_|refine A4 fun _=>?_);try simp(disch:=first|omega|assumption|((repeat(first|exact A1|exact uH|apply A2|apply uT));first|done|fail)|(simp;first|done|omega|fail))[]))
 rename_i b1
 refine C1 B15 (fun w' _ => C2V w' c) ?_
 cases hok : M7 c with
 | false =>
  (have zz:=trivial;repeat((first|clear zz|with_reducible first|refine A3 ?_|refine A5 fun _=>?_|refine A4 fun _=>?_);try simp(disch:=first|omega|assumption|((repeat(first|exact A1|exact uH|apply A2|apply uT));first|done|fail)|(simp;first|done|omega|fail))[]))
  exact B1 ⟨0, 0, 0, 0, 0, T1, T1, T1, T1, T1, c, [], [], [], [], [], [], 0⟩ (by simp) Sels.nil
 | true =>
  (have zz:=trivial;repeat((first|clear zz|with_reducible first|refine A3 ?_|refine A5 fun _=>?_|refine A4 fun _=>?_|refine D6 fun _=>?_|refine D3 (hK:=fun _=>?_)|refine D7 (hK:=fun _=>?_)|refine D8 (hK:=fun _=>?_)|refine D5 (hK:=fun _=>?_)|refine D4 (hK:=fun _=>?_));try simp(disch:=first|omega|assumption|((repeat(first|exact A1|exact uH|apply A2|apply uT));first|done|fail)|(simp;first|done|omega|fail))[]))
  rename_i g
  refine H2 B30 (fun w' hw' => C3p w' b1 c _ hok (hw'.pt (by (repeat constructor))) (P6.own (e := 124) (k := 1) (by (repeat constructor)) w' hw')) ?_
  rintro y v ⟨rfl, hy⟩
  (have zz:=trivial;repeat((first|clear zz|with_reducible first|refine A3 ?_|refine A5 fun _=>?_|refine A4 fun _=>?_);try simp(disch:=first|omega|assumption|((repeat(first|exact A1|exact uH|apply A2|apply uT));first|done|fail)|(simp;first|done|omega|fail))[]))
  refine B1 y ⟨rfl, hy⟩ ?_
  simp only [C8, List.cons_append, List.nil_append]
  (repeat' constructor)
theorem A6M (w : World) (b : Nat) (c : CfgV) (pc ps pk tv pv now : Value) (who : Int) (hwk : c.wk ≤ 64) (hb : bl w b = some (.cells (E2 c pc ps pk tv pv now) 39 (0, 0))) :
  Fn PR B8 57 #[.pointer (some ⟨b, 0, none⟩), .int .i64 who] w (fun u w' => u = .int .i64 (G0 c who) ∧ C7 [] w w') := by
 refine Fn.pure (A98 (TW.go (κ := false) (S := []) ?_))
 unfold A2s
 have h0 : w.cell? ⟨b, 0, none⟩ = some (.int .i64 c.wk) := by rw [E5 hb]; rfl
 unfold G0
 by_cases c1 : who < 1
 ·rw [if_pos (Or.inl c1)]
  (have zz:=trivial;repeat((first|clear zz|with_reducible first|refine A3 ?_|refine A5 fun _=>?_|refine A4 fun _=>?_);try simp(disch:=first|omega|assumption|((repeat(first|exact A1|exact uH|apply A2|apply uT));first|done|fail)|(simp;first|done|omega|fail))[c1]))
  exact B0 rfl
 by_cases c2 : c.wk < who
 ·rw [if_pos (Or.inr c2)]
  (have zz:=trivial;repeat((first|clear zz|with_reducible first|refine A3 ?_|refine A5 fun _=>?_|refine A4 fun _=>?_);try simp(disch:=first|omega|assumption|((repeat(first|exact A1|exact uH|apply A2|apply uT));first|done|fail)|(simp;first|done|omega|fail))[c1, c2, h0]))
  exact B0 rfl
 rw [if_neg (by omega)]
 (have zz:=trivial;repeat((first|clear zz|with_reducible first|refine A3 ?_|refine A5 fun _=>?_|refine A4 fun _=>?_);try simp(disch:=first|omega|assumption|((repeat(first|exact A1|exact uH|apply A2|apply uT));first|done|fail)|(simp;first|done|omega|fail))[c1, c2, h0]))
 exact B0 (by congr 1; omega)
end Go.Proofs.YtjobgnabneddjaaGreat
namespace Go.Proofs.YtjobgnabneddjaaGreat
open Go
def M4 (t : A2F) : Value := .agg #[.bool t.1, .bool t.2.1, .bool t.2.2]
end Go.Proofs.YtjobgnabneddjaaGreat
namespace Go.Proofs.YtjobgnabneddjaaGreat
open Go
structure WsOk (x : WS) : Prop where
 wk : 1 ≤ x.c.wk ∧ x.c.wk ≤ 64
 cells : x.cells.length = 2 + x.c.wk.toNat
 own : x.own.length ≤ 16
 sl : x.sl.length ≤ 8
 keep : x.keep.length ≤ 8
def WoH.sk (m : WoH) (ls : List SlH) (keep : List (Int × Int)) : WoH := { m with ls := ls, keep := keep }
end Go.Proofs.YtjobgnabneddjaaGreat
namespace Go.Proofs.YtjobgnabneddjaaGreat
open Go
structure WoD where
 cn : Int
 cells : List Int
 ls : List SlH
 keep : List (Int × Int)
def WoH.up (m : WoH) (d : WoD) : WoH := { m with cn := d.cn, cells := d.cells, ls := d.ls, keep := d.keep }
end Go.Proofs.YtjobgnabneddjaaGreat
namespace Go.Proofs.YtjobgnabneddjaaGreat
open Go
end Go.Proofs.YtjobgnabneddjaaGreat
namespace Go.Proofs.YtjobgnabneddjaaGreat
open Go
end Go.Proofs.YtjobgnabneddjaaGreat
namespace Go.Proofs.YtjobgnabneddjaaGreat
open Go
abbrev N5 := List (Value × List EnV)
def A23 (a b : N5) : Prop := ∀ t ∈ a, t ∈ b
theorem A23.left {a b : N5} (h : A23 a b) (c : N5) : A23 a (b ++ c) := fun t ht => List.mem_append_left _ (h t ht)
def B2a (a b : N5) (t : List EnV) : Prop := A23 a b ∧ ∀ x ∈ b, x ∈ a ∨ x.2 = t
theorem B2a.same (a : N5) (t : List EnV) : B2a a a t := ⟨fun x hx => hx, fun x hx => Or.inl hx⟩
theorem B2a.push (a : N5) (v : Value) (t : List EnV) : B2a a (a ++ [(v, t)]) t := ⟨fun x hx => List.mem_append_left _ hx, fun x hx => by
 rcases List.mem_append.1 hx with hx | hx
 ·exact Or.inl hx
 ·rw [List.mem_singleton.1 hx]; exact Or.inr rfl⟩
structure TabsOk (m : WoH) (P : N5) : Prop where
 few : m.ts.length ≤ 1000
 pl : m.pl.length = m.ts.length
 len : ∀ t ∈ m.ts, t.2.length ≤ 1000000
 keys : ∀ t ∈ m.ts, Q6 t.2
 own : m.own.length ≤ 1024
 pool : A23 m.ts P
theorem C3r {α : Type} {f : α → Value} (l : List α) (i : Nat) (x : α) (h : i < l.length) : Y5 (l.map f) i [f x] = (l.set i x).map f := by rw [B65 (by simpa using h), List.map_set]
theorem A9B {κ : Bool} {S : List Nat} {w0 : World} {H : List Res} {K0 : WP} {P : N5} {v : Value} {l : List EnV} (hm : Y3 P ∈ H) (ht : (v, l) ∈ P) (h : ∀ a c, v = .slice a l.length c → TW κ S w0 H K0) : TW κ S w0 H K0 := fun w hw => by
 obtain ⟨a, c, e⟩ := P3.form ((hw.hold _ hm : B3f P w) _ ht)
 exact h a c e w hw
end Go.Proofs.YtjobgnabneddjaaGreat
namespace Go.Proofs.YtjobgnabneddjaaGreat
open Go
end Go.Proofs.YtjobgnabneddjaaGreat
namespace Go.Proofs.YtjobgnabneddjaaGreat
open Go
end Go.Proofs.YtjobgnabneddjaaGreat
namespace Go.Proofs.YtjobgnabneddjaaGreat
open Go
def A19 : Nat → RunV → RunV → Prop
 | 0, r, r' => r = r'
 | k + 1, r, r' => r.j.ready r.x = true ∧ A19 k r.next r'
theorem A19.trans {r r' r'' : RunV} : ∀ {k m : Nat}, A19 k r r' → A19 m r' r'' → A19 (k + m) r r''
 | 0, m, h, h' => by cases h; simpa using h'
 | k + 1, m, h, h' => by
  rw [show k + 1 + m = k + m + 1 by omega]
  exact ⟨h.1, A19.trans h.2 h'⟩
theorem A19.run {r r' : RunV} : ∀ {k : Nat} (f : Nat), A19 k r r' → B1k (k + f) r = B1k f r'
 | 0, f, h => by cases h; simp
 | k + 1, f, h => by
  rw [show k + 1 + f = k + f + 1 by omega, B1k, if_pos h.1]
  exact A19.run f h.2
theorem C6W {r : RunV} (h : r.j.b.st = -1) : ∀ f, B1k f r = r
 | 0 => rfl
 | f + 1 => by rw [B1k, if_neg (by simp [JV.ready, h])]
theorem A19.ends {r r' : RunV} {k : Nat} (h : A19 k r r') (hk : k ≤ 200) (he : r'.j.b.st = -1) : B1k 200 r = r' := by
 have := h.run (200 - k)
 rw [show k + (200 - k) = 200 by omega] at this
 rw [this, C6W he]
theorem A19.one {r : RunV} (h : r.j.ready r.x = true) : A19 1 r r.next := ⟨h, rfl⟩
def C5E (x : WS) (k : Nat) : List Int := (List.range k).map fun i : Nat => D2 x.cells (G0 x.c (((i : Nat) : Int) + 1))
def A9U (P : List Int) (l : List (Int × Int)) : List (Int × Int) := l.map fun s => if m4 P s then (0, 0) else s
def A9L (P : List Int) (l : List (Int × Int)) (s : List SlV) : List SlV := List.zipWith (fun k s => if m4 P k then .no else s) l s
theorem D0E (P : List Int) : m4 P (0, 0) = false := rfl
end Go.Proofs.YtjobgnabneddjaaGreat
namespace Go.Proofs.YtjobgnabneddjaaGreat
open Go
theorem A3j (l : List SlV) (i : Int) (x : SlV) : (l5 l i x).length = l.length := by unfold l5; split <;> simp
theorem C0j (l : List SlV) (i : Int) (p : List E6) : (s8 l i p).length = l.length := by
 unfold s8; split
 ·split
  ·exact A3j _ _ _
  ·rfl
 ·rfl
theorem C1W (l : List (Int × Int)) (i a : Int) (s : Int × Int) : (B2b l i a s).length = l.length := by unfold B2b; split <;> simp
theorem B2f (l : List (Int × Int)) : (A0s l).length = l.length := by unfold A0s; split <;> simp
theorem A0k (l : List Int) (i v : Int) : (H5 l i v).length = l.length := by unfold H5; split <;> simp
theorem A11 (l : List Int) (i v : Int) : D2 (H5 l i v) i = if 0 ≤ i ∧ i < l.length then v else 0 := by
 unfold D2 H5
 by_cases h : 0 ≤ i ∧ i < l.length
 ·rw [if_pos h, if_pos h, if_pos (by rw [List.length_set]; exact h), List.getD_eq_getElem?_getD, List.getElem?_set_self (by omega)]; rfl
 ·rw [if_neg h, if_neg h, if_neg h]
theorem m0 {i k : Int} (l : List Int) (v : Int) (h : i ≠ k) : D2 (H5 l i v) k = D2 l k := by
 unfold D2 H5
 by_cases h1 : 0 ≤ i ∧ i < l.length
 ·rw [if_pos h1, List.length_set]
  by_cases h2 : 0 ≤ k ∧ k < l.length
  ·rw [if_pos h2, if_pos h2, List.getD_eq_getElem?_getD, List.getD_eq_getElem?_getD, List.getElem?_set_ne (by omega)]
  ·rw [if_neg h2, if_neg h2]
 ·rw [if_neg h1]
end Go.Proofs.YtjobgnabneddjaaGreat
namespace Go.Proofs.YtjobgnabneddjaaGreat
open Go
theorem V3 : ∀ A : List Res, Sels A A
 | [] => Sels.nil
 | r :: A => Sels.cons Sel.here (V3 A)
theorem B1F (B : List Res) : ∀ A : List Res, Part A (A ++ B) B
 | [] => Part.nil
 | r :: A => Part.cons Sel.here (B1F B A)
end Go.Proofs.YtjobgnabneddjaaGreat
namespace Go.Proofs.YtjobgnabneddjaaGreat
open Go
theorem Fn.frame {f : FuncId} {args : Array Value} {w : World} {α : Type} {φ : α → Value → Prop} {Hn : α → List Res} {Hc Hk : List Res} (h : Fn PR B8 f args w (Rn (B5 Hc) w φ Hn)) (hw : LW false (B5 (Hc ++ Hk)) w (Hc ++ Hk) w) :
  Fn PR B8 f args w (Rn (B5 (Hc ++ Hk)) w φ fun a => Hn a ++ Hk) := h.mono fun v w' ⟨a, h1, h2⟩ => ⟨a, h1, hw.part h2⟩
structure WoAt (w : World) (m : WoH) : Prop where
 b : bl w m.b = some (.cells (E2 m.c (.pointer (some ⟨m.bc, 0, none⟩)) (.pointer (some ⟨m.bs, 0, none⟩)) (.pointer (some ⟨m.bk, 0, none⟩)) m.tv m.pv (.int .i64 m.now)) 39 (0, 0))
 c : bl w m.bc = some (.cells #[.int .i64 m.cn, m.cv, m.ov] 141 (0, 0))
 v : G1 w m.ov m.own.length (F9 m.own)
theorem WoAt.own {κ : Bool} {S : List Nat} {w0 w : World} {H : List Res} {m : WoH} (hw : LW κ S w0 H w) (h : ∀ r ∈ C8 m, r ∈ H) : WoAt w m :=
 ⟨hw.pt (h _ (by unfold C8 E0; (repeat constructor))), hw.pt (h _ (by unfold C8; (repeat constructor))), P6.own (e := 3) (k := 1) (h _ (by unfold C8; (repeat constructor))) w hw⟩
theorem WoAt.ks {w w' : World} {m : WoH} (h : WoAt w m) (hk : KS false [] w w') : WoAt w' m := ⟨hk.2.1 _ _ (by simp) rfl h.b, hk.2.1 _ _ (by simp) rfl h.c, h.v.ks hk (by simp)⟩
end Go.Proofs.YtjobgnabneddjaaGreat
namespace Go.Proofs.YtjobgnabneddjaaGreat
open Go
def G5 (j : JW) (tv : Value) : Array Value := #[.string j.text, .string j.key, .int .i64 j.shard, .bool j.closing, .int .i64 j.who, .int .i64 j.st, .int .i64 j.ep, .int .i64 j.slot, .int .i64 j.now, tv, .int .i64 j.ans.err, .int .i64 j.ans.bk, .bool j.ans.made, .int .i64 j.ans.count]
def E9 (b : Nat) (j : JW) (tv : Value) : Res := .pt b (.cells (G5 j tv) 130)
theorem A7V (w : World) (who : Int) (text : ByteArray) :
  Fn PR B8 17 #[.int .i64 who, .string text] w (Rn [] w (fun (b : Nat) u => u = .pointer (some ⟨b, 0, none⟩)) fun b => [E9 b (D9 who text) G6]) := by
 refine B5W (TW.go (κ := false) (S := []) ?_)
 unfold A8P
 (have zz:=trivial;repeat((first|clear zz|with_reducible first|refine A3 ?_|refine A5 fun _=>?_|refine A4 fun _=>?_);try simp(disch:=first|omega|assumption|((repeat(first|exact A1|exact uH|apply A2|apply uT));first|done|fail)|(simp;first|done|omega|fail))[]))
 rename_i b
 refine B1 b rfl ?_
 simp only [E9, G5, D9, G6, noA, L9]
 (repeat' constructor)
theorem C6m {w : World} {b : Nat} {j : JW} {tv : Value} (h : bl w b = some (.cells (G5 j tv) 130 (0, 0))) : w.cell? ⟨b, 5, none⟩ = some (.int .i64 j.st) := by rw [E5 h]; rfl
theorem A3U (w : World) (b : Nat) (j : JW) (tv : Value) (h : bl w b = some (.cells (G5 j tv) 130 (0, 0))) :
  Fn PR B8 22 #[.pointer (some ⟨b, 0, none⟩)] w (fun u w' => u = .int .i64 j.st ∧ C7 [] w w') := by
 refine Fn.pure (A8b (TW.go (κ := false) (S := []) ?_))
 unfold A1m
 have h5 := C6m h
 (have zz:=trivial;repeat((first|clear zz|with_reducible first|refine A3 ?_|refine A5 fun _=>?_|refine A4 fun _=>?_);try simp(disch:=first|omega|assumption|((repeat(first|exact A1|exact uH|apply A2|apply uT));first|done|fail)|(simp;first|done|omega|fail))[h5]))
 exact B0 rfl
theorem A2M (w : World) (b : Nat) (j : JW) (tv : Value) (h : bl w b = some (.cells (G5 j tv) 130 (0, 0))) :
  Fn PR B8 27 #[.pointer (some ⟨b, 0, none⟩)] w (fun u w' => u = j.ans.val ∧ C7 [] w w') := by
 refine Fn.pure (A7f (TW.go (κ := false) (S := []) ?_))
 unfold A0v
 have e2 : k8 w b 10 4 = some [.int .i64 j.ans.err, .int .i64 j.ans.bk, .bool j.ans.made, .int .i64 j.ans.count] := A10 (by rfl) (N1.bl h)
 (have zz:=trivial;repeat((first|clear zz|with_reducible first|refine A3 ?_|refine A5 fun _=>?_|refine A4 fun _=>?_);try simp(disch:=first|omega|assumption|((repeat(first|exact A1|exact uH|apply A2|apply uT));first|done|fail)|(simp;first|done|omega|fail))[e2]))
 exact B0 rfl
theorem C0U (w : World) (b : Nat) (j : JW) (tv : Value) (m : WoH) (h : bl w b = some (.cells (G5 j tv) 130 (0, 0))) (hm : WoAt w m) :
  Fn PR B8 23 #[.pointer (some ⟨b, 0, none⟩), .pointer (some ⟨m.b, 0, none⟩)] w (fun u w' => u = .bool (j.ready m.ws) ∧ C7 [] w w') := by
 refine Fn.pure (A8y (TW.go (κ := false) (S := []) ?_))
 unfold A1a
 have h5 := C6m h
 have h2 : w.cell? ⟨b, 2, none⟩ = some (.int .i64 j.shard) := by rw [E5 h]; rfl
 have hc : w.cell? ⟨m.b, 5, none⟩ = some (.pointer (some ⟨m.bc, 0, none⟩)) := by rw [E5 hm.b]; rfl
 have ho : m.ws.own = m.own := rfl
 unfold JW.ready
 by_cases c1 : j.st < 10
 case neg =>
  (have zz:=trivial;repeat((first|clear zz|with_reducible first|refine A3 ?_|refine A5 fun _=>?_|refine A4 fun _=>?_);try simp(disch:=first|omega|assumption|((repeat(first|exact A1|exact uH|apply A2|apply uT));first|done|fail)|(simp;first|done|omega|fail))[h5, c1]))
  exact B0 (by simp [c1])
 by_cases c2 : j.st = 3
 case neg =>
  (have zz:=trivial;repeat((first|clear zz|with_reducible first|refine A3 ?_|refine A5 fun _=>?_|refine A4 fun _=>?_);try simp(disch:=first|omega|assumption|((repeat(first|exact A1|exact uH|apply A2|apply uT));first|done|fail)|(simp;first|done|omega|fail))[h5, c1, c2]))
  exact B0 (by simp [c1, c2])
 (have zz:=trivial;repeat((first|clear zz|with_reducible first|refine A3 ?_|refine A5 fun _=>?_|refine A4 fun _=>?_);try simp(disch:=first|omega|assumption|((repeat(first|exact A1|exact uH|apply A2|apply uT));first|done|fail)|(simp;first|done|omega|fail))[h5, c1, c2, h2, hc]))
 refine C1 A6c (fun w' hw' => let g := hm.ks hw'.ks; C2c w' m.bc m.cn m.cv m.ov m.own j.shard g.c g.v) ?_
 (have zz:=trivial;repeat((first|clear zz|with_reducible first|refine A3 ?_|refine A5 fun _=>?_|refine A4 fun _=>?_);try simp(disch:=first|omega|assumption|((repeat(first|exact A1|exact uH|apply A2|apply uT));first|done|fail)|(simp;first|done|omega|fail))[c1, c2]))
 exact B0 (by simp [c2, ho])
theorem B09 (w : World) (b : Nat) (j : JW) (tv : Value) (e : Int) (hw : LW false [b] w [E9 b j tv] w) :
  Fn PR B8 130 #[.pointer (some ⟨b, 0, none⟩), .int .i64 e] w (Rn [b] w (fun (_ : Unit) u => u = M4 (true, true, false)) fun _ => [E9 b (j.refuse e) tv]) := by
 refine A7j (TW.goH (κ := false) (S := [b]) ?_ hw)
 unfold A0w
 simp only [E9, G5, JW.refuse]
 (have zz:=trivial;repeat((first|clear zz|with_reducible first|refine A3 ?_|refine A5 fun _=>?_|refine A4 fun _=>?_);try simp(disch:=first|omega|assumption|((repeat(first|exact A1|exact uH|apply A2|apply uT));first|done|fail)|(simp;first|done|omega|fail))[]))
 exact B1 () rfl (by (repeat' constructor))
theorem B4w (w : World) (b : Nat) (j : JW) (tv : Value) (sh : Int) (ht : j.text.size < 2 ^ 40) (hsh : sh < 2 ^ 63) (hw : LW false [b] w [E9 b j tv] w) :
  Fn PR B8 131 #[.pointer (some ⟨b, 0, none⟩), .int .i64 sh] w (Rn [b] w (fun (_ : Unit) u => u = .bool (decide ((E1 j.text).2.2 = 0))) fun _ => [E9 b (if (E1 j.text).2.2 = 0 then j.rd sh else j) tv]) := by
 refine A80 (TW.goH (κ := false) (S := [b]) ?_ hw)
 unfold A1c
 simp only [E9, G5]
 (have zz:=trivial;repeat((first|clear zz|with_reducible first|refine A3 ?_|refine A5 fun _=>?_|refine A4 fun _=>?_);try simp(disch:=first|omega|assumption|((repeat(first|exact A1|exact uH|apply A2|apply uT));first|done|fail)|(simp;first|done|omega|fail))[]))
 refine C1 A4D (fun w' hw' => B3y w' j.text ht) ?_
 by_cases c1 : (E1 j.text).2.2 = 0
 case neg =>
  simp only [if_neg c1, decide_eq_false c1]
  (have zz:=trivial;repeat((first|clear zz|with_reducible first|refine A3 ?_|refine A5 fun _=>?_|refine A4 fun _=>?_);try simp(disch:=first|omega|assumption|((repeat(first|exact A1|exact uH|apply A2|apply uT));first|done|fail)|(simp;first|done|omega|fail))[packet.val, T7, c1]))
  exact B1 () rfl (by (repeat' constructor))
 simp only [if_pos c1, decide_eq_true c1]
 have hk := A9Q (E1 j.text).1
 (have zz:=trivial;repeat((first|clear zz|with_reducible first|refine A3 ?_|refine A5 fun _=>?_|refine A4 fun _=>?_);try simp(disch:=first|omega|assumption|((repeat(first|exact A1|exact uH|apply A2|apply uT));first|done|fail)|(simp;first|done|omega|fail))[packet.val, T7, c1]))
 refine C1 (u := A6x (E1 j.text).1) B1r (fun w' hw' => C3n w' (E1 j.text).1) ?_
 (have zz:=trivial;repeat((first|clear zz|with_reducible first|refine A3 ?_|refine A5 fun _=>?_|refine A4 fun _=>?_);try simp(disch:=first|omega|assumption|((repeat(first|exact A1|exact uH|apply A2|apply uT));first|done|fail)|(simp;first|done|omega|fail))[A6x]))
 rw [show (if Y6 (E1 j.text).1 = true then A4A (E1 j.text).1 else L9) = l7 (E1 j.text).1 from rfl]
 refine C1 B3M (fun w' hw' => C4A w' _ sh hk hsh) ?_
 (have zz:=trivial;repeat((first|clear zz|with_reducible first|refine A3 ?_|refine A5 fun _=>?_|refine A4 fun _=>?_);try simp(disch:=first|omega|assumption|((repeat(first|exact A1|exact uH|apply A2|apply uT));first|done|fail)|(simp;first|done|omega|fail))[]))
 rw [A4E (by (repeat constructor)) (by rfl)]
 refine C1 A2w (fun w' _ => B3C w' (E1 j.text).1 (E1 j.text).2.1) ?_
 (have zz:=trivial;repeat((first|clear zz|with_reducible first|refine A3 ?_|refine A5 fun _=>?_|refine A4 fun _=>?_);try simp(disch:=first|omega|assumption|((repeat(first|exact A1|exact uH|apply A2|apply uT));first|done|fail)|(simp;first|done|omega|fail))[]))
 refine B1 () rfl ?_
 simp only [JW.rd]
 (repeat' constructor)
end Go.Proofs.YtjobgnabneddjaaGreat
namespace Go.Proofs.YtjobgnabneddjaaGreat
open Go
structure WoZ where
 cn : Int
 cells : List Int
 own : List Int
 tv : Value
 ts : N5
def WoH.uz (m : WoH) (d : WoZ) : WoH := { m with cn := d.cn, cells := d.cells, own := d.own, tv := d.tv, ts := d.ts }
def WoH.dz (m : WoH) : WoZ := ⟨m.cn, m.cells, m.own, m.tv, m.ts⟩
structure JwOk (j : JW) (tv : Value) (m : WoH) (P : N5) : Prop where
 ws : WsOk m.ws
 tabs : TabsOk m P
 tb : (tv, j.table) ∈ P
 shn : m.ts.length = m.c.sh
 text : j.text.size < 2 ^ 40
 key : j.key.size < 2 ^ 60
 shard : 0 ≤ j.shard ∧ j.shard < m.ts.length
 keys : Q6 j.table
 len : j.table.length ≤ 1000000
 slot : -1 ≤ j.slot ∧ j.slot ≤ 1000
 ep : 0 ≤ D2 m.cells 0 ∧ D2 m.cells 0 ≤ 1000000
 cur : 0 ≤ D2 m.cells 1 ∧ D2 m.cells 1 ≤ 1000
abbrev JwY := Value × WoZ × N5
def jwF (m : WoH) (P : N5) (r : JwR) (y : JwY) : Prop := (m.uz y.2.1).ws = r.2.1 ∧ A23 y.2.1.ts y.2.2 ∧ (y.1, r.1.table) ∈ y.2.2 ∧ B2a P y.2.2 r.1.table
def P1 (b : Nat) (m : WoH) (r : JwR) (y : JwY) : List Res := E9 b r.1 y.1 :: Y3 y.2.2 :: C8 (m.uz y.2.1)
def F3 (b : Nat) (j : JW) (tv : Value) (m : WoH) (P : N5) : List Res := E9 b j tv :: Y3 P :: C8 m
abbrev A4M (f : FuncId) (w : World) (b : Nat) (j : JW) (tv : Value) (m : WoH) (P : N5) (r : JwR) : Prop :=
 Fn PR B8 f #[.pointer (some ⟨b, 0, none⟩), .pointer (some ⟨m.b, 0, none⟩)] w (Rn (B5 (F3 b j tv m P)) w (fun (y : JwY) u => u = M4 r.2.2 ∧ jwF m P r y) (P1 b m r))
theorem M3 {m : WoH} {P : N5} {tv : Value} {r : JwR} {d : WoZ} (h1 : (m.uz d).ws = r.2.1) (h2 : d.ts = m.ts) (hP : A23 m.ts P) (h3 : (tv, r.1.table) ∈ P) : jwF m P r (tv, d, P) := ⟨h1, by rw [h2]; exact hP, h3, .same _ _⟩
theorem C7B (w : World) (b : Nat) (j : JW) (tv : Value) (m : WoH) (P : N5) (h : JwOk j tv m P) (hw : LW false (B5 (F3 b j tv m P)) w (F3 b j tv m P) w) : A4M 77 w b j tv m P (jw1 j m.ws) := by
 refine B0x (TW.goH (κ := false) ?_ hw)
 unfold A3C
 have hwk := h.ws.wk
 have hcl : m.cells.length ≤ 1024 := by have := h.ws.cells; have e : m.ws.cells = m.cells := rfl; rw [e] at this; omega
 generalize hS : B5 (F3 b j tv m P) = S at *
 simp only [F3, E9, G5, C8, E0, E2]
 (have zz:=trivial;repeat((first|clear zz|with_reducible first|refine A3 ?_|refine A5 fun _=>?_|refine A4 fun _=>?_);try simp(disch:=first|omega|assumption|((repeat(first|exact A1|exact uH|apply A2|apply uT));first|done|fail)|(simp;first|done|omega|fail))[]))
 refine C1 S6 (fun w' hw' => A6M w' m.b m.c _ _ _ _ _ _ j.who hwk.2 (hw'.pt (b := m.b) (by unfold E2; (repeat constructor)))) ?_
 (have zz:=trivial;repeat((first|clear zz|with_reducible first|refine A3 ?_|refine A5 fun _=>?_|refine A4 fun _=>?_);try simp(disch:=first|omega|assumption|((repeat(first|exact A1|exact uH|apply A2|apply uT));first|done|fail)|(simp;first|done|omega|fail))[]))
 refine C6 (Hc := D1 m.bc m.cn m.cv m.ov m.cells m.own) j5 (fun w' _ hs => A9A w' m.bc m.cn m.cv m.ov m.cells m.own (G0 m.c j.who) (IntKind.i64.wrap (j.ep + 1)) hcl hs) (by unfold D1; (repeat' constructor)) ?_
 rintro n' v rfl
 simp only [D1, List.cons_append, List.nil_append]
 (have zz:=trivial;repeat((first|clear zz|with_reducible first|refine A3 ?_|refine A5 fun _=>?_|refine A4 fun _=>?_);try simp(disch:=first|omega|assumption|((repeat(first|exact A1|exact uH|apply A2|apply uT));first|done|fail)|(simp;first|done|omega|fail))[]))
 refine B1 (tv, { m.dz with cn := n', cells := H5 m.cells (G0 m.c j.who) (IntKind.i64.wrap (j.ep + 1)) }, P) ⟨rfl, M3 rfl rfl h.tabs.pool h.tb⟩ ?_
 simp only [P1, jw1, E9, G5, C8, E0, E2, WoH.uz, WoH.dz]
 (repeat' constructor)
theorem C7E (w : World) (b : Nat) (j : JW) (tv : Value) (m : WoH) (P : N5) (h : JwOk j tv m P) (hw : LW false (B5 (F3 b j tv m P)) w (F3 b j tv m P) w) : A4M 85 w b j tv m P (jw9 j m.ws) := by
 refine A8q (TW.goH (κ := false) ?_ hw)
 unfold A1k
 have hwk := h.ws.wk
 have hcl : m.cells.length ≤ 1024 := by have := h.ws.cells; have e : m.ws.cells = m.cells := rfl; rw [e] at this; omega
 generalize hS : B5 (F3 b j tv m P) = S at *
 simp only [F3, E9, G5, C8, E0, E2]
 (have zz:=trivial;repeat((first|clear zz|with_reducible first|refine A3 ?_|refine A5 fun _=>?_|refine A4 fun _=>?_);try simp(disch:=first|omega|assumption|((repeat(first|exact A1|exact uH|apply A2|apply uT));first|done|fail)|(simp;first|done|omega|fail))[]))
 refine C1 S6 (fun w' hw' => A6M w' m.b m.c _ _ _ _ _ _ j.who hwk.2 (hw'.pt (b := m.b) (by unfold E2; (repeat constructor)))) ?_
 (have zz:=trivial;repeat((first|clear zz|with_reducible first|refine A3 ?_|refine A5 fun _=>?_|refine A4 fun _=>?_);try simp(disch:=first|omega|assumption|((repeat(first|exact A1|exact uH|apply A2|apply uT));first|done|fail)|(simp;first|done|omega|fail))[]))
 refine C6 (Hc := D1 m.bc m.cn m.cv m.ov m.cells m.own) j5 (fun w' _ hs => A9A w' m.bc m.cn m.cv m.ov m.cells m.own (G0 m.c j.who) 0 hcl hs) (by unfold D1; (repeat' constructor)) ?_
 rintro n' v rfl
 simp only [D1, List.cons_append, List.nil_append]
 (have zz:=trivial;repeat((first|clear zz|with_reducible first|refine A3 ?_|refine A5 fun _=>?_|refine A4 fun _=>?_);try simp(disch:=first|omega|assumption|((repeat(first|exact A1|exact uH|apply A2|apply uT));first|done|fail)|(simp;first|done|omega|fail))[]))
 refine B1 (tv, { m.dz with cn := n', cells := H5 m.cells (G0 m.c j.who) 0 }, P) ⟨rfl, M3 rfl rfl h.tabs.pool h.tb⟩ ?_
 simp only [P1, jw9, E9, G5, C8, E0, E2, WoH.uz, WoH.dz]
 (repeat' constructor)
theorem C6e (w : World) (b : Nat) (j : JW) (tv : Value) (m : WoH) (P : N5) (h : JwOk j tv m P) (hw : LW false (B5 (F3 b j tv m P)) w (F3 b j tv m P) w) : A4M 79 w b j tv m P (jw3 j m.ws) := by
 refine A9N (TW.goH (κ := false) ?_ hw)
 unfold A2g
 have hol := h.tabs.own
 generalize hS : B5 (F3 b j tv m P) = S at *
 simp only [F3, E9, G5, C8, E0, E2]
 (have zz:=trivial;repeat((first|clear zz|with_reducible first|refine A3 ?_|refine A5 fun _=>?_|refine A4 fun _=>?_);try simp(disch:=first|omega|assumption|((repeat(first|exact A1|exact uH|apply A2|apply uT));first|done|fail)|(simp;first|done|omega|fail))[]))
 refine C6 (Hc := D1 m.bc m.cn m.cv m.ov m.cells m.own) A1E (fun w' _ hs => B5w w' m.bc m.cn m.cv m.ov m.cells m.own j.shard j.who hol hs) (by unfold D1; (repeat' constructor)) ?_
 rintro n' v ⟨r, rfl⟩
 simp only [D1, List.cons_append, List.nil_append]
 (have zz:=trivial;repeat((first|clear zz|with_reducible first|refine A3 ?_|refine A5 fun _=>?_|refine A4 fun _=>?_);try simp(disch:=first|omega|assumption|((repeat(first|exact A1|exact uH|apply A2|apply uT));first|done|fail)|(simp;first|done|omega|fail))[]))
 refine B1 (tv, { m.dz with cn := n', own := W7 m.own j.shard j.who }, P) ⟨rfl, M3 rfl rfl h.tabs.pool h.tb⟩ ?_
 simp only [P1, jw3, E9, G5, C8, E0, E2, WoH.uz, WoH.dz]
 (repeat' constructor)
theorem C65 (w : World) (b : Nat) (j : JW) (tv : Value) (m : WoH) (P : N5) (h : JwOk j tv m P) (hw : LW false (B5 (F3 b j tv m P)) w (F3 b j tv m P) w) : A4M 84 w b j tv m P (jw8 j m.ws) := by
 refine A7w (TW.goH (κ := false) ?_ hw)
 unfold A1C
 have hol := h.tabs.own
 generalize hS : B5 (F3 b j tv m P) = S at *
 simp only [F3, E9, G5, C8, E0, E2]
 (have zz:=trivial;repeat((first|clear zz|with_reducible first|refine A3 ?_|refine A5 fun _=>?_|refine A4 fun _=>?_);try simp(disch:=first|omega|assumption|((repeat(first|exact A1|exact uH|apply A2|apply uT));first|done|fail)|(simp;first|done|omega|fail))[]))
 refine C6 (Hc := D1 m.bc m.cn m.cv m.ov m.cells m.own) y7 (fun w' _ hs => B17 w' m.bc m.cn m.cv m.ov m.cells m.own j.shard j.who hol hs) (by unfold D1; (repeat' constructor)) ?_
 rintro n' v ⟨r, rfl⟩
 simp only [D1, List.cons_append, List.nil_append]
 (have zz:=trivial;repeat((first|clear zz|with_reducible first|refine A3 ?_|refine A5 fun _=>?_|refine A4 fun _=>?_);try simp(disch:=first|omega|assumption|((repeat(first|exact A1|exact uH|apply A2|apply uT));first|done|fail)|(simp;first|done|omega|fail))[]))
 refine B1 (tv, { m.dz with cn := n', own := N4 m.own j.shard j.who }, P) ⟨rfl, M3 rfl rfl h.tabs.pool h.tb⟩ ?_
 simp only [P1, jw8, E9, G5, C8, E0, E2, WoH.uz, WoH.dz]
 (repeat' constructor)
theorem C68 (w : World) (b : Nat) (j : JW) (tv : Value) (m : WoH) (P : N5) (h : JwOk j tv m P) (hw : LW false (B5 (F3 b j tv m P)) w (F3 b j tv m P) w) : A4M 78 w b j tv m P (jw2 j m.ws) := by
 refine A8z (TW.goH (κ := false) ?_ hw)
 unfold A1f
 have hwk := h.ws.wk
 have hcl : m.cells.length ≤ 1024 := by have := h.ws.cells; have e : m.ws.cells = m.cells := rfl; rw [e] at this; omega
 generalize hS : B5 (F3 b j tv m P) = S at *
 have e0 : D2 m.ws.cells 0 = D2 m.cells 0 := rfl
 unfold jw2
 rw [e0]
 by_cases c1 : D2 m.cells 0 = j.ep
 ·rw [if_pos c1]
  simp only [F3, E9, G5, C8, E0, E2]
  (have zz:=trivial;repeat((first|clear zz|with_reducible first|refine A3 ?_|refine A5 fun _=>?_|refine A4 fun _=>?_);try simp(disch:=first|omega|assumption|((repeat(first|exact A1|exact uH|apply A2|apply uT));first|done|fail)|(simp;first|done|omega|fail))[]))
  refine C6 (Hc := D1 m.bc m.cn m.cv m.ov m.cells m.own) U9 (fun w' _ hs => A69 w' m.bc m.cn m.cv m.ov m.cells m.own 0 hcl hs) (by unfold D1; (repeat' constructor)) ?_
  rintro n' v rfl
  rw [c1]
  simp only [D1, List.cons_append, List.nil_append]
  (have zz:=trivial;repeat((first|clear zz|with_reducible first|refine A3 ?_|refine A5 fun _=>?_|refine A4 fun _=>?_);try simp(disch:=first|omega|assumption|((repeat(first|exact A1|exact uH|apply A2|apply uT));first|done|fail)|(simp;first|done|omega|fail))[]))
  refine B1 (tv, { m.dz with cn := n' }, P) ⟨rfl, M3 rfl rfl h.tabs.pool h.tb⟩ ?_
  simp only [P1, E9, G5, C8, E0, E2, WoH.uz, WoH.dz]
  (repeat' constructor)
 ·rw [if_neg c1]
  simp only [F3, E9, G5, C8, E0, E2]
  (have zz:=trivial;repeat((first|clear zz|with_reducible first|refine A3 ?_|refine A5 fun _=>?_|refine A4 fun _=>?_);try simp(disch:=first|omega|assumption|((repeat(first|exact A1|exact uH|apply A2|apply uT));first|done|fail)|(simp;first|done|omega|fail))[]))
  refine C6 (Hc := D1 m.bc m.cn m.cv m.ov m.cells m.own) U9 (fun w' _ hs => A69 w' m.bc m.cn m.cv m.ov m.cells m.own 0 hcl hs) (by unfold D1; (repeat' constructor)) ?_
  rintro n' v rfl
  simp only [D1, List.cons_append, List.nil_append]
  (have zz:=trivial;repeat((first|clear zz|with_reducible first|refine A3 ?_|refine A5 fun _=>?_|refine A4 fun _=>?_);try simp(disch:=first|omega|assumption|((repeat(first|exact A1|exact uH|apply A2|apply uT));first|done|fail)|(simp;first|done|omega|fail))[c1]))
  refine B1 (tv, { m.dz with cn := n' }, P) ⟨rfl, M3 rfl rfl h.tabs.pool h.tb⟩ ?_
  simp only [P1, E9, G5, C8, E0, E2, WoH.uz, WoH.dz]
  (repeat' constructor)
theorem C6s (w : World) (b : Nat) (j : JW) (tv : Value) (m : WoH) (P : N5) (h : JwOk j tv m P) (hw : LW false (B5 (F3 b j tv m P)) w (F3 b j tv m P) w) : A4M 80 w b j tv m P (jw4 j m.ws) := by
 refine A6K (TW.goH (κ := false) ?_ hw)
 unfold A0e
 have hwk := h.ws.wk
 have hcl : m.cells.length ≤ 1024 := by have := h.ws.cells; have e : m.ws.cells = m.cells := rfl; rw [e] at this; omega
 generalize hS : B5 (F3 b j tv m P) = S at *
 simp only [F3, E9, G5, C8, E0, E2]
 (have zz:=trivial;repeat((first|clear zz|with_reducible first|refine A3 ?_|refine A5 fun _=>?_|refine A4 fun _=>?_);try simp(disch:=first|omega|assumption|((repeat(first|exact A1|exact uH|apply A2|apply uT));first|done|fail)|(simp;first|done|omega|fail))[]))
 refine C6 (Hc := D1 m.bc m.cn m.cv m.ov m.cells m.own) U9 (fun w' _ hs => A69 w' m.bc m.cn m.cv m.ov m.cells m.own 1 hcl hs) (by unfold D1; (repeat' constructor)) ?_
 rintro n' v rfl
 obtain ⟨z, hz⟩ : ∃ z, z = IntKind.i64.wrap (D2 m.cells 1 - 1) := ⟨_, rfl⟩
 have e4 : jw4 j m.ws = ({ j with slot := z, now := m.now }, m.ws, true, false, false) := by rw [hz]; rfl
 rw [e4]
 simp only [D1, List.cons_append, List.nil_append, C9S, ← hz]
 (have zz:=trivial;repeat((first|clear zz|with_reducible first|refine A3 ?_|refine A5 fun _=>?_|refine A4 fun _=>?_);try simp(disch:=first|omega|assumption|((repeat(first|exact A1|exact uH|apply A2|apply uT));first|done|fail)|(simp;first|done|omega|fail))[← hz]))
 refine B1 (tv, { m.dz with cn := n' }, P) ⟨rfl, M3 rfl rfl h.tabs.pool h.tb⟩ ?_
 simp only [P1, E9, G5, C8, E0, E2, WoH.uz, WoH.dz]
 (repeat' constructor)
theorem C7D (w : World) (b : Nat) (j : JW) (tv : Value) (m : WoH) (P : N5) (h : JwOk j tv m P) (hsh : m.c.sh ≤ 1000) (hw : LW false (B5 (F3 b j tv m P)) w (F3 b j tv m P) w) : A4M 76 w b j tv m P (jw0 j m.ws) := by
 refine A8s (TW.goH (κ := false) ?_ hw)
 unfold A1T
 have hwk := h.ws.wk
 have hcl : m.cells.length ≤ 1024 := by have := h.ws.cells; have e : m.ws.cells = m.cells := rfl; rw [e] at this; omega
 generalize hS : B5 (F3 b j tv m P) = S at *
 have e0 : m.ws.c = m.c := rfl
 have e1 : D2 m.ws.cells 0 = D2 m.cells 0 := rfl
 unfold jw0
 rw [e0, e1]
 by_cases c1 : G0 m.c j.who < 0
 ·rw [if_pos c1]
  simp only [F3, E9, G5, C8, E0, E2]
  (have zz:=trivial;repeat((first|clear zz|with_reducible first|refine A3 ?_|refine A5 fun _=>?_|refine A4 fun _=>?_);try simp(disch:=first|omega|assumption|((repeat(first|exact A1|exact uH|apply A2|apply uT));first|done|fail)|(simp;first|done|omega|fail))[]))
  refine C1 S6 (fun w' hw' => A6M w' m.b m.c _ _ _ _ _ _ j.who hwk.2 (hw'.pt (b := m.b) (by unfold E2; (repeat constructor)))) ?_
  (have zz:=trivial;repeat((first|clear zz|with_reducible first|refine A3 ?_|refine A5 fun _=>?_|refine A4 fun _=>?_);try simp(disch:=first|omega|assumption|((repeat(first|exact A1|exact uH|apply A2|apply uT));first|done|fail)|(simp;first|done|omega|fail))[c1]))
  refine C6 (Hc := [E9 b j tv]) A0b (fun w' _ hs => B09 w' b j tv 1 hs) (by unfold E9 G5; (repeat' constructor)) ?_
  rintro _ v rfl
  simp only [List.cons_append, List.nil_append, M4, E9, G5]
  (have zz:=trivial;repeat((first|clear zz|with_reducible first|refine A3 ?_|refine A5 fun _=>?_|refine A4 fun _=>?_);try simp(disch:=first|omega|assumption|((repeat(first|exact A1|exact uH|apply A2|apply uT));first|done|fail)|(simp;first|done|omega|fail))[]))
  refine B1 (tv, m.dz, P) ⟨rfl, M3 rfl rfl h.tabs.pool h.tb⟩ ?_
  simp only [P1, E9, G5, C8, E0, E2, WoH.uz, WoH.dz]
  (repeat' constructor)
 rw [if_neg c1]
 by_cases c2 : (E1 j.text).2.2 = 0
 case neg =>
  rw [if_pos c2]
  simp only [F3, E9, G5, C8, E0, E2]
  (have zz:=trivial;repeat((first|clear zz|with_reducible first|refine A3 ?_|refine A5 fun _=>?_|refine A4 fun _=>?_);try simp(disch:=first|omega|assumption|((repeat(first|exact A1|exact uH|apply A2|apply uT));first|done|fail)|(simp;first|done|omega|fail))[]))
  refine C1 S6 (fun w' hw' => A6M w' m.b m.c _ _ _ _ _ _ j.who hwk.2 (hw'.pt (b := m.b) (by unfold E2; (repeat constructor)))) ?_
  (have zz:=trivial;repeat((first|clear zz|with_reducible first|refine A3 ?_|refine A5 fun _=>?_|refine A4 fun _=>?_);try simp(disch:=first|omega|assumption|((repeat(first|exact A1|exact uH|apply A2|apply uT));first|done|fail)|(simp;first|done|omega|fail))[c1]))
  refine C6 (Hc := [E9 b j tv]) A02 (fun w' _ hs => B4w w' b j tv m.c.sh h.text (by omega) hs) (by unfold E9 G5; (repeat' constructor)) ?_
  rintro _ v rfl
  rw [decide_eq_false c2, if_neg c2]
  simp only [List.cons_append, List.nil_append]
  (have zz:=trivial;repeat((first|clear zz|with_reducible first|refine A3 ?_|refine A5 fun _=>?_|refine A4 fun _=>?_);try simp(disch:=first|omega|assumption|((repeat(first|exact A1|exact uH|apply A2|apply uT));first|done|fail)|(simp;first|done|omega|fail))[]))
  refine C6 (Hc := [E9 b j tv]) A0b (fun w' _ hs => B09 w' b j tv 9 hs) (by (repeat' constructor)) ?_
  rintro _ v rfl
  simp only [List.cons_append, List.nil_append, M4, E9, G5]
  (have zz:=trivial;repeat((first|clear zz|with_reducible first|refine A3 ?_|refine A5 fun _=>?_|refine A4 fun _=>?_);try simp(disch:=first|omega|assumption|((repeat(first|exact A1|exact uH|apply A2|apply uT));first|done|fail)|(simp;first|done|omega|fail))[]))
  refine B1 (tv, m.dz, P) ⟨rfl, M3 rfl rfl h.tabs.pool h.tb⟩ ?_
  simp only [P1, E9, G5, C8, E0, E2, WoH.uz, WoH.dz]
  (repeat' constructor)
 rw [if_neg (by simpa using c2)]
 simp only [F3, E9, G5, C8, E0, E2]
 (have zz:=trivial;repeat((first|clear zz|with_reducible first|refine A3 ?_|refine A5 fun _=>?_|refine A4 fun _=>?_);try simp(disch:=first|omega|assumption|((repeat(first|exact A1|exact uH|apply A2|apply uT));first|done|fail)|(simp;first|done|omega|fail))[]))
 refine C1 S6 (fun w' hw' => A6M w' m.b m.c _ _ _ _ _ _ j.who hwk.2 (hw'.pt (b := m.b) (by unfold E2; (repeat constructor)))) ?_
 (have zz:=trivial;repeat((first|clear zz|with_reducible first|refine A3 ?_|refine A5 fun _=>?_|refine A4 fun _=>?_);try simp(disch:=first|omega|assumption|((repeat(first|exact A1|exact uH|apply A2|apply uT));first|done|fail)|(simp;first|done|omega|fail))[c1]))
 refine C6 (Hc := [E9 b j tv]) A02 (fun w' _ hs => B4w w' b j tv m.c.sh h.text (by omega) hs) (by unfold E9 G5; (repeat' constructor)) ?_
 rintro _ v rfl
 rw [decide_eq_true c2, if_pos c2]
 have hrt : (j.rd m.c.sh).table = j.table := rfl
 generalize j.rd m.c.sh = j2 at *
 simp only [List.cons_append, List.nil_append, E9, G5]
 (have zz:=trivial;repeat((first|clear zz|with_reducible first|refine A3 ?_|refine A5 fun _=>?_|refine A4 fun _=>?_);try simp(disch:=first|omega|assumption|((repeat(first|exact A1|exact uH|apply A2|apply uT));first|done|fail)|(simp;first|done|omega|fail))[]))
 refine C6 (Hc := D1 m.bc m.cn m.cv m.ov m.cells m.own) U9 (fun w' _ hs => A69 w' m.bc m.cn m.cv m.ov m.cells m.own 0 hcl hs) (by unfold D1; (repeat' constructor)) ?_
 rintro n' v rfl
 simp only [D1, List.cons_append, List.nil_append]
 (have zz:=trivial;repeat((first|clear zz|with_reducible first|refine A3 ?_|refine A5 fun _=>?_|refine A4 fun _=>?_);try simp(disch:=first|omega|assumption|((repeat(first|exact A1|exact uH|apply A2|apply uT));first|done|fail)|(simp;first|done|omega|fail))[]))
 refine B1 (tv, { m.dz with cn := n' }, P) ⟨rfl, M3 rfl rfl h.tabs.pool (by simp only; rw [hrt]; exact h.tb)⟩ ?_
 simp only [P1, E9, G5, C8, E0, E2, WoH.uz, WoH.dz]
 (repeat' constructor)
end Go.Proofs.YtjobgnabneddjaaGreat
namespace Go.Proofs.YtjobgnabneddjaaGreat
open Go
abbrev pW (x : WS) : List Int := C5E x x.c.wk.toNat
abbrev kF (x : WS) : List (Int × Int) := A9U (pW x) x.keep
abbrev sF (x : WS) : List SlV := A9L (pW x) x.keep x.sl
theorem Q7 (P : List Int) (l : List (Int × Int)) : (A9U P l).length = l.length := by unfold A9U; simp
theorem A05 {P : List Int} {l : List (Int × Int)} {s : List SlV} (h : l.length = s.length) : (A9L P l s).length = s.length := by unfold A9L; simp [h]
theorem C56 {l : List SlV} {i : Int} {x : SlV} (h : 0 ≤ i ∧ i < l.length) : l5 l i x = l.set i.toNat x := if_pos h
def epW (x : WS) : Int := IntKind.i64.wrap (D2 x.cells 0 + 1)
def K8 (x : WS) (p : List E6) : WS :=
 { x with cells := H5 (H5 x.cells 1 (U7 (kF x) + 1)) 0 (epW x), sl := l5 (sF x) (U7 (kF x)) (.rdy p), keep := if 0 < D2 x.cells 1 then B6A (A0s (kF x)) (D2 x.cells 1 - 1) (epW x) else A0s (kF x) }
end Go.Proofs.YtjobgnabneddjaaGreat
namespace Go.Proofs.YtjobgnabneddjaaGreat
open Go
theorem B8l {α : Type} {l : List α} {d : α} {i : Nat} (h : i < l.length) : l.getD i d = l[i] := by rw [List.getD_eq_getElem?_getD, List.getElem?_eq_getElem h]; rfl
theorem C1N {x : WS} {i : Nat} (h : (i : Int) < x.c.wk) : G0 x.c (((i : Nat) : Int) + 1) = (i : Nat) + 2 := by unfold G0; rw [if_neg (by omega)]; omega
theorem C7q {x : WS} {p : Int} : p ∈ pW x ↔ ∃ i : Nat, (i : Int) < x.c.wk ∧ p = D2 x.cells ((i : Nat) + 2) := by
 unfold pW C5E
 rw [List.mem_map]
 constructor
 ·rintro ⟨i, hi, rfl⟩
  rw [List.mem_range] at hi
  exact ⟨i, by omega, by rw [C1N (by omega)]⟩
 ·rintro ⟨i, hi, rfl⟩
  exact ⟨i, List.mem_range.2 (by omega), by rw [C1N hi]⟩
theorem B9H {x : WS} (h : ∀ i : Nat, D2 x.cells ((i : Nat) + 2) = 0) (e : Int) : B6j (pW x) e = true := by
 unfold B6j
 rw [List.all_eq_true]
 intro p hp
 obtain ⟨i, hi, rfl⟩ := C7q.1 hp
 simp [h i]
def B9y (n t : Nat) : List (Int × Int) := (List.range n).map fun k => if k + 1 < t then (2, (k : Int) + 2) else if k + 1 = t then (1, 0) else (0, 0)
theorem C0g (n t : Nat) : (B9y n t).length = n := by simp [B9y]
theorem B58 {l : List (Int × Int)} {i : Nat} (h : i < l.length) : stK l (i : Nat) = l[i].1 := by
 unfold stK
 rw [if_pos (by omega), Int.toNat_natCast, List.getD_eq_getElem?_getD, List.getElem?_eq_getElem h]; rfl
structure BusyI (n t : Nat) (x : WS) : Prop where
 ok : WsOk x
 ep : D2 x.cells 0 = (t : Nat)
 cur : D2 x.cells 1 = (t : Nat)
 keep : x.keep = B9y n t
 sl : x.sl.length = n
 le : t ≤ n
theorem BusyI.kl {n t : Nat} {x : WS} (h : BusyI n t x) : x.keep.length = x.sl.length := by rw [h.sl, h.keep, C0g]
theorem C28 {x : WS} {p : List E6} (h : WsOk x) (hl : x.keep.length = x.sl.length) : WsOk (K8 x p) := by
 obtain ⟨w1, w2, w3, w4, w5⟩ := h
 refine ⟨w1, by simp only [K8, A0k]; exact w2, w3, by simp only [K8, A3j]; rw [A05 hl]; exact w4, ?_⟩
 simp only [K8]
 split
 ·simp only [B6A, C1W, B2f, Q7]; exact w5
 ·simp only [B2f, Q7]; exact w5
theorem C0v {x : WS} {p : List E6} (h : WsOk x) : D2 (K8 x p).cells 1 = U7 (kF x) + 1 := by
 have h1 := h.wk; have h2 := h.cells
 simp only [K8]
 rw [m0 _ _ (by omega), A11, if_pos (by omega)]
theorem B4T {x : WS} {p : List E6} (i : Nat) : D2 (K8 x p).cells ((i : Nat) + 2) = D2 x.cells ((i : Nat) + 2) := by
 simp only [K8]
 rw [m0 _ _ (by omega), m0 _ _ (by omega)]
end Go.Proofs.YtjobgnabneddjaaGreat
namespace Go.Proofs.YtjobgnabneddjaaGreat
open Go
abbrev G9 (x : WS) : Int := D2 x.cells 1
theorem B7C {l : List (Int × Int)} {k : Nat} (hk : k < l.length) (h : l[k] = (0, 0)) : ¬ U7 l < 0 := by
 unfold U7
 have : l.findIdx (fun s => decide (s = (0, 0))) < l.length := List.findIdx_lt_length.2 ⟨_, List.getElem_mem hk, by simp [h]⟩
 rw [if_pos this]; omega
theorem C1B {l : List (Int × Int)} (h : ¬ U7 l < 0) : ∃ k : Nat, ∃ hk : k < l.length, U7 l = (k : Nat) ∧ l[k] = (0, 0) := by
 unfold U7 at *
 by_cases c : l.findIdx (fun s => decide (s = (0, 0))) < l.length
 ·rw [if_pos c]
  refine ⟨_, c, rfl, ?_⟩
  have := List.findIdx_getElem (w := c)
  simpa using this
 ·rw [if_neg c] at h; omega
theorem C0u {l : List (Int × Int)} {k : Nat} (hk : k < l.length) (h : U7 l = (k : Nat)) (h0 : l[k] = (0, 0)) : A0s l = l.set k (1, 0) := by
 unfold A0s
 rw [h, if_neg (by omega), Int.toNat_natCast, B8l hk, h0]
theorem A6J {l : List SlV} {k : Nat} (h : k < l.length) : H4 l (k : Nat) = l[k] := by
 unfold H4; rw [if_pos (by omega), Int.toNat_natCast, B8l h]
structure CurI (x : WS) : Prop where
 ok : WsOk x
 kl : x.keep.length = x.sl.length
 two : 2 ≤ x.keep.length
 cur : 0 ≤ G9 x ∧ G9 x ≤ x.keep.length
 at1 : ∀ (k : Nat) (h : k < x.keep.length), (k : Int) + 1 = G9 x → (x.keep[k]).1 = 1 ∧ ∃ p, H4 x.sl (k : Nat) = .rdy p
 at2 : ∀ (k : Nat) (h : k < x.keep.length), (k : Int) + 1 ≠ G9 x → x.keep[k] = (0, 0) ∨ (x.keep[k]).1 = 2
theorem A9z {P : List Int} {l : List (Int × Int)} {k : Nat} (h : k < l.length) : (A9U P l)[k]'(by rw [Q7]; exact h) = if m4 P l[k] then (0, 0) else l[k] := by simp [A9U]
theorem C0y {P : List Int} {l : List (Int × Int)} {s : List SlV} {k : Nat} (h : k < l.length) (h2 : k < s.length) (hl : l.length = s.length) : (A9L P l s)[k]'(by rw [A05 hl]; exact h2) = if m4 P l[k] then .no else s[k] := by simp [A9L]
theorem B8Z {P : List Int} {s : Int × Int} (h : s.1 ≠ 2) : m4 P s = false := by unfold m4; rw [decide_eq_false h]; rfl
theorem CurI.freed {x : WS} (h : CurI x) : CurI { x with sl := sF x, keep := kF x } ∧ H4 (sF x) (G9 x - 1) = H4 x.sl (G9 x - 1) := by
 have hg : ∀ (k : Nat) (hk : k < x.keep.length), (k : Int) + 1 = G9 x → H4 (sF x) (k : Nat) = H4 x.sl (k : Nat) := fun k hk hc => by
  have h1 := (h.at1 k hk hc).1
  have hs : k < x.sl.length := by rw [← h.kl]; exact hk
  rw [A6J (by rw [A05 h.kl]; exact hs), A6J hs, C0y hk hs h.kl, B8Z (by omega)]; rfl
 have hok := h.ok
 refine ⟨⟨⟨hok.wk, hok.cells, hok.own, by simp only; rw [A05 h.kl]; exact hok.sl, by simp only; rw [Q7]; exact hok.keep⟩, by simp only; rw [Q7, A05 h.kl]; exact h.kl, by simp only; rw [Q7]; exact h.two, by simp only; rw [Q7]; exact h.cur, fun k hk hc => ?_, fun k hk hc => ?_⟩, ?_⟩
 ·simp only [Q7] at hk
  have h1 := h.at1 k hk hc
  simp only
  rw [A9z hk, B8Z (by omega)]
  exact ⟨h1.1, by rw [hg k hk hc]; exact h1.2⟩
 ·simp only [Q7] at hk
  simp only
  rw [A9z hk]
  cases hr : m4 (pW x) x.keep[k] with
  | true => left; rfl
  | false => simpa using h.at2 k hk hc
 ·by_cases hc : G9 x = 0
  ·rw [hc]; rfl
  ·have h1 := h.cur
   obtain ⟨k, hk⟩ : ∃ k : Nat, G9 x - 1 = k := ⟨(G9 x - 1).toNat, by omega⟩
   rw [hk]
   exact hg k (by omega) (by omega)
theorem C6H {l : List (Int × Int)} {i k : Nat} {s : Int × Int} (hk : k < l.length) : stK (l.set i s) (k : Nat) = if i = k then s.1 else l[k].1 := by
 rw [B58 (by rw [List.length_set]; exact hk), List.getElem_set]; split <;> rfl
theorem CurI.after {x : WS} (h : CurI x) (p : List E6) (ht : ¬ U7 (kF x) < 0) : CurI (K8 x p) ∧ G9 (K8 x p) ≠ G9 x ∧ 1 ≤ G9 (K8 x p) ∧ H4 (K8 x p).sl (G9 (K8 x p) - 1) = .rdy p ∧ stK (K8 x p).keep (G9 (K8 x p) - 1) = 1
  ∧ (0 < G9 x → stK (K8 x p).keep (G9 x - 1) = 2) ∧ H4 (K8 x p).sl (G9 x - 1) = H4 x.sl (G9 x - 1) := by
 obtain ⟨hf, hgf⟩ := h.freed
 obtain ⟨s, hs, hts, hs0⟩ := C1B ht
 have hsl : s < (sF x).length := by have := hf.kl; simp only at this; omega
 have hcur' : G9 (K8 x p) = (s : Int) + 1 := by rw [show G9 (K8 x p) = D2 (K8 x p).cells 1 from rfl, C0v h.ok, hts]
 have hcf : G9 { x with sl := sF x, keep := kF x } = G9 x := rfl
 have hne : (s : Int) + 1 ≠ G9 x := fun hc => by
  have := (hf.at1 s hs (by rw [hcf]; exact hc)).1
  simp only at this
  rw [hs0] at this
  simp at this
 have htk := C0u hs hts hs0
 have hlen : (kF x).length = x.keep.length := Q7 _ _
 have hsl' : (K8 x p).sl = (sF x).set s (.rdy p) := by
  show l5 (sF x) (U7 (kF x)) (.rdy p) = _
  rw [hts, C56 (by omega), Int.toNat_natCast]
 have hkp : (K8 x p).keep = if 0 < G9 x then ((kF x).set s (1, 0)).set (G9 x - 1).toNat (2, epW x) else (kF x).set s (1, 0) := by
  show (if 0 < D2 x.cells 1 then B6A (A0s (kF x)) (D2 x.cells 1 - 1) (epW x) else A0s (kF x)) = _
  rw [htk]
  by_cases hc : 0 < G9 x
  ·rw [if_pos hc, if_pos hc]
   obtain ⟨k, hk⟩ : ∃ k : Nat, G9 x - 1 = k := ⟨(G9 x - 1).toNat, by omega⟩
   have hkl : k < (kF x).length := by have := h.cur; omega
   have h1 := (hf.at1 k hkl (by rw [hcf]; omega)).1
   unfold B6A B2b
   have e3 : stK ((kF x).set s (1, 0)) (k : Nat) = 1 := by rw [C6H hkl, if_neg (by omega)]; exact h1
   rw [show D2 x.cells 1 - 1 = (k : Int) from hk, e3, if_pos ⟨rfl, by omega⟩]
  ·rw [if_neg hc, if_neg hc]
 have hgs : ∀ (k : Nat), k ≠ s → k < (sF x).length → H4 (K8 x p).sl (k : Nat) = H4 (sF x) (k : Nat) := fun k hk hl => by
  rw [hsl', A6J (by rw [List.length_set]; exact hl), A6J hl, List.getElem_set_ne (by omega)]
 have hgs0 : H4 (K8 x p).sl (s : Nat) = .rdy p := by rw [hsl', A6J (by rw [List.length_set]; exact hsl), List.getElem_set_self]
 have hold : H4 (K8 x p).sl (G9 x - 1) = H4 x.sl (G9 x - 1) := by
  rw [← hgf]
  by_cases hc : G9 x = 0
  ·rw [hc]; rfl
  ·have h1 := h.cur
   obtain ⟨k, hk⟩ : ∃ k : Nat, G9 x - 1 = k := ⟨(G9 x - 1).toNat, by omega⟩
   rw [hk]
   exact hgs k (by omega) (by have := hf.kl; simp only at this; omega)
 have hat : ∀ (k : Nat) (hk : k < (kF x).length), ∀ hk', (K8 x p).keep[k]'hk' = if (k : Int) + 1 = G9 x then (2, epW x) else if k = s then (1, 0) else (kF x)[k] := fun k hk hk' => by
  simp only [hkp]
  by_cases hc : 0 < G9 x
  ·simp only [if_pos hc]
   rw [List.getElem_set, List.getElem_set]
   by_cases h1 : (k : Int) + 1 = G9 x
   ·rw [if_pos h1, if_pos (by omega)]
   ·rw [if_neg h1, if_neg (by omega)]
    by_cases h2 : k = s
    ·rw [if_pos h2, if_pos h2.symm]
    ·rw [if_neg h2, if_neg (by omega)]
  ·simp only [if_neg hc]
   rw [List.getElem_set, if_neg (show ¬ (k : Int) + 1 = G9 x by omega)]
   by_cases h2 : k = s
   ·rw [if_pos h2, if_pos h2.symm]
   ·rw [if_neg h2, if_neg (by omega)]
 have hkl' : (K8 x p).keep.length = (kF x).length := by
  rw [hkp]; split <;> simp
 have hsll : (K8 x p).sl.length = (sF x).length := by rw [hsl', List.length_set]
 refine ⟨⟨C28 h.ok h.kl, by rw [hkl', hsll]; exact hf.kl, by rw [hkl']; exact hf.two, by rw [hcur', hkl']; omega, fun k hk hc => ?_, fun k hk hc => ?_⟩, by rw [hcur']; exact hne, by rw [hcur']; omega, ?_, ?_, fun hc => ?_, hold⟩
 ·rw [hcur'] at hc
  obtain rfl : k = s := by omega
  rw [hat k (by rw [hkl'] at hk; exact hk), if_neg hne, if_pos rfl]
  exact ⟨rfl, p, hgs0⟩
 ·rw [hcur'] at hc
  have hk2 : k < (kF x).length := by rw [hkl'] at hk; exact hk
  rw [hat k hk2]
  by_cases h1 : (k : Int) + 1 = G9 x
  ·rw [if_pos h1]; right; rfl
  ·rw [if_neg h1, if_neg (by omega)]
   exact hf.at2 k hk2 (by rw [hcf]; exact h1)
 ·rw [hcur', show (s : Int) + 1 - 1 = (s : Nat) by omega]; exact hgs0
 ·rw [hcur', show (s : Int) + 1 - 1 = (s : Nat) by omega, B58 (by rw [hkl']; exact hs), hat s hs, if_neg hne, if_pos rfl]
 ·have h1 := h.cur
  obtain ⟨k, hk⟩ : ∃ k : Nat, G9 x - 1 = k := ⟨(G9 x - 1).toNat, by omega⟩
  rw [hk, B58 (by rw [hkl', hlen]; omega), hat k (by omega), if_pos (by omega)]
theorem CurI.free {x : WS} (h : CurI x) (hz : ∀ i : Nat, D2 x.cells ((i : Nat) + 2) = 0) : ¬ U7 (kF x) < 0 := by
 have hlen : (kF x).length = x.keep.length := Q7 _ _
 have h2 := h.two
 have key : ∀ (k : Nat) (hk : k < x.keep.length), (k : Int) + 1 ≠ G9 x → (kF x)[k]'(by rw [hlen]; exact hk) = (0, 0) := fun k hk hc => by
  rw [A9z hk]
  rcases h.at2 k hk hc with h0 | h0
  ·rw [h0, D0E]; rfl
  ·have : m4 (pW x) x.keep[k] = true := by unfold m4; rw [h0, B9H hz]; rfl
   rw [this]; rfl
 by_cases hc : G9 x = 1
 ·exact B7C (k := 1) (by omega) (key 1 (by omega) (by omega))
 ·exact B7C (k := 0) (by omega) (key 0 (by omega) (by omega))
theorem CurI.new {c : CfgV} (h : M7 c = true) (hw : WsOk (H6 c)) : CurI (H6 c) := by
 simp only [M7, W0, Bool.and_eq_true, decide_eq_true_eq] at h
 have hcur : G9 (H6 c) = 0 := by
  show D2 (List.replicate _ 0) 1 = 0
  unfold D2; split
  ·rw [List.getD_eq_getElem?_getD, List.getElem?_replicate]; split <;> rfl
  ·rfl
 refine ⟨hw, by simp [H6], by simp only [H6, List.length_replicate]; omega, by rw [hcur]; omega, fun k hk hc => ?_, fun k hk hc => ?_⟩
 ·rw [hcur] at hc; omega
 ·left; simp [H6]
end Go.Proofs.YtjobgnabneddjaaGreat
namespace Go.Proofs.YtjobgnabneddjaaGreat
open Go
theorem C7d (w : World) (b : Nat) (j : JW) (tv : Value) (m : WoH) (P : N5) (h : JwOk j tv m P) (hw : LW false (B5 (F3 b j tv m P)) w (F3 b j tv m P) w) : A4M 81 w b j tv m P (jw5 j m.ws) := by
 refine A9S (TW.goH (κ := false) ?_ hw)
 unfold A2c
 obtain ⟨h1, h2, h3, h4, h5, h6⟩ := h.tabs
 obtain ⟨i, hi⟩ : ∃ i : Nat, j.shard = i := ⟨j.shard.toNat, by have := h.shard; omega⟩
 have hlt : i < m.ts.length := by have := h.shard; omega
 obtain ⟨⟨tv0, tl⟩, hx0⟩ : ∃ x, m.ts[i]? = some x := ⟨_, List.getElem?_eq_getElem hlt⟩
 have hxm := List.mem_of_getElem? hx0
 have g0 : (m.ts.map (·.1))[i]? = some tv0 := by rw [List.getElem?_map, hx0]; rfl
 have gg : m.ts[i]'hlt = (tv0, tl) := (List.getElem?_eq_some_iff.1 hx0).2
 have e5 : jw5 j m.ws = ({ j with table := tl }, m.ws, x9) := by
  unfold jw5
  have : m.ws.tabs.getD j.shard.toNat [] = tl := by simp [WoH.ws, hi, List.getD_eq_getElem?_getD, hx0]
  rw [this]
 rw [e5]
 generalize hS : B5 (F3 b j tv m P) = S at *
 simp only [F3, E9, G5, C8, E0, E2, hi]
 refine s9 (e := 84) (k := 1) (v := m.tv) (q := m.ts.length) (xs := m.ts.map (·.1)) (by (repeat constructor)) (by omega) fun tg tc hta => ?_
 refine A9B (P := P) (v := tv0) (l := tl) (by (repeat constructor)) (h6 _ hxm) fun xa xc hxa => ?_
 rw [hta]
 subst hxa
 (have zz:=trivial;repeat((first|clear zz|with_reducible first|refine A3 ?_|refine A5 fun _=>?_|refine A4 fun _=>?_);try simp(disch:=first|omega|assumption|((repeat(first|exact A1|exact uH|apply A2|apply uT));first|done|fail)|(simp;first|done|omega|fail))[hlt, g0, gg]))
 refine B1 (.slice xa tl.length xc, { m.dz with tv := .slice (some ⟨tg, 0, none⟩) m.ts.length tc }, P) ⟨rfl, M3 rfl rfl h6 (h6 _ hxm)⟩ ?_
 simp only [P1, E9, G5, C8, E0, E2, WoH.uz, WoH.dz, hi]
 (repeat' constructor)
theorem C60 (w : World) (b : Nat) (j : JW) (tv : Value) (m : WoH) (P : N5) (h : JwOk j tv m P) (hw : LW false (B5 (F3 b j tv m P)) w (F3 b j tv m P) w) : A4M 83 w b j tv m P (jw7 j m.ws) := by
 refine A8a (TW.goH (κ := false) ?_ hw)
 unfold A1d
 obtain ⟨h1, h2, h3, h4, h5, h6⟩ := h.tabs
 have ht := h.tb
 obtain ⟨i, hi⟩ : ∃ i : Nat, j.shard = i := ⟨j.shard.toNat, by have := h.shard; omega⟩
 have hlt : i < m.ts.length := by have := h.shard; omega
 obtain ⟨⟨tv0, tl⟩, hx0⟩ : ∃ x, m.ts[i]? = some x := ⟨_, List.getElem?_eq_getElem hlt⟩
 have g0 : (m.ts.map (·.1))[i]? = some tv0 := by rw [List.getElem?_map, hx0]; rfl
 have gg : m.ts[i]'hlt = (tv0, tl) := (List.getElem?_eq_some_iff.1 hx0).2
 have e7 : jw7 j m.ws = (j, { m.ws with tabs := m.ws.tabs.set i j.table }, x9) := by unfold jw7; rw [hi, Int.toNat_natCast]
 rw [e7]
 generalize hS : B5 (F3 b j tv m P) = S at *
 simp only [F3, E9, G5, C8, E0, E2, hi]
 refine s9 (e := 84) (k := 1) (v := m.tv) (q := m.ts.length) (xs := m.ts.map (·.1)) (by (repeat constructor)) (by omega) fun tg tc hta => ?_
 refine A9B (P := P) (v := tv) (l := j.table) (by (repeat constructor)) ht fun xa xc hxa => ?_
 rw [hta]
 subst hxa
 (have zz:=trivial;repeat((first|clear zz|with_reducible first|refine A3 ?_|refine A5 fun _=>?_|refine A4 fun _=>?_);try simp(disch:=first|omega|assumption|((repeat(first|exact A1|exact uH|apply A2|apply uT));first|done|fail)|(simp;first|done|omega|fail))[hlt, g0, gg]))
 refine U0 (by (repeat constructor)) (by simp) (by simp; omega) (by simp) ?_
 have e1 : Y5 (m.ts.map (·.1)) i (Value.slice xa j.table.length xc).cells.toList = (m.ts.set i (.slice xa j.table.length xc, j.table)).map (·.1) := C3r (f := (·.1)) m.ts i (.slice xa j.table.length xc, j.table) hlt
 rw [e1]
 (have zz:=trivial;repeat((first|clear zz|with_reducible first|refine A3 ?_|refine A5 fun _=>?_|refine A4 fun _=>?_);try simp(disch:=first|omega|assumption|((repeat(first|exact A1|exact uH|apply A2|apply uT));first|done|fail)|(simp;first|done|omega|fail))[]))
 refine B1 (.slice xa j.table.length xc, { m.dz with tv := .slice (some ⟨tg, 0, none⟩) m.ts.length tc, ts := m.ts.set i (.slice xa j.table.length xc, j.table) }, P) ⟨rfl, by simp only [WoH.ws, WoH.uz, WoH.dz, List.map_set], fun t ht' => ?_, ht, .same _ _⟩ ?_
 ·rcases List.mem_or_eq_of_mem_set ht' with ht' | rfl
  ·exact h6 t ht'
  ·exact ht
 simp only [P1, E9, G5, C8, E0, E2, WoH.uz, WoH.dz, List.length_set, List.map_set, hi]
 (repeat' constructor)
def m8 (l : List EnV) (p : List E6) (key : ByteArray) (now : Int) : Int × Bool :=
 if E3 l key < 0 ∨ (Z1 l key).dl < now then (0, false) else ((Z1 l key).bk, decide (0 ≤ N6 p (Z1 l key).bk))
theorem C2z (l : List EnV) (p : List E6) (key : ByteArray) (now : Int) : (m8 l p key now).2 = (K7 l p key now).2 := by
 unfold m8 K7
 by_cases c1 : E3 l key < 0 ∨ (Z1 l key).dl < now
 ·rw [if_pos c1, if_pos (by omega)]
 ·rw [if_neg c1]
  by_cases c2 : N6 p (Z1 l key).bk < 0
  ·rw [if_pos (by omega)]; simp; omega
  ·rw [if_neg (by omega)]; simp; omega
theorem C4G (l : List EnV) (p : List E6) (key : ByteArray) (now : Int) (h : (K7 l p key now).2 = true) : (m8 l p key now).1 = (K7 l p key now).1 := by
 unfold K7 at h ⊢
 by_cases c : E3 l key < 0 ∨ (Z1 l key).dl < now ∨ N6 p (Z1 l key).bk < 0
 ·rw [if_pos c] at h; cases h
 ·rw [if_neg c]; unfold m8; rw [if_neg (by omega)]
theorem C0m (x : WS) (i id : Int) : (B6E x.sl i id).1 = decide (0 ≤ N6 (K6 x i) id) := by
 unfold B6E K6
 cases H4 x.sl i with
 | rdy p => rfl
 | no => rfl
 | bld => rfl
theorem B9B (x : WS) (i : Int) : A67 x.sl i = ((((K6 x i).length : Nat) : Int), B6J x i) := by
 unfold A67 K6 B6J
 cases H4 x.sl i <;> rfl
theorem C0E (x : WS) (i : Int) (h : Nat) (hp : K6 x i ≠ []) : (A40 x.sl i h).1 = A4n (K6 x i) h := by
 unfold A40 K6 at *
 cases hg : H4 x.sl i with
 | rdy p => rfl
 | no => rw [hg] at hp; exact absurd rfl hp
 | bld => rw [hg] at hp; exact absurd rfl hp
theorem B9J (w : World) (b b2 b3 : Nat) (j : JW) (tv : Value) (m : WoH) (hk : j.key.size < 2 ^ 60) (hn : j.table.length ≤ 1000000) (hl8 : m.ls.length ≤ 8)
  (h2 : w.cell? ⟨b2, 0, none⟩ = some (.pointer (some ⟨b, 0, none⟩))) (h3 : w.cell? ⟨b3, 0, none⟩ = some (.pointer (some ⟨m.b, 0, none⟩)))
  (hb : bl w b = some (.cells (G5 j tv) 130 (0, 0))) (hm : WoAt w m) (hsl : SlAt w m.bs m.sv m.ls) (hv : G1 w tv j.table.length (j.table.flatMap H0)) :
  Fn PR B8 132 #[.pointer (some ⟨b2, 0, none⟩), .pointer (some ⟨b3, 0, none⟩)] w (fun u w' => u = .tuple #[.int .i64 (m8 j.table (K6 m.ws j.slot) j.key j.now).1, .bool (m8 j.table (K6 m.ws j.slot) j.key j.now).2] ∧ C7 [] w w') := by
 refine Fn.pure (A4Y (TW.go (κ := false) (S := []) ?_))
 unfold w9
 have g1 : w.cell? ⟨b, 1, none⟩ = some (.string j.key) := by rw [E5 hb]; rfl
 have g7 : w.cell? ⟨b, 7, none⟩ = some (.int .i64 j.slot) := by rw [E5 hb]; rfl
 have g8 : w.cell? ⟨b, 8, none⟩ = some (.int .i64 j.now) := by rw [E5 hb]; rfl
 have g9 : w.cell? ⟨b, 9, none⟩ = some tv := by rw [E5 hb]; rfl
 have gs : w.cell? ⟨m.b, 6, none⟩ = some (.pointer (some ⟨m.bs, 0, none⟩)) := by rw [E5 hm.b]; rfl
 obtain ⟨a, c, rfl, hr⟩ := hv.form
 (have zz:=trivial;repeat((first|clear zz|with_reducible first|refine A3 ?_|refine A5 fun _=>?_|refine A4 fun _=>?_);try simp(disch:=first|omega|assumption|((repeat(first|exact A1|exact uH|apply A2|apply uT));first|done|fail)|(simp;first|done|omega|fail))[h2, h3, g1, g9]))
 refine C1 v6 (fun w' hw' => A09 w' _ j.table j.key hk hn (hv.ks hw'.ks (by simp))) ?_
 by_cases c1 : E3 j.table j.key < 0
 ·(have zz:=trivial;repeat((first|clear zz|with_reducible first|refine A3 ?_|refine A5 fun _=>?_|refine A4 fun _=>?_);try simp(disch:=first|omega|assumption|((repeat(first|exact A1|exact uH|apply A2|apply uT));first|done|fail)|(simp;first|done|omega|fail))[c1, h2, h3, g1, g9]))
  exact B0 (by simp [m8, c1])
 obtain ⟨i, hi, hlt⟩ := C0q (l := j.table) (key := j.key) (by omega)
 have hx : j.table[i]? = some (Z1 j.table j.key) := by rw [Z1, hi, Int.toNat_natCast]; exact getD_some noE hlt
 obtain ⟨ba, o, rfl, hrow⟩ := hr (by omega)
 have k2 := hrow.cellAt (f := H0) (k := 4) (j := 2) (fun _ => rfl) hx rfl
 have k3 := hrow.cellAt (f := H0) (k := 4) (j := 3) (fun _ => rfl) hx rfl
 have hk1 : m8 j.table (K6 m.ws j.slot) j.key j.now = if (Z1 j.table j.key).dl < j.now then (0, false) else ((Z1 j.table j.key).bk, decide (0 ≤ N6 (K6 m.ws j.slot) (Z1 j.table j.key).bk)) := by simp [m8, c1]
 rw [hk1, hi]
 generalize Z1 j.table j.key = x at *
 have hHas := fun (w' : World) => C6J w' m.bs m.sv m.ls j.slot x.bk hl8
 rw [show m.ls.map SlH.sp = m.ws.sl from rfl, C0m] at hHas
 obtain ⟨Q, hQ⟩ : ∃ Q, Q = decide (0 ≤ N6 (K6 m.ws j.slot) x.bk) := ⟨_, rfl⟩
 rw [← hQ] at hHas ⊢
 clear hk1
 have n1 : ¬ ((i : Nat) : Int) < 0 := by omega
 by_cases c2 : x.dl < j.now
 ·(have zz:=trivial;repeat((first|clear zz|with_reducible first|refine A3 ?_|refine A5 fun _=>?_|refine A4 fun _=>?_);try simp(disch:=first|omega|assumption|((repeat(first|exact A1|exact uH|apply A2|apply uT));first|done|fail)|(simp;first|done|omega|fail))[n1, hlt, h2, h3, g1, g7, g8, g9, k3, c2]))
  exact B0 (by simp [c2])
 (have zz:=trivial;repeat((first|clear zz|with_reducible first|refine A3 ?_|refine A5 fun _=>?_|refine A4 fun _=>?_);try simp(disch:=first|omega|assumption|((repeat(first|exact A1|exact uH|apply A2|apply uT));first|done|fail)|(simp;first|done|omega|fail))[n1, hlt, h2, h3, g1, g7, g8, g9, gs, k3, k2, c2]))
 refine C1 A8x (fun w' hw' => hHas w' (hsl.ks hw'.ks)) ?_
 (have zz:=trivial;repeat((first|clear zz|with_reducible first|refine A3 ?_|refine A5 fun _=>?_|refine A4 fun _=>?_);try simp(disch:=first|omega|assumption|((repeat(first|exact A1|exact uH|apply A2|apply uT));first|done|fail)|(simp;first|done|omega|fail))[hlt, h2, h3, g1, g7, g8, g9, k3, k2, c2]))
 exact B0 (by simp [c2])
end Go.Proofs.YtjobgnabneddjaaGreat
namespace Go.Proofs.YtjobgnabneddjaaGreat
open Go
theorem C6p {κ : Bool} {S : List Nat} {w0 : World} {H : List Res} {F : Value → WP} {A : (Value → WP) → WP} (v : Value) (hF : TW κ S w0 H (F v)) (hA : ∀ J : Value → WP, TW κ S w0 H (J v) → TW κ S w0 H (A J)) : TW κ S w0 H (jn (n := 1) F A) := hA F hF
def idW (l : List EnV) (x : WS) (slot : Int) (key : ByteArray) (now : Int) : Int := if (K7 l (K6 x slot) key now).2 then (m8 l (K6 x slot) key now).1 else (A40 x.sl slot (Y4 key)).1
theorem C7g {l : List EnV} {x : WS} {slot : Int} {key : ByteArray} {now : Int} (h : ¬ ((K7 l (K6 x slot) key now).2 = false ∧ K6 x slot = [])) : idW l x slot key now = l3 l (K6 x slot) key now := by
 unfold idW l3
 cases hk : (K7 l (K6 x slot) key now).2 with
 | true => simp only [if_true]; exact C4G _ _ _ _ hk
 | false =>
  simp only [Bool.false_eq_true, if_false]
  exact C0E x slot _ fun hp => h ⟨hk, hp⟩
set_option maxHeartbeats 4000000 in
theorem C7c (w : World) (b : Nat) (j : JW) (tv0 : Value) (m : WoH) (P : N5) (h : JwOk j tv0 m P) (hw : LW false (B5 (F3 b j tv0 m P)) w (F3 b j tv0 m P) w) : A4M 82 w b j tv0 m P (jw6 j m.ws) := by
 refine A68 (TW.goH (κ := false) ?_ hw)
 unfold A04
 have ht := h.tb
 have hP := h.tabs.pool
 have hkey := h.key
 have hkeys := h.keys
 have hlen := h.len
 have hslot := h.slot
 have hl8 : m.ls.length ≤ 8 := by have := h.ws.sl; simpa [WoH.ws] using this
 generalize hS : B5 (F3 b j tv0 m P) = S at *
 simp only [F3, E9, G5, C8, E0, E2]
 refine A9B (P := P) (v := tv0) (l := j.table) (by (repeat constructor)) ht fun xa xc hxa => ?_
 have hSize := fun (w' : World) => C4M w' m.bs m.sv m.ls j.slot hl8
 rw [show m.ls.map SlH.sp = m.ws.sl from rfl, B9B] at hSize
 have hPick := fun (w' : World) => C3W w' m.bs m.sv m.ls j.slot (Y4 j.key) hl8
 rw [show m.ls.map SlH.sp = m.ws.sl from rfl] at hPick
 have hid := C7g (l := j.table) (x := m.ws) (slot := j.slot) (key := j.key) (now := j.now)
 have hdef : idW j.table m.ws j.slot j.key j.now = if (K7 j.table (K6 m.ws j.slot) j.key j.now).2 then (m8 j.table (K6 m.ws j.slot) j.key j.now).1 else (A40 m.ws.sl j.slot (Y4 j.key)).1 := rfl
 have hk2 := C2z j.table (K6 m.ws j.slot) j.key j.now
 have hKn := fun (w' : World) (b2 b3 : Nat) => B9J w' b b2 b3 j tv0 m hkey hlen hl8
 unfold jw6
 rw [show m.ws.c.idle = m.c.idle from rfl]
 generalize hrd : B6J m.ws j.slot = rd at *
 generalize A40 m.ws.sl j.slot (Y4 j.key) = pk at *
 generalize m8 j.table (K6 m.ws j.slot) j.key j.now = kw at *
 generalize idW j.table m.ws j.slot j.key j.now = idv at *
 generalize K6 m.ws j.slot = p at *
 subst hxa
 (have zz:=trivial;repeat((first|clear zz|with_reducible first|refine A3 ?_|refine A5 fun _=>?_|refine A4 fun _=>?_);try simp(disch:=first|omega|assumption|((repeat(first|exact A1|exact uH|apply A2|apply uT));first|done|fail)|(simp;first|done|omega|fail))[]))
 rename_i b2 b3 b4
 refine C1 A70 (fun w' hw' => hSize w' (SlAt.own hw' (by (repeat constructor)) (by (repeat constructor)) (by (repeat constructor)))) ?_
 (have zz:=trivial;repeat((first|clear zz|with_reducible first|refine A3 ?_|refine A5 fun _=>?_|refine A4 fun _=>?_);try simp(disch:=first|omega|assumption|((repeat(first|exact A1|exact uH|apply A2|apply uT));first|done|fail)|(simp;first|done|omega|fail))[]))
 refine C1 A3k (fun w' hw' => hKn w' b2 b3 (hw'.cell1 (by (repeat constructor))) (hw'.cell1 (by (repeat constructor))) (hw'.pt (b := b) (by unfold G5; (repeat constructor))) ⟨hw'.pt (by unfold E2; (repeat constructor)), hw'.pt (by (repeat constructor)), P6.own (e := 3) (k := 1) (by (repeat constructor)) w' hw'⟩ (SlAt.own hw' (by (repeat constructor)) (by (repeat constructor)) (by (repeat constructor))) (A4F (ts := P) (t := (_, j.table)) hw' (by (repeat constructor)) ht)) ?_
 rw [hk2]
 clear hKn hk2 hSize
 obtain ⟨ok, hok⟩ : ∃ ok, ok = (K7 j.table p j.key j.now).2 := ⟨_, rfl⟩
 rw [← hok] at hid hdef ⊢
 rw [B7J, B53]
 refine C6p (.int .i64 idv) ?_ ?_
 case refine_2 =>
  intro J hJ
  rw [hdef] at hJ
  clear hdef hid
  cases ok with
  | true =>
   simp only [if_true] at hJ
   (have zz:=trivial;repeat((first|clear zz|with_reducible first|refine A3 ?_|refine A5 fun _=>?_|refine A4 fun _=>?_);try simp(disch:=first|omega|assumption|((repeat(first|exact A1|exact uH|apply A2|apply uT));first|done|fail)|(simp;first|done|omega|fail))[]))
   exact hJ
  | false =>
   simp only [Bool.false_eq_true, if_false] at hJ
   (have zz:=trivial;repeat((first|clear zz|with_reducible first|refine A3 ?_|refine A5 fun _=>?_|refine A4 fun _=>?_);try simp(disch:=first|omega|assumption|((repeat(first|exact A1|exact uH|apply A2|apply uT));first|done|fail)|(simp;first|done|omega|fail))[]))
   refine C1 A2N (fun w' _ => A45 w' j.key hkey) ?_
   (have zz:=trivial;repeat((first|clear zz|with_reducible first|refine A3 ?_|refine A5 fun _=>?_|refine A4 fun _=>?_);try simp(disch:=first|omega|assumption|((repeat(first|exact A1|exact uH|apply A2|apply uT));first|done|fail)|(simp;first|done|omega|fail))[]))
   refine C1 A7g (fun w' hw' => hPick w' (SlAt.own hw' (by (repeat constructor)) (by (repeat constructor)) (by (repeat constructor)))) ?_
   (have zz:=trivial;repeat((first|clear zz|with_reducible first|refine A3 ?_|refine A5 fun _=>?_|refine A4 fun _=>?_);try simp(disch:=first|omega|assumption|((repeat(first|exact A1|exact uH|apply A2|apply uT));first|done|fail)|(simp;first|done|omega|fail))[]))
   exact hJ
 clear hPick hdef
 have htold : ∀ (r : JW), M4 ((r, m.ws, false, false, decide (0 ≤ j.slot) && !rd) : JwR).2.2 = .agg #[.bool false, .bool false, .bool (decide (0 ≤ j.slot) && !rd)] := fun _ => rfl
 by_cases hne : ok = false ∧ p = []
 ·have hd : K9 j.table p j.key j.closing j.now m.c.idle = (j.table, ⟨11, 0, false, 0⟩, false) := if_pos (by rw [← hok]; exact hne)
  rw [hd]
  simp only
  obtain ⟨rfl, rfl⟩ := hne
  by_cases hs0 : 0 ≤ j.slot
  ·(have zz:=trivial;repeat((first|clear zz|with_reducible first|refine A3 ?_|refine A5 fun _=>?_|refine A4 fun _=>?_);try simp(disch:=first|omega|assumption|((repeat(first|exact A1|exact uH|apply A2|apply uT));first|done|fail)|(simp;first|done|omega|fail))[hs0]))
   refine B1 (.slice xa j.table.length xc, m.dz, P) ⟨by simp [M4, hs0], M3 rfl rfl hP ht⟩ ?_
   simp only [P1, E9, G5, C8, E0, E2, WoH.uz, WoH.dz]
   (repeat' constructor)
  ·(have zz:=trivial;repeat((first|clear zz|with_reducible first|refine A3 ?_|refine A5 fun _=>?_|refine A4 fun _=>?_);try simp(disch:=first|omega|assumption|((repeat(first|exact A1|exact uH|apply A2|apply uT));first|done|fail)|(simp;first|done|omega|fail))[hs0]))
   refine B1 (.slice xa j.table.length xc, m.dz, P) ⟨by simp [M4, hs0], M3 rfl rfl hP ht⟩ ?_
   simp only [P1, E9, G5, C8, E0, E2, WoH.uz, WoH.dz]
   (repeat' constructor)
 have hd : K9 j.table p j.key j.closing j.now m.c.idle = if j.closing then (W3 j.table j.key, ⟨0, idv, false, 0⟩, (Y1 j.table j.key).isSome)
  else match K1 j.table ⟨1, j.key, idv, IntKind.i64.wrap (j.now + m.c.idle)⟩ with
   | none => (j.table, ⟨12, 0, false, 0⟩, false)
   | some u => (u, ⟨0, idv, !ok, 0⟩, true) := by
  have hd0 : K9 j.table p j.key j.closing j.now m.c.idle = if j.closing then (W3 j.table j.key, ⟨0, l3 j.table p j.key j.now, false, 0⟩, (Y1 j.table j.key).isSome)
   else match K1 j.table (A1w j.table p j.key j.now m.c.idle) with
    | none => (j.table, ⟨12, 0, false, 0⟩, false)
    | some u => (u, ⟨0, l3 j.table p j.key j.now, !(K7 j.table p j.key j.now).2, 0⟩, true) := if_neg (by rw [← hok]; exact hne)
  rw [hd0, A1w, ← hid hne, ← hok]
 rw [hd]
 have hgo : ok = true ∨ ¬ (p.length : Int) = 0 := by
  cases ok with
  | true => exact Or.inl rfl
  | false => right; intro h0; exact hne ⟨rfl, List.length_eq_zero_iff.1 (by omega)⟩
 have hgo2 : ok = true ∨ ¬ p = [] := by
  cases ok with
  | true => exact Or.inl rfl
  | false => right; intro h0; exact hne ⟨rfl, h0⟩
 clear hd hid hok hne
 obtain ⟨bad, hbad⟩ : ∃ bad, bad = (decide (0 ≤ j.slot) && !rd) := ⟨_, rfl⟩
 rw [← hbad]
 have hstep : ∀ (P0 : Prop), (0 ≤ j.slot → bad = !rd → P0) → (¬ 0 ≤ j.slot → bad = false → P0) → P0 := fun P0 f g => by
  by_cases hs0 : 0 ≤ j.slot
  ·exact f hs0 (by rw [hbad, decide_eq_true hs0]; rfl)
  ·exact g hs0 (by rw [hbad, decide_eq_false hs0]; rfl)
 cases hcl : j.closing with
 | true =>
  simp only [if_true]
  refine hstep _ (fun hs0 hb => ?_) (fun hs0 hb => ?_)
  all_goals
   rw [hb]
   cases ok with
   | true =>
    (have zz:=trivial;repeat((first|clear zz|with_reducible first|refine A3 ?_|refine A5 fun _=>?_|refine A4 fun _=>?_);try simp(disch:=first|omega|assumption|((repeat(first|exact A1|exact uH|apply A2|apply uT));first|done|fail)|(simp;first|done|omega|fail))[hs0, hcl]))
    refine H2 A4C (fun w' hw' => A6n w' _ j.table j.key hkey hkeys hlen (A4F (ts := P) (t := (_, j.table)) hw' (by (repeat constructor)) ht)) ?_
    rintro r _ rfl
    refine A38 (e := 218) (k := 4) (v := r) (q := (W3 j.table j.key).length) (xs := (W3 j.table j.key).flatMap H0) (by (repeat constructor)) fun hr1 hr2 hr3 => ?_
    have hr4 : r.cells.toList = [r] := by rw [hr1]
    cases h2 : (Y1 j.table j.key).isSome with
    | true =>
     (have zz:=trivial;repeat((first|clear zz|with_reducible first|refine A3 ?_|refine A5 fun _=>?_|refine A4 fun _=>?_);try simp(disch:=first|omega|assumption|((repeat(first|exact A1|exact uH|apply A2|apply uT));first|done|fail)|(simp;first|done|omega|fail))[hs0, hcl, hr1, hr2, hr3, hr4]))
     refine a7 (r := r) (l := W3 j.table j.key) (ts := P) (by (repeat' constructor)) ?_
     refine B1 (r, m.dz, P ++ [(r, W3 j.table j.key)]) ⟨by simp [M4], rfl, hP.left _, List.mem_append_right _ (List.mem_singleton.2 rfl), .push _ _ _⟩ ?_
     simp only [P1, E9, G5, C8, E0, E2, WoH.uz, WoH.dz]
     (repeat' constructor)
    | false =>
     have e : W3 j.table j.key = j.table := by
      unfold W3
      cases hd : Y1 j.table j.key with
      | none => rfl
      | some u => rw [hd] at h2; cases h2
     rw [e]
     (have zz:=trivial;repeat((first|clear zz|with_reducible first|refine A3 ?_|refine A5 fun _=>?_|refine A4 fun _=>?_);try simp(disch:=first|omega|assumption|((repeat(first|exact A1|exact uH|apply A2|apply uT));first|done|fail)|(simp;first|done|omega|fail))[hs0, hcl, hr1, hr2, hr3, hr4]))
     refine B1 (.slice xa j.table.length xc, m.dz, P) ⟨by simp [M4], M3 rfl rfl hP ht⟩ ?_
     simp only [P1, E9, G5, C8, E0, E2, WoH.uz, WoH.dz]
     (repeat' constructor)
   | false =>
    have hp1 : ¬ (p.length : Int) = 0 := by rcases hgo with g | g; cases g; exact g
    have hp2 : ¬ p = [] := by rcases hgo2 with g | g; cases g; exact g
    (have zz:=trivial;repeat((first|clear zz|with_reducible first|refine A3 ?_|refine A5 fun _=>?_|refine A4 fun _=>?_);try simp(disch:=first|omega|assumption|((repeat(first|exact A1|exact uH|apply A2|apply uT));first|done|fail)|(simp;first|done|omega|fail))[hs0, hcl, hp1, hp2]))
    refine H2 A4C (fun w' hw' => A6n w' _ j.table j.key hkey hkeys hlen (A4F (ts := P) (t := (_, j.table)) hw' (by (repeat constructor)) ht)) ?_
    rintro r _ rfl
    refine A38 (e := 218) (k := 4) (v := r) (q := (W3 j.table j.key).length) (xs := (W3 j.table j.key).flatMap H0) (by (repeat constructor)) fun hr1 hr2 hr3 => ?_
    have hr4 : r.cells.toList = [r] := by rw [hr1]
    cases h2 : (Y1 j.table j.key).isSome with
    | true =>
     (have zz:=trivial;repeat((first|clear zz|with_reducible first|refine A3 ?_|refine A5 fun _=>?_|refine A4 fun _=>?_);try simp(disch:=first|omega|assumption|((repeat(first|exact A1|exact uH|apply A2|apply uT));first|done|fail)|(simp;first|done|omega|fail))[hs0, hcl, hp1, hp2, hr1, hr2, hr3, hr4]))
     refine a7 (r := r) (l := W3 j.table j.key) (ts := P) (by (repeat' constructor)) ?_
     refine B1 (r, m.dz, P ++ [(r, W3 j.table j.key)]) ⟨by simp [M4], rfl, hP.left _, List.mem_append_right _ (List.mem_singleton.2 rfl), .push _ _ _⟩ ?_
     simp only [P1, E9, G5, C8, E0, E2, WoH.uz, WoH.dz]
     (repeat' constructor)
    | false =>
     have e : W3 j.table j.key = j.table := by
      unfold W3
      cases hd : Y1 j.table j.key with
      | none => rfl
      | some u => rw [hd] at h2; cases h2
     rw [e]
     (have zz:=trivial;repeat((first|clear zz|with_reducible first|refine A3 ?_|refine A5 fun _=>?_|refine A4 fun _=>?_);try simp(disch:=first|omega|assumption|((repeat(first|exact A1|exact uH|apply A2|apply uT));first|done|fail)|(simp;first|done|omega|fail))[hs0, hcl, hp1, hp2, hr1, hr2, hr3, hr4]))
     refine B1 (.slice xa j.table.length xc, m.dz, P) ⟨by simp [M4], M3 rfl rfl hP ht⟩ ?_
     simp only [P1, E9, G5, C8, E0, E2, WoH.uz, WoH.dz]
     (repeat' constructor)
 | false =>
  simp only [Bool.false_eq_true, if_false]
  refine hstep _ (fun hs0 hb => ?_) (fun hs0 hb => ?_)
  all_goals
   rw [hb]
   cases ok with
   | true =>
    (have zz:=trivial;repeat((first|clear zz|with_reducible first|refine A3 ?_|refine A5 fun _=>?_|refine A4 fun _=>?_);try simp(disch:=first|omega|assumption|((repeat(first|exact A1|exact uH|apply A2|apply uT));first|done|fail)|(simp;first|done|omega|fail))[hs0, hcl]))
    refine H2 A76 (fun w' hw' => B07 w' _ j.table j.key idv (IntKind.i64.wrap (j.now + m.c.idle)) hkey hlen (A4F (ts := P) (t := (_, j.table)) hw' (by (repeat constructor)) ht)) ?_
    rintro r _ rfl
    cases h2 : K1 j.table ⟨1, j.key, idv, IntKind.i64.wrap (j.now + m.c.idle)⟩ with
    | none =>
     simp only [Option.isSome_none, Bool.false_eq_true, if_false]
     (have zz:=trivial;repeat((first|clear zz|with_reducible first|refine A3 ?_|refine A5 fun _=>?_|refine A4 fun _=>?_);try simp(disch:=first|omega|assumption|((repeat(first|exact A1|exact uH|apply A2|apply uT));first|done|fail)|(simp;first|done|omega|fail))[hs0, hcl]))
     refine B1 (.slice xa j.table.length xc, m.dz, P) ⟨by simp [M4], M3 rfl rfl hP ht⟩ ?_
     simp only [P1, E9, G5, C8, E0, E2, WoH.uz, WoH.dz]
     (repeat' constructor)
    | some u =>
     simp only [Option.isSome_some, if_true, Option.getD_some]
     refine A38 (e := 218) (k := 4) (v := r) (q := u.length) (xs := u.flatMap H0) (by (repeat constructor)) fun hr1 hr2 hr3 => ?_
     have hr4 : r.cells.toList = [r] := by rw [hr1]
     (have zz:=trivial;repeat((first|clear zz|with_reducible first|refine A3 ?_|refine A5 fun _=>?_|refine A4 fun _=>?_);try simp(disch:=first|omega|assumption|((repeat(first|exact A1|exact uH|apply A2|apply uT));first|done|fail)|(simp;first|done|omega|fail))[hs0, hcl, hr1, hr2, hr3, hr4]))
     refine a7 (r := r) (l := u) (ts := P) (by (repeat' constructor)) ?_
     refine B1 (r, m.dz, P ++ [(r, u)]) ⟨by simp [M4], rfl, hP.left _, List.mem_append_right _ (List.mem_singleton.2 rfl), .push _ _ _⟩ ?_
     simp only [P1, E9, G5, C8, E0, E2, WoH.uz, WoH.dz]
     (repeat' constructor)
   | false =>
    have hp1 : ¬ (p.length : Int) = 0 := by rcases hgo with g | g; cases g; exact g
    have hp2 : ¬ p = [] := by rcases hgo2 with g | g; cases g; exact g
    (have zz:=trivial;repeat((first|clear zz|with_reducible first|refine A3 ?_|refine A5 fun _=>?_|refine A4 fun _=>?_);try simp(disch:=first|omega|assumption|((repeat(first|exact A1|exact uH|apply A2|apply uT));first|done|fail)|(simp;first|done|omega|fail))[hs0, hcl, hp1, hp2]))
    refine H2 A76 (fun w' hw' => B07 w' _ j.table j.key idv (IntKind.i64.wrap (j.now + m.c.idle)) hkey hlen (A4F (ts := P) (t := (_, j.table)) hw' (by (repeat constructor)) ht)) ?_
    rintro r _ rfl
    cases h2 : K1 j.table ⟨1, j.key, idv, IntKind.i64.wrap (j.now + m.c.idle)⟩ with
    | none =>
     simp only [Option.isSome_none, Bool.false_eq_true, if_false]
     (have zz:=trivial;repeat((first|clear zz|with_reducible first|refine A3 ?_|refine A5 fun _=>?_|refine A4 fun _=>?_);try simp(disch:=first|omega|assumption|((repeat(first|exact A1|exact uH|apply A2|apply uT));first|done|fail)|(simp;first|done|omega|fail))[hs0, hcl, hp1, hp2]))
     refine B1 (.slice xa j.table.length xc, m.dz, P) ⟨by simp [M4], M3 rfl rfl hP ht⟩ ?_
     simp only [P1, E9, G5, C8, E0, E2, WoH.uz, WoH.dz]
     (repeat' constructor)
    | some u =>
     simp only [Option.isSome_some, if_true, Option.getD_some]
     refine A38 (e := 218) (k := 4) (v := r) (q := u.length) (xs := u.flatMap H0) (by (repeat constructor)) fun hr1 hr2 hr3 => ?_
     have hr4 : r.cells.toList = [r] := by rw [hr1]
     (have zz:=trivial;repeat((first|clear zz|with_reducible first|refine A3 ?_|refine A5 fun _=>?_|refine A4 fun _=>?_);try simp(disch:=first|omega|assumption|((repeat(first|exact A1|exact uH|apply A2|apply uT));first|done|fail)|(simp;first|done|omega|fail))[hs0, hcl, hp1, hp2, hr1, hr2, hr3, hr4]))
     refine a7 (r := r) (l := u) (ts := P) (by (repeat' constructor)) ?_
     refine B1 (r, m.dz, P ++ [(r, u)]) ⟨by simp [M4], rfl, hP.left _, List.mem_append_right _ (List.mem_singleton.2 rfl), .push _ _ _⟩ ?_
     simp only [P1, E9, G5, C8, E0, E2, WoH.uz, WoH.dz]
     (repeat' constructor)
end Go.Proofs.YtjobgnabneddjaaGreat
namespace Go.Proofs.YtjobgnabneddjaaGreat
open Go
def A25 : Array Value := #[.func (.func 76) #[] #[], .func (.func 77) #[] #[], .func (.func 78) #[] #[], .func (.func 79) #[] #[], .func (.func 80) #[] #[], .func (.func 81) #[] #[], .func (.func 82) #[] #[], .func (.func 83) #[] #[], .func (.func 84) #[] #[], .func (.func 85) #[] #[]]
theorem n5 (K : Value → WP) : A0 PR (Instr.build 144 #[(0, .func (.func 76) #[] #[]), (1, .func (.func 77) #[] #[]), (2, .func (.func 78) #[] #[]), (3, .func (.func 79) #[] #[]), (4, .func (.func 80) #[] #[]), (5, .func (.func 81) #[] #[]), (6, .func (.func 82) #[] #[]), (7, .func (.func 83) #[] #[]), (8, .func (.func 84) #[] #[]), (9, .func (.func 85) #[] #[])]) K = K (.agg A25) := F1 (fun w => by unfold A25; kernel_rfl) K
theorem JwOk.up {j : JW} {tv : Value} {m : WoH} {P : N5} (h : JwOk j tv m P) (st : Int) : JwOk { j with st := st } tv m P := ⟨h.ws, h.tabs, h.tb, h.shn, h.text, h.key, h.shard, h.keys, h.len, h.slot, h.ep, h.cur⟩
theorem C2Y {w' : World} {κ : Bool} {S : List Nat} {w0 : World} {H : List Res} {b : Nat} {j : JW} {tv : Value} {m : WoH} (hw : LW κ S w0 H w') (h1 : E9 b j tv ∈ H) (h2 : ∀ r ∈ C8 m, r ∈ H) :
  Fn PR B8 23 #[.pointer (some ⟨b, 0, none⟩), .pointer (some ⟨m.b, 0, none⟩)] w' (fun u w'' => u = .bool (j.ready m.ws) ∧ C7 [] w' w'') := C0U w' b j tv m (hw.pt h1) (WoAt.own hw h2)
set_option maxHeartbeats 4000000 in
theorem B4Y (w : World) (b : Nat) (j : JW) (tv : Value) (m : WoH) (P : N5) (h : JwOk j tv m P) (hst : 0 ≤ j.st ∧ j.st ≤ 10) (hw : LW false (B5 (F3 b j tv m P)) w (F3 b j tv m P) w) : A4M 20 w b j tv m P (j.step m.ws) := by
 refine A84 (TW.goH (κ := false) ?_ hw)
 unfold A2k
 have hshn : m.c.sh ≤ 1000 := by have h1 := h.shn; have h2 := h.tabs.few; omega
 generalize hS : B5 (F3 b j tv m P) = S at *
 have hR := fun (w' : World) (H : List Res) (hw' : LW false S w H w') (h1 : E9 b j tv ∈ H) (h2 : ∀ r ∈ C8 m, r ∈ H) => C2Y hw' h1 h2
 unfold JW.step
 cases hr : j.ready m.ws with
 | false =>
  rw [hr] at hR
  simp only [Bool.false_eq_true, if_false]
  (have zz:=trivial;repeat((first|clear zz|with_reducible first|refine A3 ?_|refine A5 fun _=>?_|refine A4 fun _=>?_);try simp(disch:=first|omega|assumption|((repeat(first|exact A1|exact uH|apply A2|apply uT));first|done|fail)|(simp;first|done|omega|fail))[]))
  rename_i bx
  refine C1 Q3 (fun w' hw' => hR w' _ hw' (by unfold F3; (repeat constructor)) (fun r hr => by unfold F3; exact List.mem_cons_of_mem _ (List.mem_cons_of_mem _ (List.mem_cons_of_mem _ hr)))) ?_
  (have zz:=trivial;repeat((first|clear zz|with_reducible first|refine A3 ?_|refine A5 fun _=>?_|refine A4 fun _=>?_);try simp(disch:=first|omega|assumption|((repeat(first|exact A1|exact uH|apply A2|apply uT));first|done|fail)|(simp;first|done|omega|fail))[]))
  refine B1 (tv, m.dz, P) ⟨rfl, M3 rfl rfl h.tabs.pool h.tb⟩ ?_
  simp only [P1, F3, C8, WoH.uz, WoH.dz]
  (repeat' constructor)
 | true =>
  rw [hr] at hR
  simp only [if_true]
  have hlt : j.st < 10 := by
   unfold JW.ready at hr
   simp only [Bool.and_eq_true, decide_eq_true_eq] at hr
   exact hr.1
  obtain ⟨k, hk⟩ : ∃ k : Nat, j.st = k := ⟨j.st.toNat, by omega⟩
  rw [hk, Int.toNat_natCast]
  clear hr
  have hcase : k = 0 ∨ k = 1 ∨ k = 2 ∨ k = 3 ∨ k = 4 ∨ k = 5 ∨ k = 6 ∨ k = 7 ∨ k = 8 ∨ k = 9 := by omega
  (have zz:=trivial;repeat((first|clear zz|with_reducible first|refine A3 ?_|refine A5 fun _=>?_|refine A4 fun _=>?_);try simp(disch:=first|omega|assumption|((repeat(first|exact A1|exact uH|apply A2|apply uT));first|done|fail)|(simp;first|done|omega|fail))[]))
  rename_i bx
  refine C1 Q3 (fun w' hw' => hR w' _ hw' (by unfold F3; (repeat constructor)) (fun r hr => by unfold F3; exact List.mem_cons_of_mem _ (List.mem_cons_of_mem _ (List.mem_cons_of_mem _ hr)))) ?_
  clear hR
  simp only [F3, E9, G5, C8, E0, E2, hk]
  rcases hcase with rfl | rfl | rfl | rfl | rfl | rfl | rfl | rfl | rfl | rfl
  ·rw [show D0 0 = jw0 from rfl, show (((0 : Nat) : Int) + 1) = 1 from rfl, show ((0 : Nat) : Int) = 0 from rfl]
   rw [n5]
   unfold A25
   (have zz:=trivial;repeat((first|clear zz|with_reducible first|refine A3 ?_|refine A5 fun _=>?_|refine A4 fun _=>?_);try simp(disch:=first|omega|assumption|((repeat(first|exact A1|exact uH|apply A2|apply uT));first|done|fail)|(simp;first|done|omega|fail))[]))
   refine C6 (Hc := F3 b { j with st := 1 } tv m P) A61 (fun w' _ hs => C7D w' b { j with st := 1 } tv m P (h.up _) hshn hs) (by simp only [F3, E9, G5, C8, E0, E2]; (repeat' constructor)) ?_
   rintro y v ⟨rfl, hy⟩
   generalize jw0 { j with st := 1 } m.ws = r at *
   obtain ⟨r1, r2, t1, t2, t3⟩ := r
   simp only [P1, List.cons_append, List.nil_append, M4, C8]
   (have zz:=trivial;repeat((first|clear zz|with_reducible first|refine A3 ?_|refine A5 fun _=>?_|refine A4 fun _=>?_);try simp(disch:=first|omega|assumption|((repeat(first|exact A1|exact uH|apply A2|apply uT));first|done|fail)|(simp;first|done|omega|fail))[]))
   refine B1 y ⟨rfl, hy⟩ ?_
   simp only [P1, C8]
   (repeat' constructor)
  ·rw [show D0 1 = jw1 from rfl, show (((1 : Nat) : Int) + 1) = 2 from rfl, show ((1 : Nat) : Int) = 1 from rfl]
   rw [n5]
   unfold A25
   (have zz:=trivial;repeat((first|clear zz|with_reducible first|refine A3 ?_|refine A5 fun _=>?_|refine A4 fun _=>?_);try simp(disch:=first|omega|assumption|((repeat(first|exact A1|exact uH|apply A2|apply uT));first|done|fail)|(simp;first|done|omega|fail))[]))
   refine C6 (Hc := F3 b { j with st := 2 } tv m P) A9J (fun w' _ hs => C7B w' b { j with st := 2 } tv m P (h.up _) hs) (by simp only [F3, E9, G5, C8, E0, E2]; (repeat' constructor)) ?_
   rintro y v ⟨rfl, hy⟩
   generalize jw1 { j with st := 2 } m.ws = r at *
   obtain ⟨r1, r2, t1, t2, t3⟩ := r
   simp only [P1, List.cons_append, List.nil_append, M4, C8]
   (have zz:=trivial;repeat((first|clear zz|with_reducible first|refine A3 ?_|refine A5 fun _=>?_|refine A4 fun _=>?_);try simp(disch:=first|omega|assumption|((repeat(first|exact A1|exact uH|apply A2|apply uT));first|done|fail)|(simp;first|done|omega|fail))[]))
   refine B1 y ⟨rfl, hy⟩ ?_
   simp only [P1, C8]
   (repeat' constructor)
  ·rw [show D0 2 = jw2 from rfl, show (((2 : Nat) : Int) + 1) = 3 from rfl, show ((2 : Nat) : Int) = 2 from rfl]
   rw [n5]
   unfold A25
   (have zz:=trivial;repeat((first|clear zz|with_reducible first|refine A3 ?_|refine A5 fun _=>?_|refine A4 fun _=>?_);try simp(disch:=first|omega|assumption|((repeat(first|exact A1|exact uH|apply A2|apply uT));first|done|fail)|(simp;first|done|omega|fail))[]))
   refine C6 (Hc := F3 b { j with st := 3 } tv m P) A7z (fun w' _ hs => C68 w' b { j with st := 3 } tv m P (h.up _) hs) (by simp only [F3, E9, G5, C8, E0, E2]; (repeat' constructor)) ?_
   rintro y v ⟨rfl, hy⟩
   generalize jw2 { j with st := 3 } m.ws = r at *
   obtain ⟨r1, r2, t1, t2, t3⟩ := r
   simp only [P1, List.cons_append, List.nil_append, M4, C8]
   (have zz:=trivial;repeat((first|clear zz|with_reducible first|refine A3 ?_|refine A5 fun _=>?_|refine A4 fun _=>?_);try simp(disch:=first|omega|assumption|((repeat(first|exact A1|exact uH|apply A2|apply uT));first|done|fail)|(simp;first|done|omega|fail))[]))
   refine B1 y ⟨rfl, hy⟩ ?_
   simp only [P1, C8]
   (repeat' constructor)
  ·rw [show D0 3 = jw3 from rfl, show (((3 : Nat) : Int) + 1) = 4 from rfl, show ((3 : Nat) : Int) = 3 from rfl]
   rw [n5]
   unfold A25
   (have zz:=trivial;repeat((first|clear zz|with_reducible first|refine A3 ?_|refine A5 fun _=>?_|refine A4 fun _=>?_);try simp(disch:=first|omega|assumption|((repeat(first|exact A1|exact uH|apply A2|apply uT));first|done|fail)|(simp;first|done|omega|fail))[]))
   refine C6 (Hc := F3 b { j with st := 4 } tv m P) A8Z (fun w' _ hs => C6e w' b { j with st := 4 } tv m P (h.up _) hs) (by simp only [F3, E9, G5, C8, E0, E2]; (repeat' constructor)) ?_
   rintro y v ⟨rfl, hy⟩
   generalize jw3 { j with st := 4 } m.ws = r at *
   obtain ⟨r1, r2, t1, t2, t3⟩ := r
   simp only [P1, List.cons_append, List.nil_append, M4, C8]
   (have zz:=trivial;repeat((first|clear zz|with_reducible first|refine A3 ?_|refine A5 fun _=>?_|refine A4 fun _=>?_);try simp(disch:=first|omega|assumption|((repeat(first|exact A1|exact uH|apply A2|apply uT));first|done|fail)|(simp;first|done|omega|fail))[]))
   refine B1 y ⟨rfl, hy⟩ ?_
   simp only [P1, C8]
   (repeat' constructor)
  ·rw [show D0 4 = jw4 from rfl, show (((4 : Nat) : Int) + 1) = 5 from rfl, show ((4 : Nat) : Int) = 4 from rfl]
   rw [n5]
   unfold A25
   (have zz:=trivial;repeat((first|clear zz|with_reducible first|refine A3 ?_|refine A5 fun _=>?_|refine A4 fun _=>?_);try simp(disch:=first|omega|assumption|((repeat(first|exact A1|exact uH|apply A2|apply uT));first|done|fail)|(simp;first|done|omega|fail))[]))
   refine C6 (Hc := F3 b { j with st := 5 } tv m P) A5f (fun w' _ hs => C6s w' b { j with st := 5 } tv m P (h.up _) hs) (by simp only [F3, E9, G5, C8, E0, E2]; (repeat' constructor)) ?_
   rintro y v ⟨rfl, hy⟩
   generalize jw4 { j with st := 5 } m.ws = r at *
   obtain ⟨r1, r2, t1, t2, t3⟩ := r
   simp only [P1, List.cons_append, List.nil_append, M4, C8]
   (have zz:=trivial;repeat((first|clear zz|with_reducible first|refine A3 ?_|refine A5 fun _=>?_|refine A4 fun _=>?_);try simp(disch:=first|omega|assumption|((repeat(first|exact A1|exact uH|apply A2|apply uT));first|done|fail)|(simp;first|done|omega|fail))[]))
   refine B1 y ⟨rfl, hy⟩ ?_
   simp only [P1, C8]
   (repeat' constructor)
  ·rw [show D0 5 = jw5 from rfl, show (((5 : Nat) : Int) + 1) = 6 from rfl, show ((5 : Nat) : Int) = 5 from rfl]
   rw [n5]
   unfold A25
   (have zz:=trivial;repeat((first|clear zz|with_reducible first|refine A3 ?_|refine A5 fun _=>?_|refine A4 fun _=>?_);try simp(disch:=first|omega|assumption|((repeat(first|exact A1|exact uH|apply A2|apply uT));first|done|fail)|(simp;first|done|omega|fail))[]))
   refine C6 (Hc := F3 b { j with st := 6 } tv m P) A8g (fun w' _ hs => C7d w' b { j with st := 6 } tv m P (h.up _) hs) (by simp only [F3, E9, G5, C8, E0, E2]; (repeat' constructor)) ?_
   rintro y v ⟨rfl, hy⟩
   generalize jw5 { j with st := 6 } m.ws = r at *
   obtain ⟨r1, r2, t1, t2, t3⟩ := r
   simp only [P1, List.cons_append, List.nil_append, M4, C8]
   (have zz:=trivial;repeat((first|clear zz|with_reducible first|refine A3 ?_|refine A5 fun _=>?_|refine A4 fun _=>?_);try simp(disch:=first|omega|assumption|((repeat(first|exact A1|exact uH|apply A2|apply uT));first|done|fail)|(simp;first|done|omega|fail))[]))
   refine B1 y ⟨rfl, hy⟩ ?_
   simp only [P1, C8]
   (repeat' constructor)
  ·rw [show D0 6 = jw6 from rfl, show (((6 : Nat) : Int) + 1) = 7 from rfl, show ((6 : Nat) : Int) = 6 from rfl]
   rw [n5]
   unfold A25
   (have zz:=trivial;repeat((first|clear zz|with_reducible first|refine A3 ?_|refine A5 fun _=>?_|refine A4 fun _=>?_);try simp(disch:=first|omega|assumption|((repeat(first|exact A1|exact uH|apply A2|apply uT));first|done|fail)|(simp;first|done|omega|fail))[]))
   refine C6 (Hc := F3 b { j with st := 7 } tv m P) A6S (fun w' _ hs => C7c w' b { j with st := 7 } tv m P (h.up _) hs) (by simp only [F3, E9, G5, C8, E0, E2]; (repeat' constructor)) ?_
   rintro y v ⟨rfl, hy⟩
   generalize jw6 { j with st := 7 } m.ws = r at *
   obtain ⟨r1, r2, t1, t2, t3⟩ := r
   simp only [P1, List.cons_append, List.nil_append, M4, C8]
   (have zz:=trivial;repeat((first|clear zz|with_reducible first|refine A3 ?_|refine A5 fun _=>?_|refine A4 fun _=>?_);try simp(disch:=first|omega|assumption|((repeat(first|exact A1|exact uH|apply A2|apply uT));first|done|fail)|(simp;first|done|omega|fail))[]))
   refine B1 y ⟨rfl, hy⟩ ?_
   simp only [P1, C8]
   (repeat' constructor)
  ·rw [show D0 7 = jw7 from rfl, show (((7 : Nat) : Int) + 1) = 8 from rfl, show ((7 : Nat) : Int) = 7 from rfl]
   rw [n5]
   unfold A25
   (have zz:=trivial;repeat((first|clear zz|with_reducible first|refine A3 ?_|refine A5 fun _=>?_|refine A4 fun _=>?_);try simp(disch:=first|omega|assumption|((repeat(first|exact A1|exact uH|apply A2|apply uT));first|done|fail)|(simp;first|done|omega|fail))[]))
   refine C6 (Hc := F3 b { j with st := 8 } tv m P) A63 (fun w' _ hs => C60 w' b { j with st := 8 } tv m P (h.up _) hs) (by simp only [F3, E9, G5, C8, E0, E2]; (repeat' constructor)) ?_
   rintro y v ⟨rfl, hy⟩
   generalize jw7 { j with st := 8 } m.ws = r at *
   obtain ⟨r1, r2, t1, t2, t3⟩ := r
   simp only [P1, List.cons_append, List.nil_append, M4, C8]
   (have zz:=trivial;repeat((first|clear zz|with_reducible first|refine A3 ?_|refine A5 fun _=>?_|refine A4 fun _=>?_);try simp(disch:=first|omega|assumption|((repeat(first|exact A1|exact uH|apply A2|apply uT));first|done|fail)|(simp;first|done|omega|fail))[]))
   refine B1 y ⟨rfl, hy⟩ ?_
   simp only [P1, C8]
   (repeat' constructor)
  ·rw [show D0 8 = jw8 from rfl, show (((8 : Nat) : Int) + 1) = 9 from rfl, show ((8 : Nat) : Int) = 8 from rfl]
   rw [n5]
   unfold A25
   (have zz:=trivial;repeat((first|clear zz|with_reducible first|refine A3 ?_|refine A5 fun _=>?_|refine A4 fun _=>?_);try simp(disch:=first|omega|assumption|((repeat(first|exact A1|exact uH|apply A2|apply uT));first|done|fail)|(simp;first|done|omega|fail))[]))
   refine C6 (Hc := F3 b { j with st := 9 } tv m P) A6P (fun w' _ hs => C65 w' b { j with st := 9 } tv m P (h.up _) hs) (by simp only [F3, E9, G5, C8, E0, E2]; (repeat' constructor)) ?_
   rintro y v ⟨rfl, hy⟩
   generalize jw8 { j with st := 9 } m.ws = r at *
   obtain ⟨r1, r2, t1, t2, t3⟩ := r
   simp only [P1, List.cons_append, List.nil_append, M4, C8]
   (have zz:=trivial;repeat((first|clear zz|with_reducible first|refine A3 ?_|refine A5 fun _=>?_|refine A4 fun _=>?_);try simp(disch:=first|omega|assumption|((repeat(first|exact A1|exact uH|apply A2|apply uT));first|done|fail)|(simp;first|done|omega|fail))[]))
   refine B1 y ⟨rfl, hy⟩ ?_
   simp only [P1, C8]
   (repeat' constructor)
  ·rw [show D0 9 = jw9 from rfl, show (((9 : Nat) : Int) + 1) = 10 from rfl, show ((9 : Nat) : Int) = 9 from rfl]
   rw [n5]
   unfold A25
   (have zz:=trivial;repeat((first|clear zz|with_reducible first|refine A3 ?_|refine A5 fun _=>?_|refine A4 fun _=>?_);try simp(disch:=first|omega|assumption|((repeat(first|exact A1|exact uH|apply A2|apply uT));first|done|fail)|(simp;first|done|omega|fail))[]))
   refine C6 (Hc := F3 b { j with st := 10 } tv m P) A7d (fun w' _ hs => C7E w' b { j with st := 10 } tv m P (h.up _) hs) (by simp only [F3, E9, G5, C8, E0, E2]; (repeat' constructor)) ?_
   rintro y v ⟨rfl, hy⟩
   generalize jw9 { j with st := 10 } m.ws = r at *
   obtain ⟨r1, r2, t1, t2, t3⟩ := r
   simp only [P1, List.cons_append, List.nil_append, M4, C8]
   (have zz:=trivial;repeat((first|clear zz|with_reducible first|refine A3 ?_|refine A5 fun _=>?_|refine A4 fun _=>?_);try simp(disch:=first|omega|assumption|((repeat(first|exact A1|exact uH|apply A2|apply uT));first|done|fail)|(simp;first|done|omega|fail))[]))
   refine B1 y ⟨rfl, hy⟩ ?_
   simp only [P1, C8]
   (repeat' constructor)
end Go.Proofs.YtjobgnabneddjaaGreat
namespace Go.Proofs.YtjobgnabneddjaaGreat
open Go
def B1q (t : List EnV) : Prop := (∀ x ∈ t, x = noE) ∧ t.length ≤ 64
theorem B8z (n : Nat) : B1q (newE n) := ⟨fun x hx => by unfold newE at hx; exact (List.mem_replicate.1 hx).2, by unfold newE; simp; omega⟩
theorem B69 {t : List EnV} (h : B1q t) : Q6 t := fun x hx => by rw [h.1 x hx]; decide
theorem A3b {l : List Int} {i : Nat} {a b : Int} (h : i < l.length) : A2H l (i : Nat) a b = if l.getD i 0 = a then l.set i b else l := by
 unfold A2H
 rw [Int.toNat_natCast]
 by_cases c : l.getD i 0 = a
 ·rw [if_pos ⟨by omega, by omega, c⟩, if_pos c]
 ·rw [if_neg (fun h => c h.2.2), if_neg c]
theorem B20 {l : List Int} {i : Nat} (h : i < l.length) : A1y l (i : Nat) = l.getD i 0 := by unfold A1y; rw [if_pos (by omega), Int.toNat_natCast]
def A72 (N : Nat) : List Int := List.replicate N (-1)
theorem C3g {N j : Nat} (h : j < N) : (A72 N).getD j 0 = -1 := by
 rw [List.getD_eq_getElem?_getD, List.getElem?_eq_getElem (by simp [A72]; exact h)]; simp [A72]
theorem C3G {l : List Int} (h : ∀ j, j < l.length → l.getD j 0 = -1) (i : Int) : A1y l i = -1 := by
 unfold A1y
 split
 ·rename_i hi; exact h _ (by omega)
 ·rfl
end Go.Proofs.YtjobgnabneddjaaGreat
namespace Go.Proofs.YtjobgnabneddjaaGreat
open Go
end Go.Proofs.YtjobgnabneddjaaGreat
namespace Go.Proofs.YtjobgnabneddjaaGreat
open Go
structure QI (N : Nat) (j : JW) (x : WS) : Prop where
 ok : WsOk x
 n : 1 ≤ N ∧ N ≤ 16
 sh : x.c.sh = (N : Nat)
 tl : x.tabs.length = N
 te : ∀ t ∈ x.tabs, B1q t
 pl : x.places.length = N
 ow : x.own.length = N
 jt : B1q j.table
 sl : ∀ i, H4 x.sl i = .no
 ep : D2 x.cells 0 = 0
 cur : D2 x.cells 1 = 0
 text : j.text.size ≤ 100
 key : j.key.size < 2 ^ 60
 shard : 0 ≤ j.shard ∧ j.shard < N
 slot : -1 ≤ j.slot ∧ j.slot ≤ 0
 st : 0 ≤ j.st ∧ j.st ≤ 10
theorem B4s (l : List EnV) (key : ByteArray) (c : Bool) (now idle : Int) : K9 l [] key c now idle = (l, ⟨11, 0, false, 0⟩, false) := by
 have hk : (K7 l [] key now).2 = false := by
  unfold K7
  have hb : ∀ id, N6 [] id = -1 := fun _ => rfl
  rw [if_pos (Or.inr (Or.inr (by rw [hb]; omega)))]
 unfold K9
 rw [if_pos ⟨hk, rfl⟩]
theorem A0W (l : List Int) (i w : Int) : (W7 l i w).length = l.length := by unfold W7 A2H; split <;> (try split) <;> simp
theorem n8 (l : List Int) (i w : Int) : (N4 l i w).length = l.length := by unfold N4 A2H; split <;> (try split) <;> simp
theorem C5f (c : CfgV) (who : Int) : G0 c who = -1 ∨ 2 ≤ G0 c who := by unfold G0; split <;> omega
theorem f8 (c : CfgV) (who v : Int) (l : List Int) (k : Int) (hk : k = 0 ∨ k = 1) : D2 (H5 l (G0 c who) v) k = D2 l k := m0 _ _ (by rcases C5f c who with h | h <;> omega)
theorem QI.stage {N : Nat} {j : JW} {x : WS} (h : QI N j x) (k : Nat) (hk : k < 10) (hs : j.st = (k : Nat)) : QI N (D0 k { j with st := j.st + 1 } x).1 (D0 k { j with st := j.st + 1 } x).2.1 := by
 obtain ⟨⟨w1, w2, w3, w4, w5⟩, h2, h3, h4, h5, h6, h7, h8, h9, h10, h11, h12, h13, h14, h15, h16⟩ := h
 have hst : 0 ≤ j.st + 1 ∧ j.st + 1 ≤ 10 := by omega
 have hok : WsOk x := ⟨w1, w2, w3, w4, w5⟩
 have hcase : k = 0 ∨ k = 1 ∨ k = 2 ∨ k = 3 ∨ k = 4 ∨ k = 5 ∨ k = 6 ∨ k = 7 ∨ k = 8 ∨ k = 9 := by omega
 rcases hcase with rfl | rfl | rfl | rfl | rfl | rfl | rfl | rfl | rfl | rfl
 ·show QI N (jw0 _ x).1 (jw0 _ x).2.1
  unfold jw0
  by_cases c1 : G0 x.c j.who < 0
  ·rw [if_pos c1]; exact ⟨hok, h2, h3, h4, h5, h6, h7, h8, h9, h10, h11, h12, h13, h14, h15, by simp [JW.refuse]⟩
  ·rw [if_neg c1]
   by_cases c2 : (E1 j.text).2.2 = 0
   ·rw [if_neg (by simpa using c2)]
    refine ⟨hok, h2, h3, h4, h5, h6, h7, h8, h9, h10, h11, h12, A9Q _, ?_, h15, hst⟩
    show 0 ≤ ((T2 (l7 (E1 j.text).1) x.c.sh : Nat) : Int) ∧ ((T2 (l7 (E1 j.text).1) x.c.sh : Nat) : Int) < N
    have : T2 (l7 (E1 j.text).1) x.c.sh < N := by
     unfold T2; rw [if_neg (by omega), h3, Int.toNat_natCast]; exact Nat.mod_lt _ (by omega)
    omega
   ·rw [if_pos c2]; exact ⟨hok, h2, h3, h4, h5, h6, h7, h8, h9, h10, h11, h12, h13, h14, h15, by simp [JW.refuse]⟩
 ·exact ⟨⟨w1, by simp only [D0, jw1, A0k]; exact w2, w3, w4, w5⟩, h2, h3, h4, h5, h6, h7, h8, h9, by simp only [D0, jw1]; rw [f8 _ _ _ _ _ (Or.inl rfl)]; exact h10, by simp only [D0, jw1]; rw [f8 _ _ _ _ _ (Or.inr rfl)]; exact h11, h12, h13, h14, h15, hst⟩
 ·show QI N (jw2 _ x).1 (jw2 _ x).2.1
  unfold jw2
  by_cases c1 : D2 x.cells 0 = j.ep
  ·rw [if_pos c1]; exact ⟨hok, h2, h3, h4, h5, h6, h7, h8, h9, h10, h11, h12, h13, h14, h15, hst⟩
  ·rw [if_neg c1]; exact ⟨hok, h2, h3, h4, h5, h6, h7, h8, h9, h10, h11, h12, h13, h14, h15, by simp⟩
 ·exact ⟨⟨w1, w2, by simp only [D0, jw3, A0W]; exact w3, w4, w5⟩, h2, h3, h4, h5, h6, by simp only [D0, jw3, A0W]; exact h7, h8, h9, h10, h11, h12, h13, h14, h15, hst⟩
 ·refine ⟨hok, h2, h3, h4, h5, h6, h7, h8, h9, h10, h11, h12, h13, h14, ?_, hst⟩
  show -1 ≤ IntKind.i64.wrap (D2 x.cells 1 - 1) ∧ IntKind.i64.wrap (D2 x.cells 1 - 1) ≤ 0
  rw [h11, W5 (by omega) (by omega)]; omega
 ·refine ⟨hok, h2, h3, h4, h5, h6, h7, ?_, h9, h10, h11, h12, h13, h14, h15, hst⟩
  show B1q (x.tabs.getD j.shard.toNat [])
  rw [List.getD_eq_getElem?_getD, List.getElem?_eq_getElem (by omega)]
  exact h5 _ (List.getElem_mem _)
 ·have hp : K6 x j.slot = [] := by unfold K6; rw [h9]
  refine ⟨hok, h2, h3, h4, h5, h6, h7, ?_, h9, h10, h11, h12, h13, h14, h15, hst⟩
  show B1q (K9 j.table (K6 x j.slot) j.key j.closing j.now x.c.idle).1
  rw [hp, B4s]; exact h8
 ·refine ⟨⟨w1, w2, w3, w4, w5⟩, h2, h3, by simp only [D0, jw7, List.length_set]; exact h4, fun t ht => ?_, h6, h7, h8, h9, h10, h11, h12, h13, h14, h15, hst⟩
  rcases List.mem_or_eq_of_mem_set (show t ∈ x.tabs.set j.shard.toNat j.table from ht) with ht | rfl
  ·exact h5 t ht
  ·exact h8
 ·exact ⟨⟨w1, w2, by simp only [D0, jw8, n8]; exact w3, w4, w5⟩, h2, h3, h4, h5, h6, by simp only [D0, jw8, n8]; exact h7, h8, h9, h10, h11, h12, h13, h14, h15, hst⟩
 ·exact ⟨⟨w1, by simp only [D0, jw9, A0k]; exact w2, w3, w4, w5⟩, h2, h3, h4, h5, h6, h7, h8, h9, by simp only [D0, jw9]; rw [f8 _ _ _ _ _ (Or.inl rfl)]; exact h10, by simp only [D0, jw9]; rw [f8 _ _ _ _ _ (Or.inr rfl)]; exact h11, h12, h13, h14, h15, hst⟩
theorem A6G {j : JW} {x : WS} (h : j.ready x = false) : j.step x = (j, x, x9) := by unfold JW.step; rw [h]; rfl
theorem A0J {j : JW} {x : WS} (h : j.ready x = true) : j.step x = D0 j.st.toNat { j with st := j.st + 1 } x := by unfold JW.step; rw [h]; rfl
theorem A73 {j : JW} {x : WS} (h : j.ready x = true) : j.st < 10 := by
 unfold JW.ready at h
 simp only [Bool.and_eq_true, decide_eq_true_eq] at h
 exact h.1
theorem QI.step {N : Nat} {j : JW} {x : WS} (h : QI N j x) : QI N (j.step x).1 (j.step x).2.1 := by
 cases hr : j.ready x with
 | false => rw [A6G hr]; exact h
 | true =>
  have hs := h.st
  have hl := A73 hr
  rw [A0J hr]
  exact h.stage _ (by omega) (by omega)
theorem C7Z {j : JW} {x : WS} (hs : j.st = 0) (hp : ¬ G0 x.c j.who < 0) (hb : (E1 j.text).2.2 ≠ 0) : j.step x = (({ j with st := j.st + 1 } : JW).refuse 9, x, true, true, false) := by
 rw [A0J (by simp [JW.ready, hs])]
 rw [hs]
 exact (if_neg hp).trans (if_pos hb)
structure GoI (N : Nat) (who : Int) (text : ByteArray) (k : Nat) (j : JW) (x : WS) : Prop where
 q : QI N j x
 ewho : j.who = who
 etext : j.text = text
 pin : 0 ≤ G0 x.c who
 good : (E1 text).2.2 = 0
 st : j.st = (k : Nat)
 ep : 1 ≤ k → k ≤ 3 → j.ep = 0
 slot : 5 ≤ k → j.slot = -1
 ans : 7 ≤ k → j.ans = ⟨11, 0, false, 0⟩
theorem C5z {N : Nat} {who : Int} {text : ByteArray} {k : Nat} {j : JW} {x : WS} (h : GoI N who text k j x) (hk : k < 10) (ho : k = 3 → A1y x.own j.shard < 0) : j.ready x = true ∧ GoI N who text (k + 1) (j.step x).1 (j.step x).2.1 := by
 obtain ⟨h1, h2, h3, h4, h5, h6, h7, h8, h9⟩ := h
 have hr : j.ready x = true := by
  unfold JW.ready
  rw [decide_eq_true (by omega), Bool.true_and]
  by_cases c : j.st = 3
  ·rw [decide_eq_true (ho (by omega))]; simp
  ·rw [decide_eq_false c]; rfl
 refine ⟨hr, ?_⟩
 have hq := h1.step
 rw [A0J hr] at hq ⊢
 rw [h6, Int.toNat_natCast] at hq ⊢
 have hp : K6 x j.slot = [] := by unfold K6; rw [h1.sl]
 have hcase : k = 0 ∨ k = 1 ∨ k = 2 ∨ k = 3 ∨ k = 4 ∨ k = 5 ∨ k = 6 ∨ k = 7 ∨ k = 8 ∨ k = 9 := by omega
 rcases hcase with rfl | rfl | rfl | rfl | rfl | rfl | rfl | rfl | rfl | rfl
 ·have e : D0 0 { j with st := ((0 : Nat) : Int) + 1 } x = ({ ({ j with st := ((0 : Nat) : Int) + 1 } : JW).rd x.c.sh with ep := D2 x.cells 0 }, x, x9) := by
   show jw0 _ x = _
   unfold jw0
   rw [if_neg (show ¬ G0 x.c j.who < 0 by rw [h2]; omega), if_neg (show ¬ (E1 j.text).2.2 ≠ 0 by rw [h3]; simpa using h5)]
  rw [e] at hq ⊢
  exact ⟨hq, h2, h3, h4, h5, rfl, fun _ _ => h1.ep, fun h => by omega, fun h => by omega⟩
 ·exact ⟨hq, h2, h3, h4, h5, rfl, fun _ _ => h7 (by omega) (by omega), fun h => by omega, fun h => by omega⟩
 ·have e : D0 2 { j with st := ((2 : Nat) : Int) + 1 } x = ({ j with st := ((2 : Nat) : Int) + 1 }, x, x9) := by
   show jw2 _ x = _
   unfold jw2
   rw [if_pos (show D2 x.cells 0 = j.ep by rw [h1.ep, h7 (by omega) (by omega)])]
  rw [e] at hq ⊢
  exact ⟨hq, h2, h3, h4, h5, rfl, fun _ _ => h7 (by omega) (by omega), fun h => by omega, fun h => by omega⟩
 ·exact ⟨hq, h2, h3, h4, h5, rfl, fun _ h => by omega, fun h => by omega, fun h => by omega⟩
 ·refine ⟨hq, h2, h3, h4, h5, rfl, fun _ h => by omega, fun _ => ?_, fun h => by omega⟩
  show IntKind.i64.wrap (D2 x.cells 1 - 1) = -1
  rw [h1.cur]; rfl
 ·exact ⟨hq, h2, h3, h4, h5, rfl, fun _ h => by omega, fun _ => h8 (by omega), fun h => by omega⟩
 ·refine ⟨hq, h2, h3, h4, h5, rfl, fun _ h => by omega, fun _ => h8 (by omega), fun _ => ?_⟩
  show (K9 j.table (K6 x j.slot) j.key j.closing j.now x.c.idle).2.1 = _
  rw [hp, B4s]
 ·exact ⟨hq, h2, h3, h4, h5, rfl, fun _ h => by omega, fun _ => h8 (by omega), fun _ => h9 (by omega)⟩
 ·exact ⟨hq, h2, h3, h4, h5, rfl, fun _ h => by omega, fun _ => h8 (by omega), fun _ => h9 (by omega)⟩
 ·exact ⟨hq, h2, h3, h4, h5, rfl, fun _ h => by omega, fun _ => h8 (by omega), fun _ => h9 (by omega)⟩
end Go.Proofs.YtjobgnabneddjaaGreat
namespace Go.Proofs.YtjobgnabneddjaaGreat
open Go
theorem C1Q {c : CfgV} (h : M7 c = true) : WsOk (H6 c) := by
 simp only [M7, W0, Bool.and_eq_true, decide_eq_true_eq] at h
 refine ⟨by simp only [H6]; omega, by simp only [H6, List.length_replicate], by simp only [H6, List.length_replicate]; omega, by simp only [H6, List.length_replicate]; omega, by simp only [H6, List.length_replicate]; omega⟩
theorem A3Z (n : Nat) (i : Int) : D2 (List.replicate n 0) i = 0 := by
 unfold D2
 split
 ·rw [List.getD_eq_getElem?_getD, List.getElem?_replicate]; split <;> rfl
 ·rfl
end Go.Proofs.YtjobgnabneddjaaGreat
namespace Go.Proofs.YtjobgnabneddjaaGreat
open Go
abbrev WA := JW × JwY
def n9 (b : Nat) (m : WoH) (a : WA) : List Res := F3 b a.1 a.2.1 (m.uz a.2.2.1) a.2.2.2
def wx (m : WoH) (a : WA) : WS := (m.uz a.2.2.1).ws
structure JwC (m : WoH) (a : WA) : Prop where
 emp : ∀ t ∈ a.2.2.2, B1q t.2
 sub : A23 a.2.2.1.ts a.2.2.2
 tb : (a.2.1, a.1.table) ∈ a.2.2.2
theorem JwC.ok {N : Nat} {m : WoH} {a : WA} (h : JwC m a) (hq : QI N a.1 (wx m a)) : JwOk a.1 a.2.1 (m.uz a.2.2.1) a.2.2.2 := by
 obtain ⟨j, tv, d, P⟩ := a
 have hts : d.ts.length = N := by have := hq.tl; simpa [wx, WoH.ws, WoH.uz] using this
 have hn := hq.n
 have hpl : m.pl.length = N := hq.pl
 have how : d.own.length = N := hq.ow
 have hsh : m.c.sh = (N : Nat) := hq.sh
 have hjt := hq.jt
 have htx : j.text.size ≤ 100 := hq.text
 have hjl : j.table.length ≤ 64 := hjt.2
 have hsl : -1 ≤ j.slot ∧ j.slot ≤ 0 := hq.slot
 have hsd : 0 ≤ j.shard ∧ j.shard < N := hq.shard
 have h0 : D2 d.cells 0 = 0 := hq.ep
 have h1 : D2 d.cells 1 = 0 := hq.cur
 refine ⟨hq.ok, ⟨by show d.ts.length ≤ _; omega, by show m.pl.length = d.ts.length; omega, fun t ht => ?_, fun t ht => B69 (h.emp _ (h.sub _ ht)), by show d.own.length ≤ _; omega, h.sub⟩, h.tb, by show (d.ts.length : Int) = m.c.sh; omega, by show j.text.size < _; omega, hq.key, by show 0 ≤ j.shard ∧ j.shard < (d.ts.length : Int); omega, B69 hjt, by show j.table.length ≤ _; omega, by show -1 ≤ j.slot ∧ j.slot ≤ _; omega, by show 0 ≤ D2 d.cells 0 ∧ D2 d.cells 0 ≤ _; omega, by show 0 ≤ D2 d.cells 1 ∧ D2 d.cells 1 ≤ _; omega⟩
 have := (h.emp _ (h.sub _ ht)).2; omega
theorem B2G {N : Nat} (w' : World) (b : Nat) (m : WoH) (a : WA) (hc : JwC m a) (hq : QI N a.1 (wx m a)) (hs : LW false (B5 (n9 b m a)) w' (n9 b m a) w') :
  Fn PR B8 20 #[.pointer (some ⟨b, 0, none⟩), .pointer (some ⟨m.b, 0, none⟩)] w' (Rn (B5 (n9 b m a)) w' (fun (a' : WA) u => u = M4 (a.1.step (wx m a)).2.2 ∧ a'.1 = (a.1.step (wx m a)).1 ∧ wx m a' = (a.1.step (wx m a)).2.1 ∧ JwC m a' ∧ QI N a'.1 (wx m a')) (n9 b m)) := by
 have hq' := hq.step
 obtain ⟨j, tv, d, P⟩ := a
 refine (B4Y w' b j tv (m.uz d) P (hc.ok hq) hq.st hs).mono fun u w'' hr => ?_
 obtain ⟨y, ⟨h1, h2, h3, h4, h5⟩, h6⟩ := hr
 have e2 : wx m ((j.step (m.uz d).ws).1, y) = (j.step (m.uz d).ws).2.1 := h2
 refine ⟨((j.step (m.uz d).ws).1, y), ⟨h1, rfl, e2, ⟨fun t ht => ?_, h3, h4⟩, by rw [e2]; exact hq'⟩, h6⟩
 rcases h5.2 t ht with h | h
 ·exact hc.emp t h
 ·rw [h]; exact hq'.jt
theorem B0z (w w' : World) (b : Nat) (m : WoH) (a : WA) {κ : Bool} {S : List Nat} {H : List Res} (hw : LW κ S w H w') (hs : ∀ r ∈ n9 b m a, r ∈ H) :
  Fn PR B8 23 #[.pointer (some ⟨b, 0, none⟩), .pointer (some ⟨m.b, 0, none⟩)] w' (fun u w'' => u = .bool (a.1.ready (wx m a)) ∧ C7 [] w' w'') :=
 C2Y (m := m.uz a.2.2.1) hw (hs _ (by unfold n9 F3; (repeat constructor))) fun r hr => hs _ (by unfold n9 F3; exact List.mem_cons_of_mem _ (List.mem_cons_of_mem _ hr))
theorem C3T (n : Nat) (i : Int) : H4 (List.replicate n SlV.no) i = .no := by
 unfold H4
 split
 ·rw [List.getD_eq_getElem?_getD, List.getElem?_replicate]; split <;> rfl
 ·rfl
theorem QI.job {N : Nat} {j : JW} {x : WS} (h : QI N j x) (who : Int) (text : ByteArray) (ht : text.size ≤ 100) : QI N (D9 who text) x :=
 ⟨h.ok, h.n, h.sh, h.tl, h.te, h.pl, h.ow, ⟨fun x hx => by simp [D9] at hx, by simp [D9]⟩, h.sl, h.ep, h.cur, ht, by simp [D9, L9], by have := h.n; simp only [D9]; omega, by simp [D9], by simp [D9]⟩
theorem QI.own {N : Nat} {j : JW} {x : WS} (h : QI N j x) (own : List Int) (ho : own.length = N) : QI N j { x with own := own } :=
 ⟨⟨h.ok.wk, h.ok.cells, by show own.length ≤ 16; have := h.n; omega, h.ok.sl, h.ok.keep⟩, h.n, h.sh, h.tl, h.te, h.pl, ho, h.jt, h.sl, h.ep, h.cur, h.text, h.key, h.shard, h.slot, h.st⟩
theorem QI.new {c : CfgV} (hok : M7 c = true) (who : Int) (text : ByteArray) (ht : text.size ≤ 100) : QI c.sh.toNat (D9 who text) (H6 c) := by
 have hw := C1Q hok
 simp only [M7, W0, Bool.and_eq_true, decide_eq_true_eq] at hok
 refine ⟨hw, by omega, by show c.sh = _; omega, by simp [H6], fun t h => ?_, by simp [H6], by simp [H6], ⟨fun x hx => by simp [D9] at hx, by simp [D9]⟩, fun i => C3T _ i, A3Z _ _, A3Z _ _, ht, by simp [D9, L9], by simp only [D9]; omega, by simp [D9], by simp [D9]⟩
 rw [(List.mem_replicate.1 (show t ∈ List.replicate c.sh.toNat (newE c.cp.toNat) from h)).2]
 exact B8z _
theorem JwC.new {c : CfgV} {m : WoH} (hws : m.ws = H6 c) (who : Int) (text : ByteArray) : JwC m (D9 who text, G6, m.dz, m.ts ++ [(G6, [])]) := by
 have e1 : m.ts.map (·.2) = List.replicate c.sh.toNat (newE c.cp.toNat) := congrArg WS.tabs hws
 refine ⟨fun t ht => ?_, fun t ht => List.mem_append_left _ ht, List.mem_append_right _ (List.mem_singleton.2 rfl)⟩
 rcases List.mem_append.1 ht with ht | ht
 ·have : t.2 ∈ m.ts.map (·.2) := List.mem_map.2 ⟨t, ht, rfl⟩
  rw [e1] at this
  rw [(List.mem_replicate.1 this).2]; exact B8z _
 ·rw [List.mem_singleton.1 ht]; exact ⟨fun x hx => by simp at hx, by simp⟩
theorem C4B {j : JW} {x : WS} {k : Nat} (hs : j.st = (k : Nat)) (hk : k < 3) : (j.step x).2.1.own = x.own := by
 cases hr : j.ready x with
 | false => rw [A6G hr]
 | true =>
  rw [A0J hr, hs, Int.toNat_natCast]
  have : k = 0 ∨ k = 1 ∨ k = 2 := by omega
  rcases this with rfl | rfl | rfl
  ·show (jw0 _ x).2.1.own = _
   unfold jw0
   split
   ·rfl
   ·split <;> rfl
  ·rfl
  ·show (jw2 _ x).2.1.own = _
   unfold jw2
   split <;> rfl
end Go.Proofs.YtjobgnabneddjaaGreat
namespace Go.Proofs.YtjobgnabneddjaaGreat
open Go
theorem B88 (w : World) (m : WoH) (hb : bl w m.b = some (.cells (E2 m.c (.pointer (some ⟨m.bc, 0, none⟩)) (.pointer (some ⟨m.bs, 0, none⟩)) (.pointer (some ⟨m.bk, 0, none⟩)) m.tv m.pv (.int .i64 m.now)) 39 (0, 0))) :
  Fn PR B8 18 #[.pointer (some ⟨m.b, 0, none⟩)] w (fun u w' => u = .bool true ∧ C7 [] w w') := by
 refine Fn.pure (A4j (TW.go (κ := false) (S := []) ?_))
 unfold x8
 have h5 : w.cell? ⟨m.b, 5, none⟩ = some (.pointer (some ⟨m.bc, 0, none⟩)) := by rw [E5 hb]; rfl
 have h6 : w.cell? ⟨m.b, 6, none⟩ = some (.pointer (some ⟨m.bs, 0, none⟩)) := by rw [E5 hb]; rfl
 have h7 : w.cell? ⟨m.b, 7, none⟩ = some (.pointer (some ⟨m.bk, 0, none⟩)) := by rw [E5 hb]; rfl
 (have zz:=trivial;repeat((first|clear zz|with_reducible first|refine A3 ?_|refine A5 fun _=>?_|refine A4 fun _=>?_);try simp(disch:=first|omega|assumption|((repeat(first|exact A1|exact uH|apply A2|apply uT));first|done|fail)|(simp;first|done|omega|fail))[h5, h6, h7]))
 exact B0 rfl
def C4v : CfgV := ⟨1, 1, 1, 5, 2⟩
def B5d : KeyV := ⟨4, ByteArray.mk #[97, 98, 99, 100], ByteArray.mk #[101, 102, 103, 104], 1, 2, 17⟩
def l2 : ByteArray := (n7 B5d 0).1
theorem C0B : (E1 l2).2.2 = 0 := by kernel_rfl
theorem C0H : l2.size ≤ 100 := by decide +kernel
theorem C95 : (n7 B5d 0).2 = 0 := by kernel_rfl
theorem C52 : (E1 L9).2.2 ≠ 0 := by decide +kernel
theorem C6w : M7 C4v = true := by kernel_rfl
theorem B56 (r : Res) : ∀ A : List Res, Part A (r :: A) [r]
 | [] => Part.nil
 | t :: A => Part.cons (.there .here) (B56 r A)
set_option maxHeartbeats 4000000 in
theorem B9Y (w : World) : Fn PR B8 14 #[] w (fun r w' => r = .bool true ∧ C7 [] w w') := by
 refine Fn.pure (A4g (TW.go (κ := false) (S := []) ?_))
 unfold x5
 (have zz:=trivial;repeat((first|clear zz|with_reducible first|refine A3 ?_|refine A5 fun _=>?_|refine A4 fun _=>?_);try simp(disch:=first|omega|assumption|((repeat(first|exact A1|exact uH|apply A2|apply uT));first|done|fail)|(simp;first|done|omega|fail))[]))
 refine H2 A74 (fun w' hw' => B85 w' C4v) ?_
 rw [C6w]
 simp only [if_true]
 rintro m v ⟨rfl, hmc, hws⟩
 (have zz:=trivial;repeat((first|clear zz|with_reducible first|refine A3 ?_|refine A5 fun _=>?_|refine A4 fun _=>?_);try simp(disch:=first|omega|assumption|((repeat(first|exact A1|exact uH|apply A2|apply uT));first|done|fail)|(simp;first|done|omega|fail))[]))
 refine C1 (u := .tuple #[.string l2, .int .i64 (n7 B5d 0).2]) B38 (fun w' _ => B6x w' B5d 0) ?_
 rw [C95]
 (have zz:=trivial;repeat((first|clear zz|with_reducible first|refine A3 ?_|refine A5 fun _=>?_|refine A4 fun _=>?_);try simp(disch:=first|omega|assumption|((repeat(first|exact A1|exact uH|apply A2|apply uT));first|done|fail)|(simp;first|done|omega|fail))[]))
 refine H2 v8 (fun w' hw' => A7V w' 1 l2) ?_
 rintro b v rfl
 (have zz:=trivial;repeat((first|clear zz|with_reducible first|refine A3 ?_|refine A5 fun _=>?_|refine A4 fun _=>?_);try simp(disch:=first|omega|assumption|((repeat(first|exact A1|exact uH|apply A2|apply uT));first|done|fail)|(simp;first|done|omega|fail))[]))
 refine H2 v8 (fun w' hw' => A7V w' 1 L9) ?_
 rintro b2 v rfl
 simp only [List.cons_append, List.nil_append]
 refine k9 218 4 ?_
 have hmz : m.uz m.dz = m := rfl
 refine a7 (r := .slice none 0 0) (l := []) (ts := m.ts) (by simp only [C8, List.cons_append, List.nil_append]; (repeat' constructor)) ?_
 refine Sels.tw (rs := E9 b2 (D9 1 L9) G6 :: n9 b m (D9 1 l2, G6, m.dz, m.ts ++ [(G6, [])])) (by simp only [n9, F3, hmz, C8, G6, List.cons_append, List.nil_append]; (repeat' constructor)) ?_
 have hq0 : QI 1 (D9 1 l2) (wx m (D9 1 l2, G6, m.dz, m.ts ++ [(G6, [])])) := by
  have := QI.new C6w 1 l2 C0H
  show QI 1 _ m.ws
  rw [hws]; exact this
 have hg0 : GoI 1 1 l2 0 (D9 1 l2) (wx m (D9 1 l2, G6, m.dz, m.ts ++ [(G6, [])])) :=
  ⟨hq0, rfl, rfl, by show 0 ≤ G0 m.ws.c 1; rw [hws]; decide, C0B, rfl, fun h => by omega, fun h => by omega, fun h => by omega⟩
 have ho0 : (wx m (D9 1 l2, G6, m.dz, m.ts ++ [(G6, [])])).own = A72 1 := by show m.ws.own = _; rw [hws]; rfl
 (have zz:=trivial;repeat((first|clear zz|with_reducible first|refine A3 ?_|refine A5 fun _=>?_|refine A4 fun _=>?_);try simp(disch:=first|omega|assumption|((repeat(first|exact A1|exact uH|apply A2|apply uT));first|done|fail)|(simp;first|done|omega|fail))[]))
 refine B9m (fun (y : WA × Nat) => E9 b2 (D9 1 L9) G6 :: n9 b m y.1) (fun y => y.2 ≤ 10 ∧ JwC m y.1 ∧ GoI 1 1 l2 y.2 y.1.1 (wx m y.1) ∧ (y.2 ≤ 3 → (wx m y.1).own = A72 1)) (fun y => 10 - y.2) ((D9 1 l2, G6, m.dz, m.ts ++ [(G6, [])]), 0) (fun y => .int .i64 (y.2 : Nat)) ⟨Nat.zero_le _, JwC.new hws 1 l2, hg0, fun _ => ho0⟩ ?_
 rintro ⟨a, n⟩ ⟨h1, h2, h3, h4⟩ L hL
 simp only at h1 h2 h3 h4 hL ⊢
 have hR := fun (w' : World) (H : List Res) (hw' : LW false [] w H w') (hs : ∀ r ∈ n9 b m a, r ∈ H) => B0z w w' b m a hw' hs
 have c20 : n < 20 := by omega
 have c20' : ((n : Nat) : Int) < 20 := by omega
 by_cases hn : n < 10
 ·obtain ⟨hr, hg⟩ := C5z h3 hn fun h => by
   rw [h4 (by omega)]
   have : A1y (A72 1) a.1.shard = -1 := C3G (fun j hj => C3g (by simpa [A72] using hj)) _
   omega
  have hos := C4B h3.st (x := wx m a)
  rw [hr] at hR
  (have zz:=trivial;repeat((first|clear zz|with_reducible first|refine A3 ?_|refine A5 fun _=>?_|refine A4 fun _=>?_);try simp(disch:=first|omega|assumption|((repeat(first|exact A1|exact uH|apply A2|apply uT));first|done|fail)|(simp;first|done|omega|fail))[c20, c20']))
  refine C1 Q3 (fun w' hw' => hR w' _ hw' (fun r hr => List.mem_cons_of_mem _ hr)) ?_
  (have zz:=trivial;repeat((first|clear zz|with_reducible first|refine A3 ?_|refine A5 fun _=>?_|refine A4 fun _=>?_);try simp(disch:=first|omega|assumption|((repeat(first|exact A1|exact uH|apply A2|apply uT));first|done|fail)|(simp;first|done|omega|fail))[c20, c20']))
  refine C6 (Hc := n9 b m a) (Hk := [E9 b2 (D9 1 L9) G6]) p6 (fun w' hw' hs => B2G w' b m a h2 h3.q hs) (B56 _ _) ?_
  rintro a' v ⟨rfl, k1, k2, k3, k4⟩
  refine TW.perm ?_ List.perm_append_comm
  simp only [List.cons_append, List.nil_append]
  (have zz:=trivial;repeat((first|clear zz|with_reducible first|refine A3 ?_|refine A5 fun _=>?_|refine A4 fun _=>?_);try simp(disch:=first|omega|assumption|((repeat(first|exact A1|exact uH|apply A2|apply uT));first|done|fail)|(simp;first|done|omega|fail))[]))
  exact hL (a', n + 1) ⟨by simp only; omega, k3, by rw [← k1, ← k2] at hg; exact hg, fun h => by simp only at h ⊢; rw [k2, hos (by omega)]; exact h4 (by omega)⟩ (by simp only; omega)
 obtain rfl : n = 10 := by omega
 clear hL
 have hst : a.1.st = 10 := h3.st
 have hr : a.1.ready (wx m a) = false := by unfold JW.ready; rw [decide_eq_false (by omega)]; rfl
 have hans := h3.ans (by omega)
 rw [hr] at hR
 (have zz:=trivial;repeat((first|clear zz|with_reducible first|refine A3 ?_|refine A5 fun _=>?_|refine A4 fun _=>?_);try simp(disch:=first|omega|assumption|((repeat(first|exact A1|exact uH|apply A2|apply uT));first|done|fail)|(simp;first|done|omega|fail))[]))
 refine C1 Q3 (fun w' hw' => hR w' _ hw' (fun r hr => List.mem_cons_of_mem _ hr)) ?_
 (have zz:=trivial;repeat((first|clear zz|with_reducible first|refine A3 ?_|refine A5 fun _=>?_|refine A4 fun _=>?_);try simp(disch:=first|omega|assumption|((repeat(first|exact A1|exact uH|apply A2|apply uT));first|done|fail)|(simp;first|done|omega|fail))[]))
 obtain ⟨j, tv, d, P⟩ := a
 have hq := h3.q
 have hemp := h2.emp
 have hsub := h2.sub
 simp only at hst hans hq hemp hsub
 refine k9 218 4 ?_
 simp only [n9, F3]
 refine a7 (r := .slice none 0 0) (l := []) (ts := P) (by (repeat' constructor)) ?_
 have hmb : (m.uz d).b = m.b := rfl
 have hcP : JwC (m.uz d) (D9 1 L9, G6, (m.uz d).dz, P ++ [(G6, [])]) := by
  refine ⟨fun t ht => ?_, fun t ht => List.mem_append_left _ (hsub t ht), List.mem_append_right _ (List.mem_singleton.2 rfl)⟩
  rcases List.mem_append.1 ht with ht | ht
  ·exact hemp t ht
  ·rw [List.mem_singleton.1 ht]; exact ⟨fun x hx => by simp at hx, by simp⟩
 have hq2 : QI 1 (D9 1 L9) (wx (m.uz d) (D9 1 L9, G6, (m.uz d).dz, P ++ [(G6, [])])) := hq.job 1 L9 (by simp [L9])
 have hbad : (D9 1 L9).step (m.uz d).ws = (({ D9 1 L9 with st := 1 } : JW).refuse 9, (m.uz d).ws, true, true, false) := by
  have := C7Z (j := D9 1 L9) (x := (m.uz d).ws) rfl (by have : (m.uz d).ws.c = m.ws.c := rfl; rw [this, hws]; decide) C52
  exact this
 refine C6 (Hc := n9 b2 (m.uz d) (D9 1 L9, G6, (m.uz d).dz, P ++ [(G6, [])])) (Hk := [E9 b j tv]) p6 (fun w' hw' hs => B2G (N := 1) w' b2 (m.uz d) _ hcP hq2 hs) (by simp only [n9, F3, show (m.uz d).uz (m.uz d).dz = m.uz d from rfl, C8, G6, List.cons_append, List.nil_append]; (repeat' constructor)) ?_
 rintro ⟨j2, tv2, d2, P2⟩ v ⟨rfl, k1, _, _, _⟩
 simp only [wx, show (m.uz d).uz (m.uz d).dz = m.uz d from rfl, hbad] at k1 ⊢
 subst k1
 have hA1 := fun (w' : World) (g : bl w' b = some (.cells (G5 j tv) 130 (0, 0))) => A2M w' b j tv g
 have hS1 := fun (w' : World) (g : bl w' b = some (.cells (G5 j tv) 130 (0, 0))) => A3U w' b j tv g
 rw [hans] at hA1
 rw [hst] at hS1
 obtain ⟨j3, hj3⟩ : ∃ j3, j3 = ({ D9 1 L9 with st := 1 } : JW).refuse 9 := ⟨_, rfl⟩
 have e3 : j3.ans = ⟨9, 0, false, 0⟩ ∧ j3.st = 10 := by rw [hj3]; exact ⟨rfl, rfl⟩
 have r3 : j3.ready ((m.uz d).uz d2).ws = false := by unfold JW.ready; rw [decide_eq_false (by omega)]; rfl
 rw [← hj3]
 have hA2 := fun (w' : World) (g : bl w' b2 = some (.cells (G5 j3 tv2) 130 (0, 0))) => A2M w' b2 j3 tv2 g
 have hS2 := fun (w' : World) (g : bl w' b2 = some (.cells (G5 j3 tv2) 130 (0, 0))) => A3U w' b2 j3 tv2 g
 have hR2 := fun (w' : World) (H : List Res) (hw' : LW false [] w H w') (hs : ∀ r ∈ n9 b2 (m.uz d) (j3, tv2, d2, P2), r ∈ H) => B0z w w' b2 (m.uz d) (j3, tv2, d2, P2) hw' hs
 rw [show wx (m.uz d) (j3, tv2, d2, P2) = ((m.uz d).uz d2).ws from rfl, r3] at hR2
 rw [e3.1] at hA2
 rw [e3.2] at hS2
 simp only [n9, F3, List.cons_append, List.nil_append, M4]
 (have zz:=trivial;repeat((first|clear zz|with_reducible first|refine A3 ?_|refine A5 fun _=>?_|refine A4 fun _=>?_);try simp(disch:=first|omega|assumption|((repeat(first|exact A1|exact uH|apply A2|apply uT));first|done|fail)|(simp;first|done|omega|fail))[]))
 rename_i bt
 refine C1 M5 (fun w' hw' => hA1 w' (hw'.pt (b := b) (by unfold E9; simp))) ?_
 simp only [AnsV.val]
 (have zz:=trivial;repeat((first|clear zz|with_reducible first|refine A3 ?_|refine A5 fun _=>?_|refine A4 fun _=>?_);try simp(disch:=first|omega|assumption|((repeat(first|exact A1|exact uH|apply A2|apply uT));first|done|fail)|(simp;first|done|omega|fail))[]))
 refine C1 N2 (fun w' hw' => hS1 w' (hw'.pt (b := b) (by unfold E9; simp))) ?_
 (have zz:=trivial;repeat((first|clear zz|with_reducible first|refine A3 ?_|refine A5 fun _=>?_|refine A4 fun _=>?_);try simp(disch:=first|omega|assumption|((repeat(first|exact A1|exact uH|apply A2|apply uT));first|done|fail)|(simp;first|done|omega|fail))[]))
 refine C1 M5 (fun w' hw' => hA2 w' (hw'.pt (b := b2) (by unfold E9; simp))) ?_
 simp only [AnsV.val]
 (have zz:=trivial;repeat((first|clear zz|with_reducible first|refine A3 ?_|refine A5 fun _=>?_|refine A4 fun _=>?_);try simp(disch:=first|omega|assumption|((repeat(first|exact A1|exact uH|apply A2|apply uT));first|done|fail)|(simp;first|done|omega|fail))[]))
 refine C1 Q3 (fun w' hw' => hR2 w' _ hw' (fun r hr => by unfold n9 F3 at hr; simp only [List.mem_cons, List.mem_append] at hr ⊢; rcases hr with h | h | h <;> simp [h])) ?_
 (have zz:=trivial;repeat((first|clear zz|with_reducible first|refine A3 ?_|refine A5 fun _=>?_|refine A4 fun _=>?_);try simp(disch:=first|omega|assumption|((repeat(first|exact A1|exact uH|apply A2|apply uT));first|done|fail)|(simp;first|done|omega|fail))[]))
 refine C1 N2 (fun w' hw' => hS2 w' (hw'.pt (b := b2) (by unfold E9; simp))) ?_
 (have zz:=trivial;repeat((first|clear zz|with_reducible first|refine A3 ?_|refine A5 fun _=>?_|refine A4 fun _=>?_);try simp(disch:=first|omega|assumption|((repeat(first|exact A1|exact uH|apply A2|apply uT));first|done|fail)|(simp;first|done|omega|fail))[]))
 exact B0 rfl
end Go.Proofs.YtjobgnabneddjaaGreat
namespace Go.Proofs.YtjobgnabneddjaaGreat
open Go
def upW (j : Nat) (x : EnV) (p : Nat × EnV) : Nat × EnV := if p.1 = j then (j, x) else p
theorem C33 (key : ByteArray) : ∀ L, -1 ≤ L0 key L := by
 intro L
 induction L with
 | nil => simp [L0]
 | cons p L ih => (simp only [L0]; repeat' split) <;> first | omega | exact ih
theorem C30 (l : List EnV) (key : ByteArray) : -1 ≤ E3 l key := C33 _ _
theorem B94 {key : ByteArray} {j : Nat} {x : EnV} (h1 : x.st = 1) (hk : x.key = key) : ∀ L, L0 key L = j → L0 key (L.map (upW j x)) = j := by
 intro L
 induction L with
 | nil => intro h; simp [L0] at h <;> omega
 | cons p L ih =>
  intro h
  rw [List.map_cons]
  by_cases c : p.1 = j
  ·simp [L0, upW, c, h1, hk]
  ·have hu : upW j x p = p := if_neg c
   simp only [L0] at h ⊢
   rw [hu]
   split at h
   ·omega
   ·split at h
    ·omega
    ·rename_i c0 c1
     rw [if_neg c0, if_neg c1]; exact ih h
theorem B9A {key : ByteArray} {j : Nat} {x : EnV} (h1 : x.st = 1) (hk : x.key = key) : ∀ L, L0 key L < 0 → P4 L = j → L0 key (L.map (upW j x)) = j := by
 intro L
 induction L with
 | nil => intro _ h; simp [P4] at h <;> omega
 | cons p L ih =>
  intro hf h
  rw [List.map_cons]
  by_cases c : p.1 = j
  ·simp [L0, upW, c, h1, hk]
  ·have hu : upW j x p = p := if_neg c
   simp only [L0, P4] at h hf ⊢
   rw [hu]
   by_cases c1 : p.2.st = 1
   ·rw [if_pos c1] at h
    rw [if_neg (by omega)] at hf ⊢
    by_cases c2 : p.2.st = 1 ∧ p.2.key = key
    ·rw [if_pos c2] at hf; omega
    ·rw [if_neg c2] at hf ⊢; exact ih hf h
   ·rw [if_neg c1] at h; omega
theorem B1x (l : List EnV) (key : ByteArray) (j : Nat) (x : EnV) (hj : j < l.length) : U2 (l.set j x) key = (U2 l key).map (upW j x) := by
 unfold U2
 rw [List.length_set, List.map_map]
 refine List.map_congr_left fun i hi => ?_
 have hi' : i < l.length := List.mem_range.1 hi
 have hm : (N3 key l.length + i) % l.length < l.length := Nat.mod_lt _ (by omega)
 simp only [Function.comp_apply, upW]
 generalize (N3 key l.length + i) % l.length = q at *
 by_cases c : q = j
 ·subst c; simp [List.getD_eq_getElem?_getD, hm]
 ·rw [if_neg c]; simp [List.getD_eq_getElem?_getD, List.getElem?_set_ne (Ne.symm c)]
theorem C1d {key : ByteArray} {j : Nat} : ∀ L, L0 key L = j → ∃ x, (j, x) ∈ L ∧ x.st = 1 ∧ x.key = key := by
 intro L
 induction L with
 | nil => intro h; simp [L0] at h <;> omega
 | cons p L ih =>
  intro h
  simp only [L0] at h
  split at h
  ·omega
  ·split at h
   ·rename_i c
    have : p.1 = j := by omega
    exact ⟨p.2, by rw [← this]; simp, c⟩
   ·obtain ⟨x, h1, h2⟩ := ih h
    exact ⟨x, List.mem_cons_of_mem _ h1, h2⟩
theorem B1Y {l : List EnV} {key : ByteArray} {p : Nat × EnV} (h : p ∈ U2 l key) : l[p.1]? = some p.2 := by
 unfold U2 at h
 obtain ⟨i, hi, rfl⟩ := List.mem_map.1 h
 have hi' : i < l.length := List.mem_range.1 hi
 exact getD_some noE (Nat.mod_lt _ (by omega))
theorem B7b {l : List EnV} {key : ByteArray} {j : Nat} (h : E3 l key = j) : ∃ x, l[j]? = some x ∧ x.st = 1 ∧ x.key = key := by
 obtain ⟨x, h1, h2⟩ := C1d _ h
 exact ⟨x, B1Y h1, h2⟩
theorem A5L {l u : List EnV} {x : EnV} (h : K1 l x = some u) (h1 : x.st = 1) : ∃ j, j < l.length ∧ u = l.set j x ∧ E3 u x.key = (j : Nat) ∧ (E3 l x.key = (j : Nat) ∨ E3 l x.key < 0 ∧ P4 (U2 l x.key) = (j : Nat)) := by
 unfold K1 at h
 simp only at h
 by_cases c : E3 l x.key < 0
 ·rw [if_pos c] at h
  by_cases c2 : b8 l x.key < 0
  ·rw [if_pos c2] at h; cases h
  ·rw [if_neg c2] at h
   injection h with h
   have hr : b8 l x.key = P4 (U2 l x.key) := if_neg (by omega)
   have hlt := B1E (l := l) (key := x.key) (by omega)
   refine ⟨_, hlt, h.symm, ?_, Or.inr ⟨c, by omega⟩⟩
   subst h
   unfold E3
   rw [B1x _ _ _ _ hlt]
   exact B9A h1 rfl _ c (by omega)
 ·rw [if_neg c, if_neg c] at h
  injection h with h
  have hlt := A2C (l := l) (key := x.key) (by omega)
  refine ⟨_, hlt, h.symm, ?_, Or.inl (by omega)⟩
  subst h
  unfold E3 at *
  rw [B1x _ _ _ _ hlt]
  exact B94 h1 rfl _ (by omega)
theorem B1e {l u : List EnV} {x : EnV} (h : K1 l x = some u) : ∃ j, j < l.length ∧ u = l.set j x := by
 unfold K1 at h
 simp only at h
 by_cases c : E3 l x.key < 0
 ·rw [if_pos c] at h
  by_cases c2 : b8 l x.key < 0
  ·rw [if_pos c2] at h; cases h
  ·rw [if_neg c2] at h
   injection h with h
   exact ⟨_, B1E (by omega), h.symm⟩
 ·rw [if_neg c, if_neg c] at h
  injection h with h
  exact ⟨_, A2C (by omega), h.symm⟩
theorem B4P {l : List EnV} {x : EnV} (h : K1 l x = none) : E3 l x.key < 0 := by
 unfold K1 at h
 simp only at h
 by_cases c : E3 l x.key < 0
 ·exact c
 ·rw [if_neg c, if_neg c] at h; cases h
theorem C2f {l : List EnV} {i : Nat} {p : Nat × EnV} : p ∈ Q4 i l ↔ i ≤ p.1 ∧ l[p.1 - i]? = some p.2 ∧ p.2.st = 1 := by
 induction l generalizing i with
 | nil => simp [Q4]
 | cons x l ih =>
  have hs : i + 1 ≤ p.1 → (x :: l)[p.1 - i]? = l[p.1 - (i + 1)]? := fun h => by
   rw [show p.1 - i = (p.1 - (i + 1)) + 1 by omega, List.getElem?_cons_succ]
  have h0 : ∀ h : i ≤ p.1, ¬ i + 1 ≤ p.1 → p.1 = i := fun _ _ => by omega
  unfold Q4
  split
  ·rename_i c
   rw [List.mem_cons, ih]
   constructor
   ·rintro (rfl | ⟨a, b, d⟩)
    ·simp [c]
    ·exact ⟨by omega, by rw [hs a]; exact b, d⟩
   ·rintro ⟨a, b, d⟩
    by_cases e : i + 1 ≤ p.1
    ·exact Or.inr ⟨e, by rw [← hs e]; exact b, d⟩
    ·have := h0 a e
     left
     rw [this] at b
     simp at b
     obtain ⟨q, y⟩ := p
     simp_all
  ·rename_i c
   rw [ih]
   constructor
   ·rintro ⟨a, b, d⟩
    exact ⟨by omega, by rw [hs a]; exact b, d⟩
   ·rintro ⟨a, b, d⟩
    by_cases e : i + 1 ≤ p.1
    ·exact ⟨e, by rw [← hs e]; exact b, d⟩
    ·have := h0 a e
     rw [this] at b
     simp at b
     rw [b] at c
     exact absurd d c
theorem A2S {l : List EnV} {p : Nat × EnV} : p ∈ H3 l ↔ l[p.1]? = some p.2 ∧ p.2.st = 1 := by
 unfold H3; rw [C2f]; simp
theorem A3T {l : List EnV} : S5 l = true ↔ ∀ (i : Nat) (x : EnV), l[i]? = some x → x.st = 1 → E3 l x.key = (i : Nat) := by
 unfold S5
 rw [List.all_eq_true]
 constructor
 ·intro h i x hx h1
  simpa using h (i, x) (A2S.2 ⟨hx, h1⟩)
 ·intro h p hp
  obtain ⟨h1, h2⟩ := A2S.1 hp
  simpa using h p.1 p.2 h1 h2
def Q5 (l : List EnV) (key : ByteArray) : Prop := ∀ (i : Nat) (x : EnV), l[i]? = some x → x.st = 1 → x.key ≠ key
theorem Q5.find {l : List EnV} {key : ByteArray} (h : Q5 l key) : E3 l key < 0 := by
 have hg := C30 l key
 by_cases c : E3 l key < 0
 ·exact c
 ·obtain ⟨x, h1, h2, h3⟩ := B7b (l := l) (key := key) (j := (E3 l key).toNat) (by omega)
  exact absurd h3 (h _ _ h1 h2)
theorem getElem?_set_some {α : Type} {l : List α} {i j : Nat} {x y : α} (h : (l.set j x)[i]? = some y) : (i = j ∧ y = x) ∨ (i ≠ j ∧ l[i]? = some y) := by
 by_cases c : i = j
 ·subst c
  rw [List.getElem?_set_self'] at h
  cases hl : l[i]? with
  | none => rw [hl] at h; cases h
  | some z => rw [hl] at h; left; exact ⟨rfl, by simpa using h.symm⟩
 ·rw [List.getElem?_set_ne (Ne.symm c)] at h
  exact Or.inr ⟨c, h⟩
theorem Q5.set {l : List EnV} {key : ByteArray} {j : Nat} {x : EnV} (h : Q5 l key) (hx : x.st = 1 → x.key ≠ key) : Q5 (l.set j x) key := fun i y hy h1 => by
 rcases getElem?_set_some hy with ⟨_, rfl⟩ | ⟨_, h2⟩
 ·exact hx h1
 ·exact h i y h2 h1
theorem Q5.put {l : List EnV} {key : ByteArray} {x : EnV} (h : Q5 l key) (hx : x.st = 1 → x.key ≠ key) : Q5 (Y2 l x) key := by
 unfold Y2
 cases hp : K1 l x with
 | none => exact h
 | some u => obtain ⟨j, _, rfl⟩ := B1e hp; exact h.set hx
theorem Q5.newE (n : Nat) (key : ByteArray) : Q5 (newE n) key := fun i x hx h1 => by
 unfold Go.Proofs.YtjobgnabneddjaaGreat.newE at hx
 obtain ⟨_, h2⟩ := List.getElem?_eq_some_iff.1 hx
 rw [List.getElem_replicate] at h2
 rw [← h2] at h1; simp [noE] at h1
theorem Q5.tidy {l : List EnV} {key : ByteArray} (h : Q5 l key) : Q5 (u7 l) key := by
 unfold u7
 have : ∀ (L : List (Nat × EnV)) (a : List EnV), (∀ p ∈ L, p.2.st = 1 → p.2.key ≠ key) → Q5 a key → Q5 (L.foldl (fun acc p => Y2 acc p.2) a) key := by
  intro L
  induction L with
  | nil => intro a _ h; exact h
  | cons p L ih => intro a hL ha; rw [List.foldl_cons]; exact ih _ (fun q hq => hL q (List.mem_cons_of_mem _ hq)) (ha.put (hL p (List.mem_cons_self ..)))
 exact this _ _ (fun p hp h1 => h p.1 p.2 (A2S.1 hp).1 h1) (.newE _ _)
theorem Q5.settle {l : List EnV} {key : ByteArray} (h : Q5 l key) : Q5 (Q0 l) key := by
 unfold Q0; split
 ·exact h.tidy
 ·exact h
end Go.Proofs.YtjobgnabneddjaaGreat
namespace Go.Proofs.YtjobgnabneddjaaGreat
open Go
theorem B9D {key : ByteArray} {i j : Nat} {x : EnV} (h0 : x.st ≠ 0) (h1 : ¬ (x.st = 1 ∧ x.key = key)) (hij : i ≠ j) : ∀ L, L0 key L = i → L0 key (L.map (upW j x)) = i := by
 intro L
 induction L with
 | nil => intro h; simp [L0] at h <;> omega
 | cons p L ih =>
  intro h
  rw [List.map_cons]
  simp only [L0] at h
  split at h
  ·omega
  ·rename_i c0
   split at h
   ·rename_i c1
    have : p.1 ≠ j := by omega
    rw [upW, if_neg this]
    simp only [L0]
    rw [if_neg c0, if_pos c1]; exact h
   ·rename_i c1
    by_cases c : p.1 = j
    ·rw [upW, if_pos c]
     simp only [L0]
     rw [if_neg h0, if_neg h1]; exact ih h
    ·rw [upW, if_neg c]
     simp only [L0]
     rw [if_neg c0, if_neg c1]; exact ih h
theorem B2d {l : List EnV} {key : ByteArray} {i j : Nat} {x : EnV} (hj : j < l.length) (h0 : x.st ≠ 0) (h1 : ¬ (x.st = 1 ∧ x.key = key)) (hij : i ≠ j) (h : E3 l key = i) : E3 (l.set j x) key = i := by
 unfold E3 at *
 rw [B1x _ _ _ _ hj]
 exact B9D h0 h1 hij _ h
theorem C0Y {l : List EnV} {j : Nat} (hj : j < l.length) (h : S5 l = true) : S5 (l.set j l8) = true := by
 rw [A3T] at h ⊢
 intro i y hy h1
 rcases getElem?_set_some hy with ⟨_, rfl⟩ | ⟨h2, h3⟩
 ·simp [l8] at h1
 ·exact B2d hj (by simp [l8]) (by simp [l8]) h2 (h i y h3 h1)
theorem B4k {l u : List EnV} {x : EnV} (h1 : x.st = 1) (hp : K1 l x = some u) (h : S5 l = true) : S5 u = true := by
 rw [A3T] at h ⊢
 obtain ⟨j, hj, rfl, hf, hc⟩ := A5L hp h1
 intro i y hy hy1
 rcases getElem?_set_some hy with ⟨rfl, rfl⟩ | ⟨h2, h3⟩
 ·exact hf
 ·have hi := h i y h3 hy1
  have hk : x.key ≠ y.key := fun e => by rw [← e] at hi; omega
  exact B2d hj (by omega) (fun e => hk e.2) h2 hi
theorem B4r (n : Nat) : S5 (newE n) = true := by
 rw [A3T]
 intro i x hx h1
 unfold newE at hx
 obtain ⟨_, h2⟩ := List.getElem?_eq_some_iff.1 hx
 rw [List.getElem_replicate] at h2
 rw [← h2] at h1; simp [noE] at h1
theorem C0Q {a : List EnV} {x : EnV} (h1 : x.st = 1) (h : S5 a = true) : S5 (Y2 a x) = true := by
 unfold Y2
 cases hp : K1 a x with
 | none => exact h
 | some u => exact B4k h1 hp h
theorem C0Z (l : List EnV) : S5 (u7 l) = true := by
 unfold u7
 have : ∀ (L : List (Nat × EnV)) (a : List EnV), (∀ p ∈ L, p.2.st = 1) → S5 a = true → S5 (L.foldl (fun acc p => Y2 acc p.2) a) = true := by
  intro L
  induction L with
  | nil => intro a _ h; exact h
  | cons p L ih => intro a hL ha; rw [List.foldl_cons]; exact ih _ (fun q hq => hL q (List.mem_cons_of_mem _ hq)) (C0Q (hL p (List.mem_cons_self ..)) ha)
 exact this _ _ (fun p hp => (A2S.1 hp).2) (B4r _)
theorem B6G {l : List EnV} (h : S5 l = true) : S5 (Q0 l) = true := by
 unfold Q0; split
 ·exact C0Z _
 ·exact h
def A2y (x : EnV) : Bool := decide (x.st = 1)
def C9 (l : List EnV) : List EnV := l.filter A2y
def B0K (x : EnV) : List EnV := if x.st = 1 then [x] else []
theorem A50 {l : List EnV} {j : Nat} {y x : EnV} (hy : l[j]? = some y) : (B0K y ++ C9 (l.set j x)).Perm (B0K x ++ C9 l) := by
 obtain ⟨hj, e⟩ := List.getElem?_eq_some_iff.1 hy
 have h1 : l = l.take j ++ y :: l.drop (j + 1) := by rw [← e]; simp
 have h2 : l.set j x = l.take j ++ x :: l.drop (j + 1) := List.set_eq_take_append_cons_drop .. |>.trans (by rw [if_pos hj])
 have f1 : ∀ z : EnV, C9 (l.take j ++ z :: l.drop (j + 1)) = C9 (l.take j) ++ (B0K z ++ C9 (l.drop (j + 1))) := fun z => by
  unfold C9; rw [List.filter_append, List.filter_cons]
  simp only [B0K, A2y, decide_eq_true_eq]
  split <;> simp
 have h3 : C9 l = C9 (l.take j) ++ (B0K y ++ C9 (l.drop (j + 1))) := by rw [← f1, ← h1]
 rw [h2, f1, h3]
 generalize C9 (l.take j) = A
 generalize C9 (l.drop (j + 1)) = B
 have p1 : ∀ (u v : List EnV), (u ++ (A ++ (v ++ B))).Perm (A ++ (u ++ (v ++ B))) := fun u v => by
  rw [← List.append_assoc, ← List.append_assoc A u]
  exact List.perm_append_comm.append_right _
 refine (p1 _ _).trans (((p1 _ _).trans ?_).symm)
 refine List.Perm.append_left _ ?_
 rw [← List.append_assoc, ← List.append_assoc]
 exact List.perm_append_comm.append_right _
theorem A9M (l : List EnV) (i : Nat) : (Q4 i l).map (·.2) = C9 l := by
 induction l generalizing i with
 | nil => rfl
 | cons x l ih =>
  unfold Q4 C9
  rw [List.filter_cons]
  simp only [A2y, decide_eq_true_eq]
  split
  ·rw [List.map_cons, ih]; rfl
  ·rw [ih]; rfl
theorem A8S (l : List EnV) : M8 l = (C9 l).map (·.key) := by
 unfold M8 H3
 rw [← A9M l 0, List.map_map]; rfl
theorem B3T {l : List EnV} (h : S5 l = true) : ((C9 l).map (·.key)).Nodup := by
 rw [A3T] at h
 have h2 : ∀ (i : Nat) (m : List EnV), (∀ (k : Nat) (x : EnV), m[k]? = some x → x.st = 1 → E3 l x.key = (i + k : Nat)) → ((C9 m).map (·.key)).Nodup := by
  intro i m
  induction m generalizing i with
  | nil => intro _; simp [C9]
  | cons x m ih =>
   intro hm
   have ih' := ih (i + 1) fun k y hy h1 => by
    have := hm (k + 1) y (by simpa using hy) h1
    rw [this]; congr 1; omega
   unfold C9 at *
   rw [List.filter_cons]
   simp only [A2y, decide_eq_true_eq] at *
   split
   ·rename_i c
    rw [List.map_cons, List.nodup_cons]
    refine ⟨fun hx => ?_, ih'⟩
    obtain ⟨y, hy, e⟩ := List.mem_map.1 hx
    obtain ⟨hy1, hy2⟩ := List.mem_filter.1 hy
    obtain ⟨k, hk, e2⟩ := List.getElem_of_mem hy1
    have a := hm 0 x (by simp) c
    have b := hm (k + 1) y (by simp [hk, e2]) (by simpa [A2y] using hy2)
    rw [e, a] at b
    omega
   ·exact ih'
 exact h2 0 l fun k x hx h1 => by rw [h k x hx h1]; simp
theorem A8G {l : List EnV} {key : ByteArray} : Q5 l key ↔ ∀ x ∈ C9 l, x.key ≠ key := by
 unfold Q5 C9 A2y
 constructor
 ·intro h x hx
  obtain ⟨h1, h2⟩ := List.mem_filter.1 hx
  obtain ⟨i, hi, e⟩ := List.getElem_of_mem h1
  exact h i x (by simp [hi, e]) (by simpa using h2)
 ·intro h i x hx h1
  exact h x (List.mem_filter.2 ⟨List.mem_of_getElem? hx, by simpa using h1⟩)
theorem C2S : ∀ L, P4 L < 0 → ∀ p ∈ L, p.2.st = 1 := by
 intro L
 induction L with
 | nil => intro _ p hp; cases hp
 | cons q L ih =>
  intro h p hp
  simp only [P4] at h
  split at h
  ·rename_i c
   rcases List.mem_cons.1 hp with rfl | hp
   ·exact c
   ·exact ih h p hp
  ·omega
theorem C5V {l : List EnV} (key : ByteArray) {q : Nat} {y : EnV} (hy : l[q]? = some y) : (q, y) ∈ U2 l key := by
 obtain ⟨hq, e⟩ := List.getElem?_eq_some_iff.1 hy
 unfold U2
 have hl : 0 < l.length := by omega
 have hm : N3 key l.length < l.length := Nat.mod_lt _ hl
 refine List.mem_map.2 ⟨(q + l.length - N3 key l.length) % l.length, List.mem_range.2 (Nat.mod_lt _ hl), ?_⟩
 have : (N3 key l.length + (q + l.length - N3 key l.length) % l.length) % l.length = q := by
  rw [Nat.add_mod, Nat.mod_mod, ← Nat.add_mod, show N3 key l.length + (q + l.length - N3 key l.length) = q + l.length by omega, Nat.add_mod_right, Nat.mod_eq_of_lt hq]
 rw [this]
 simp [List.getD_eq_getElem?_getD, hq, e]
theorem B6r {a : List EnV} {x : EnV} (h1 : x.st = 1) (hn : Q5 a x.key) (hl : (C9 a).length < a.length) : ∃ u, K1 a x = some u ∧ (C9 u).Perm (x :: C9 a) := by
 cases hp : K1 a x with
 | none =>
  exfalso
  unfold K1 at hp
  simp only at hp
  rw [if_pos hn.find] at hp
  have hr : b8 a x.key = P4 (U2 a x.key) := if_neg (by have := hn.find; omega)
  by_cases c : b8 a x.key < 0
  ·have h2 := C2S _ (hr ▸ c)
   have h3 : C9 a = a := List.filter_eq_self.2 fun y hy => by
    obtain ⟨q, hq, e⟩ := List.getElem_of_mem hy
    have := h2 (q, y) (C5V _ (by simp [hq, e]))
    simpa [A2y] using this
   rw [h3] at hl; omega
  ·rw [if_neg c] at hp; cases hp
 | some u =>
  obtain ⟨j, hj, rfl, hf, hc⟩ := A5L hp h1
  refine ⟨_, rfl, ?_⟩
  have hj1 : a[j]? = some a[j] := List.getElem?_eq_getElem hj
  have hs := A50 (x := x) hj1
  have hnl : a[j].st ≠ 1 := fun c => by
   rcases hc with hc | ⟨_, hc⟩
   ·have := hn.find; omega
   ·have hm : ∀ L, P4 L = (j : Nat) → ∃ y, (j, y) ∈ L ∧ y.st ≠ 1 := by
     intro L
     induction L with
     | nil => intro h; simp [P4] at h <;> omega
     | cons p L ih =>
      intro h
      simp only [P4] at h
      split at h
      ·obtain ⟨y, h1, h2⟩ := ih h; exact ⟨y, List.mem_cons_of_mem _ h1, h2⟩
      ·rename_i c2
       have : p.1 = j := by omega
       exact ⟨p.2, by rw [← this]; simp, c2⟩
    obtain ⟨y, h2, h3⟩ := hm _ hc
    have h4 := B1Y h2
    rw [hj1] at h4
    injection h4 with h4
    exact h3 (by rw [h4] at c; exact c)
  unfold B0K at hs
  rw [if_neg hnl, if_pos h1] at hs
  simpa using hs
theorem V5 (n : Nat) : C9 (newE n) = [] := by
 unfold C9 newE
 rw [List.filter_eq_nil_iff]
 intro x hx
 rw [(List.mem_replicate.1 hx).2]; simp [A2y, noE]
theorem B54 {l : List EnV} (h : S5 l = true) (hl : l.length ≤ 64) : (C9 (u7 l)).Perm (C9 l) := by
 have hmain : ∀ (L : List (Nat × EnV)) (a : List EnV), (∀ p ∈ L, p.2.st = 1) → ((C9 a ++ L.map (·.2)).map (·.key)).Nodup → (C9 a).length + L.length ≤ a.length →
   (C9 (L.foldl (fun acc p => Y2 acc p.2) a)).Perm (C9 a ++ L.map (·.2)) := by
  intro L
  induction L with
  | nil => intro a _ _ _; simp
  | cons p L ih =>
   intro a hL hn hlen
   rw [List.foldl_cons]
   simp only [List.length_cons] at hlen
   have hk : Q5 a p.2.key := A8G.2 fun x hx e => by
    rw [List.map_append, List.nodup_append] at hn
    exact hn.2.2 _ (List.mem_map_of_mem hx) p.2.key (by simp) e
   obtain ⟨u, hu, hp⟩ := B6r (hL p (List.mem_cons_self ..)) hk (by omega)
   have e : Y2 a p.2 = u := by simp [Y2, hu]
   rw [e]
   have hlu := A62 hu
   have hpl := hp.length_eq
   have hperm : (C9 u ++ L.map (·.2)).Perm (C9 a ++ (p :: L).map (·.2)) := by
    refine (hp.append_right _).trans ?_
    rw [List.map_cons]
    exact (List.perm_middle (a := p.2) (l₁ := C9 a) (l₂ := L.map (·.2))).symm
   refine (ih u (fun q hq => hL q (List.mem_cons_of_mem _ hq)) ?_ ?_).trans hperm
   ·exact ((hperm.map _).nodup_iff).2 hn
   ·rw [hpl, List.length_cons, hlu]; omega
 unfold u7
 have hm : (H3 l).map (·.2) = C9 l := A9M l 0
 have h1 := hmain (H3 l) (newE l.length) (fun p hp => (A2S.1 hp).2) (by rw [V5, hm]; exact B3T h)
  (by
   rw [V5, A3x]
   have : (H3 l).length = (C9 l).length := by rw [← hm]; simp
   have h2 : (C9 l).length ≤ l.length := List.length_filter_le ..
   simp only [List.length_nil]; omega)
 rw [V5, hm] at h1
 exact h1
theorem B4K {l : List EnV} (h : S5 l = true) (hl : l.length ≤ 64) : (C9 (Q0 l)).Perm (C9 l) := by
 unfold Q0; split
 ·exact B54 h hl
 ·exact .refl _
theorem B9j {l : List EnV} (hl : l.length ≤ 64) : (Q0 l).length = l.length := by
 unfold Q0; split
 ·unfold u7; rw [B7B, A3x]; omega
 ·rfl
end Go.Proofs.YtjobgnabneddjaaGreat
namespace Go.Proofs.YtjobgnabneddjaaGreat
open Go
end Go.Proofs.YtjobgnabneddjaaGreat
namespace Go.Proofs.YtjobgnabneddjaaGreat
open Go
theorem B1H {l : List EnV} {j : Nat} {x : EnV} (h : Q6 l) (hx : x.key.size < 2 ^ 60) : Q6 (l.set j x) := fun y hy => by
 rcases List.mem_or_eq_of_mem_set hy with h1 | rfl
 ·exact h y h1
 ·exact hx
theorem B6p (n : Nat) : Q6 (newE n) := fun x hx => by
 unfold newE at hx
 rw [(List.mem_replicate.1 hx).2]; simp [noE]
theorem C2F {a : List EnV} {x : EnV} (h : Q6 a) (hx : x.key.size < 2 ^ 60) : Q6 (Y2 a x) := by
 unfold Y2
 cases hp : K1 a x with
 | none => exact h
 | some u => obtain ⟨j, _, rfl⟩ := B1e hp; exact B1H h hx
theorem C1u {l : List EnV} (h : Q6 l) : Q6 (u7 l) := by
 unfold u7
 have : ∀ (L : List (Nat × EnV)) (a : List EnV), (∀ p ∈ L, p.2.key.size < 2 ^ 60) → Q6 a → Q6 (L.foldl (fun acc p => Y2 acc p.2) a) := by
  intro L
  induction L with
  | nil => intro a _ h; exact h
  | cons p L ih => intro a hL ha; rw [List.foldl_cons]; exact ih _ (fun q hq => hL q (List.mem_cons_of_mem _ hq)) (C2F ha (hL p (List.mem_cons_self ..)))
 exact this _ _ (fun p hp => h _ (B4Q p hp).1) (B6p _)
theorem B8C {l : List EnV} (h : Q6 l) : Q6 (Q0 l) := by
 unfold Q0; split
 ·exact C1u h
 ·exact h
theorem C3e : l8.key.size < 2 ^ 60 := by simp [l8]
structure TabOk (n : Nat) (l : List EnV) : Prop where
 len : l.length = n
 few : n ≤ 64
 keys : Q6 l
 right : S5 l = true
theorem TabOk.new {n : Nat} (h : n ≤ 64) : TabOk n (newE n) := ⟨by rw [A3x]; omega, h, B6p _, B4r _⟩
theorem TabOk.settle {n : Nat} {l : List EnV} (h : TabOk n l) : TabOk n (Q0 l) := ⟨by rw [B9j (by rw [h.len]; exact h.few), h.len], h.few, B8C h.keys, B6G h.right⟩
theorem TabOk.tomb {n : Nat} {l : List EnV} {j : Nat} (h : TabOk n l) (hj : j < l.length) : TabOk n (l.set j l8) := ⟨by rw [List.length_set, h.len], h.few, B1H h.keys C3e, C0Y hj h.right⟩
theorem TabOk.put {n : Nat} {l u : List EnV} {x : EnV} (h : TabOk n l) (hx : x.key.size < 2 ^ 60) (h1 : x.st = 1) (hp : K1 l x = some u) : TabOk n u :=
 ⟨by rw [A62 hp, h.len], h.few, by obtain ⟨j, _, rfl⟩ := B1e hp; exact B1H h.keys hx, B4k h1 hp h.right⟩
theorem TabOk.perm {n : Nat} {l : List EnV} (h : TabOk n l) : (C9 (Q0 l)).Perm (C9 l) := B4K h.right (by rw [h.len]; exact h.few)
theorem B01 {l : List EnV} {key : ByteArray} (h : 0 ≤ E3 l key) : l[(E3 l key).toNat]? = some (Z1 l key) ∧ (Z1 l key).st = 1 ∧ (Z1 l key).key = key := by
 obtain ⟨x, h1, h2, h3⟩ := B7b (l := l) (key := key) (j := (E3 l key).toNat) (by omega)
 have e : Z1 l key = x := by unfold Z1; rw [List.getD_eq_getElem?_getD, h1]; rfl
 rw [e]; exact ⟨h1, h2, h3⟩
theorem C1S {l u : List EnV} {key : ByteArray} (h : Y1 l key = some u) : 0 ≤ E3 l key ∧ (E3 l key).toNat < l.length ∧ u = l.set (E3 l key).toNat l8 ∧ (Z1 l key :: C9 u).Perm (C9 l) := by
 unfold Y1 at h
 split at h
 ·cases h
 ·rename_i c
  injection h with h
  subst h
  have h0 : 0 ≤ E3 l key := by omega
  obtain ⟨h1, h2, h3⟩ := B01 h0
  have hs := A50 (x := l8) h1
  unfold B0K at hs
  rw [if_pos h2, if_neg (by simp [l8])] at hs
  exact ⟨h0, A2C h0, rfl, by simpa using hs⟩
theorem B2J {l u : List EnV} {x : EnV} (h1 : x.st = 1) (hp : K1 l x = some u) : (0 ≤ E3 l x.key ∧ (Z1 l x.key :: C9 u).Perm (x :: C9 l)) ∨ (E3 l x.key < 0 ∧ (C9 u).Perm (x :: C9 l)) := by
 obtain ⟨j, hj, rfl, hf, hc⟩ := A5L hp h1
 have hj1 : l[j]? = some l[j] := List.getElem?_eq_getElem hj
 have hs := A50 (x := x) hj1
 unfold B0K at hs
 rw [if_pos h1] at hs
 rcases hc with hc | ⟨hc, hr⟩
 ·left
  have h0 : 0 ≤ E3 l x.key := by omega
  obtain ⟨e1, e2, e3⟩ := B01 h0
  have : (E3 l x.key).toNat = j := by omega
  rw [this, hj1] at e1
  injection e1 with e1
  rw [e1, if_pos e2] at hs
  exact ⟨h0, by simpa using hs⟩
 ·right
  refine ⟨hc, ?_⟩
  have hm : ∀ L, P4 L = (j : Nat) → ∃ y, (j, y) ∈ L ∧ y.st ≠ 1 := by
   intro L
   induction L with
   | nil => intro h; simp [P4] at h <;> omega
   | cons p L ih =>
    intro h
    simp only [P4] at h
    split at h
    ·obtain ⟨y, h1, h2⟩ := ih h; exact ⟨y, List.mem_cons_of_mem _ h1, h2⟩
    ·rename_i c2
     have : p.1 = j := by omega
     exact ⟨p.2, by rw [← this]; simp, c2⟩
  obtain ⟨y, h2, h3⟩ := hm _ hr
  have h4 := B1Y h2
  rw [hj1] at h4
  injection h4 with h4
  rw [if_neg (by rw [h4]; exact h3)] at hs
  simpa using hs
structure Decided (l u : List EnV) (key : ByteArray) (made : Bool) : Prop where
 up : (C9 u).length ≤ (C9 l).length + 1
 down : (C9 l).length ≤ (C9 u).length + 1
 new : (C9 l).length < (C9 u).length → made = true
 from' : ∀ x ∈ C9 u, x ∈ C9 l ∨ x.key = key
theorem Decided.refl (l : List EnV) (key : ByteArray) (made : Bool) : Decided l l key made := ⟨by omega, by omega, by omega, fun x hx => Or.inl hx⟩
theorem B2S {l : List EnV} {p : List E6} {key : ByteArray} {now : Int} (h : E3 l key < 0) : (K7 l p key now).2 = false := by
 unfold K7; rw [if_pos (Or.inl h)]
theorem A7q {n : Nat} {l : List EnV} {p : List E6} {key : ByteArray} {closing : Bool} {now idle : Int} (h : TabOk n l) (hk : key.size < 2 ^ 60) :
  TabOk n (K9 l p key closing now idle).1 ∧ Decided l (K9 l p key closing now idle).1 key (K9 l p key closing now idle).2.1.made := by
 unfold K9
 split
 ·exact ⟨h, .refl _ _ _⟩
 ·split
  ·unfold W3
   cases hd : Y1 l key with
   | none => exact ⟨h, .refl _ _ _⟩
   | some u =>
    obtain ⟨h0, hlt, rfl, hp⟩ := C1S hd
    have ht := h.tomb hlt
    have hp2 := (ht.perm.cons (Z1 l key)).trans hp
    have hl := hp2.length_eq
    simp only [List.length_cons] at hl
    exact ⟨ht.settle, by simp only; omega, by simp only; omega, fun h => by simp only at h; omega, fun x hx => Or.inl (hp2.subset (List.mem_cons_of_mem _ hx))⟩
  ·cases hp : K1 l (A1w l p key now idle) with
   | none => exact ⟨h, .refl _ _ _⟩
   | some u =>
    refine ⟨h.put hk rfl hp, ?_⟩
    rcases B2J (x := A1w l p key now idle) rfl hp with ⟨h0, h1⟩ | ⟨h0, h1⟩
    ·have hl := h1.length_eq
     simp only [List.length_cons] at hl
     exact ⟨by simp only; omega, by simp only; omega, fun h => by simp only at h; omega, fun x hx => by
      rcases List.mem_cons.1 (h1.subset (List.mem_cons_of_mem _ hx)) with rfl | h2
      ·exact Or.inr rfl
      ·exact Or.inl h2⟩
    ·have hl := h1.length_eq
     simp only [List.length_cons] at hl
     exact ⟨by simp only; omega, by simp only; omega, fun h => by simp [B2S (p := p) (now := now) (show E3 l key < 0 from h0)], fun x hx => by
      rcases List.mem_cons.1 (h1.subset hx) with rfl | h2
      ·exact Or.inr rfl
      ·exact Or.inl h2⟩
def B0P (now : Int) (l u : List EnV) (k : Nat) : Prop := ∃ r, (r ++ C9 u).Perm (C9 l) ∧ (∀ x ∈ r, C7L x now = true) ∧ r.length = k
theorem B0P.trans {now : Int} {a b c : List EnV} {i j : Nat} (h : B0P now a b i) (h' : B0P now b c j) : B0P now a c (i + j) := by
 obtain ⟨r, h1, h2, h3⟩ := h
 obtain ⟨s, h4, h5, h6⟩ := h'
 refine ⟨r ++ s, ?_, ?_, by rw [List.length_append, h3, h6]⟩
 ·rw [List.append_assoc]; exact (h4.append_left r).trans h1
 ·intro x hx
  rcases List.mem_append.1 hx with hx | hx
  ·exact h2 x hx
  ·exact h5 x hx
theorem B0P.zero {now : Int} {l u : List EnV} (h : (C9 u).Perm (C9 l)) : B0P now l u 0 := ⟨[], h, by simp, rfl⟩
structure Inv (c : CfgV) (s : MoS) : Prop where
 cfg : s.c = c
 ok : M7 c = true
 pool : K4 s.pool = 0
 sh : (s.tabs.length : Int) = c.sh
 tab : ∀ t ∈ s.tabs, TabOk c.cp.toNat t.1
 own : ∀ (i : Nat) t, s.tabs[i]? = some t → ∀ x ∈ C9 t.1, T2 x.key c.sh = i
theorem B9E {c : CfgV} (h : M7 c = true) : 1 ≤ c.wk ∧ c.wk ≤ 64 ∧ 1 ≤ c.sh ∧ c.sh ≤ 16 ∧ 1 ≤ c.cp ∧ c.cp ≤ 64 ∧ 0 ≤ c.idle ∧ c.idle ≤ 1000000 := by
 simp [M7, W0] at h; omega
theorem Inv.new {c : CfgV} (h : M7 c = true) : Inv c ⟨c, [], B5k c⟩ := by
 have hb := B9E h
 refine ⟨rfl, h, rfl, by simp [B5k]; omega, fun t ht => ?_, fun i t ht x hx => ?_⟩
 ·rw [B5k] at ht
  rw [(List.mem_replicate.1 ht).2]
  exact TabOk.new (by omega)
 ·have ht := List.mem_of_getElem? ht
  rw [B5k] at ht
  rw [(List.mem_replicate.1 ht).2, V5] at hx
  cases hx
theorem Inv.set {c : CfgV} {s : MoS} (h : Inv c s) {i : Nat} {t u : List EnV × Nat} (ht : s.tabs[i]? = some t) (hu : TabOk c.cp.toNat u.1) (hf : ∀ x ∈ C9 u.1, x ∈ C9 t.1 ∨ T2 x.key c.sh = i) : Inv c { s with tabs := s.tabs.set i u } := by
 refine ⟨h.cfg, h.ok, h.pool, by rw [List.length_set]; exact h.sh, fun v hv => ?_, fun j v hv x hx => ?_⟩
 ·rcases List.mem_or_eq_of_mem_set hv with h1 | rfl
  ·exact h.tab v h1
  ·exact hu
 ·rcases getElem?_set_some hv with ⟨rfl, rfl⟩ | ⟨_, h2⟩
  ·rcases hf x hx with h1 | h1
   ·exact h.own j t ht x h1
   ·exact h1
  ·exact h.own j v h2 x hx
theorem Inv.at {c : CfgV} {s : MoS} (h : Inv c s) {i : Nat} (hi : i < c.sh.toNat) : s.tabs[i]? = some (s.tabs.getD i ([], 0)) := getD_some _ (by have := h.sh; omega)
end Go.Proofs.YtjobgnabneddjaaGreat
namespace Go.Proofs.YtjobgnabneddjaaGreat
open Go
def A0c (X : Nat → Prop) (t0 : Value) (R : Value → WP) : WP :=
 A0 PR (A8 .min #[3, 3] 0 [t0, (.int .i64 8)]) fun t4 =>
 A0 PR (A8 .max #[3, 3] 0 [(.int .i64 0), t4]) fun t5 =>
 B2 PR X (Instr.makeSlice 104 t5 t5) fun t6 =>
 R t6
theorem A5g : A9 PR 92 := A7 Tryz.func92 (by kernel_rfl) rfl
theorem A6f {X : Nat → Prop} {t0 : Value} {R : Value → WP} {w : World} (h : A0c X t0 R w) : Fn PR X 92 #[t0] w R := C3 (args := [t0]) mixed Tryz.func92 (by kernel_rfl) h
end Go.Proofs.YtjobgnabneddjaaGreat
namespace Go.Proofs.YtjobgnabneddjaaGreat
open Go
def A0f (X : Nat → Prop) (t0 : Value) (R : Value → WP) : WP :=
 A0 PR (A8 .min #[3, 3] 0 [t0, (.int .i64 8)]) fun t4 =>
 A0 PR (A8 .max #[3, 3] 0 [(.int .i64 0), t4]) fun t5 =>
 B2 PR X (Instr.makeSlice 103 t5 t5) fun t6 =>
 R t6
theorem A5x : A9 PR 91 := A7 Tryz.func91 (by kernel_rfl) rfl
theorem A6u {X : Nat → Prop} {t0 : Value} {R : Value → WP} {w : World} (h : A0f X t0 R w) : Fn PR X 91 #[t0] w R := C3 (args := [t0]) mixed Tryz.func91 (by kernel_rfl) h
def w7 (X : Nat → Prop) (t0 t1 : Value) (R : Value → WP) : WP :=
 jn (n := 2) (fun t4 t5 =>
 A0 PR (Instr.build 270 #[(0, (.int .i64 1))]) fun t13 =>
 B4 PR X 152 [t0, t1, t13] fun t14 =>
 R (.tuple #[t14, (.bool true)])) fun J1 =>
 B4 PR X 151 [t0, t1] fun t8 =>
 A0 PR (Op.unary .not t8) fun t9 =>
 C4 t9 (
 R (.tuple #[t0, (.bool false)])) (
 J1 (.slice none 0 0) (.bool false))
theorem A3s : A9 PR 96 := A7 Tryz.func96 (by kernel_rfl) rfl
theorem A4k {X : Nat → Prop} {t0 t1 : Value} {R : Value → WP} {w : World} (h : w7 X t0 t1 R w) : Fn PR X 96 #[t0, t1] w R := C3 (args := [t0, t1]) mixed Tryz.func96 (by kernel_rfl) h
def z8 (X : Nat → Prop) (t0 t1 t2 : Value) (R : Value → WP) : WP :=
 jn (n := 2) (fun t6 t7 =>
 A0 PR (Instr.build 270 #[(0, (.int .i64 2)), (1, t2)]) fun t29 =>
 B4 PR X 152 [t0, t1, t29] fun t30 =>
 R (.tuple #[t30, (.bool true)])) fun J1 =>
 B4 PR X 151 [t0, t1] fun t10 =>
 A0 PR (Op.unary .not t10) fun t11 =>
 gj t11 false (fun J => J t0) fun t13 =>
 gj t11 false (fun J => J t1) fun t14 =>
 gj t11 false (fun J => A0 PR (Instr.indexAt 103 t13 t14) J) fun t15 =>
 gj t11 false (fun J => A0 PR (Instr.fieldAt 270 t15 0) J) fun t16 =>
 gj t11 false (fun J => A6 PR (Instr.loadAt 3 t16) J) fun t17 =>
 gj t11 false (fun J => A0 PR (binOp .neq 3 t17 (.int .i64 1)) J) fun t18 =>
 A0 PR (do pure (if ← asBool t11 then (.bool true) else t18)) fun t19 =>
 gj t19 false (fun J => J t2) fun t21 =>
 gj t19 false (fun J => B4 PR X 153 [t21] J) fun t22 =>
 gj t19 false (fun J => A0 PR (binOp .neq 27 t22 (.int .i64 0)) J) fun t23 =>
 A0 PR (do pure (if ← asBool t19 then (.bool true) else t23)) fun t24 =>
 C4 t24 (
 R (.tuple #[t0, (.bool false)])) (
 J1 (.slice none 0 0) (.bool false))
theorem A4a : A9 PR 97 := A7 Tryz.func97 (by kernel_rfl) rfl
theorem A5u {X : Nat → Prop} {t0 t1 t2 : Value} {R : Value → WP} {w : World} (h : z8 X t0 t1 t2 R w) : Fn PR X 97 #[t0, t1, t2] w R := C3 (args := [t0, t1, t2]) mixed Tryz.func97 (by kernel_rfl) h
def x7 (X : Nat → Prop) (t0 t1 : Value) (R : Value → WP) : WP :=
 jn (n := 2) (fun t4 t5 =>
 A0 PR (Instr.build 270 #[]) fun t13 =>
 B4 PR X 152 [t0, t1, t13] fun t14 =>
 R (.tuple #[t14, (.bool true)])) fun J1 =>
 B4 PR X 151 [t0, t1] fun t8 =>
 A0 PR (Op.unary .not t8) fun t9 =>
 C4 t9 (
 R (.tuple #[t0, (.bool false)])) (
 J1 (.slice none 0 0) (.bool false))
theorem A3l : A9 PR 99 := A7 Tryz.func99 (by kernel_rfl) rfl
theorem A4S {X : Nat → Prop} {t0 t1 : Value} {R : Value → WP} {w : World} (h : x7 X t0 t1 R w) : Fn PR X 99 #[t0, t1] w R := C3 (args := [t0, t1]) mixed Tryz.func99 (by kernel_rfl) h
def A07 (X : Nat → Prop) (t0 t1 : Value) (R : Value → WP) : WP :=
 A0 PR (binOp .geq 3 t1 (.int .i64 0)) fun t6 =>
 gj t6 true (fun J => J t1) fun t8 =>
 gj t6 true (fun J => J t0) fun t9 =>
 gj t6 true (fun J => A0 PR (A8 .len #[103] 0 [t9]) J) fun t10 =>
 gj t6 true (fun J => A0 PR (binOp .lss 3 t8 t10) J) fun t11 =>
 A0 PR (do pure (if ← asBool t6 then t11 else (.bool false))) fun t12 =>
 R t12
theorem g5 : A9 PR 151 := A7 Tryz.func151 (by kernel_rfl) rfl
theorem A7a {X : Nat → Prop} {t0 t1 : Value} {R : Value → WP} {w : World} (h : A07 X t0 t1 R w) : Fn PR X 151 #[t0, t1] w R := C3 (args := [t0, t1]) mixed Tryz.func151 (by kernel_rfl) h
def A0C (X : Nat → Prop) (t0 t1 t2 : Value) (R : Value → WP) : WP :=
 B2 PR X (Instr.box 270 t2) fun t5 =>
 B2 PR X (Instr.buildSlice 103 0 #[]) fun t8 =>
 B2 PR X (A8 .append #[103, 103] 103 [t8, t0]) fun t10 =>
 A6 PR (Instr.loadAt 270 t5) fun t13 =>
 A0 PR (Instr.indexAt 103 t10 t1) fun t14 =>
 C0 PR X (Instr.storeAt 270 t14 t13) <|
 R t10
theorem Y0 : A9 PR 152 := A7 Tryz.func152 (by kernel_rfl) rfl
theorem A5z {X : Nat → Prop} {t0 t1 t2 : Value} {R : Value → WP} {w : World} (h : A0C X t0 t1 t2 R w) : Fn PR X 152 #[t0, t1, t2] w R := C3 (args := [t0, t1, t2]) mixed Tryz.func152 (by kernel_rfl) h
end Go.Proofs.YtjobgnabneddjaaGreat
namespace Go.Proofs.YtjobgnabneddjaaGreat
open Go
def A0V (X : Nat → Prop) (t0 : Value) (R : Value → WP) : WP :=
 B2 PR X (Instr.box 23 t0) fun t1 =>
 drw <|
 kt (n := 1) (fun t3 =>
 jn (n := 1) (fun t4 =>
 A0 PR (Instr.fieldAt 23 t1 4) fun t43 =>
 A6 PR (Instr.loadAt 3 t43) fun t44 =>
 B4 PR X 91 [t44] fun t45 =>
 A0 PR (B6 t3) fun t46 =>
 A0 PR (Instr.fieldAt 106 t46 5) fun t47 =>
 C0 PR X (Instr.storeAt 103 t47 t45) <|
 A0 PR (Instr.fieldAt 23 t1 4) fun t49 =>
 A6 PR (Instr.loadAt 3 t49) fun t50 =>
 B4 PR X 92 [t50] fun t51 =>
 A0 PR (B6 t3) fun t52 =>
 A0 PR (Instr.fieldAt 106 t52 6) fun t53 =>
 C0 PR X (Instr.storeAt 104 t53 t51) <|
 R t3) fun J1 =>
 lp (n := 1) (fun L2 t4_1 =>
 jn (n := 0) (
 jn (n := 0) (
 A0 PR (binOp .add 3 t4_1 (.int .i64 1)) fun t20 =>
 L2 t20) fun J3 =>
 A0 PR (B6 t3) fun t23 =>
 A0 PR (Instr.fieldAt 106 t23 4) fun t24 =>
 A6 PR (Instr.loadAt 37 t24) fun t25 =>
 B2 PR X (Instr.buildSlice 37 1 #[(0, (.int .i64 (-1)))]) fun t26 =>
 B2 PR X (A8 .append #[37, 37] 37 [t25, t26]) fun t27 =>
 A0 PR (B6 t3) fun t28 =>
 A0 PR (Instr.fieldAt 106 t28 4) fun t29 =>
 C0 PR X (Instr.storeAt 37 t29 t27) <|
 drw <|
 A0 PR (B6 t3) fun t32 =>
 A0 PR (Instr.fieldAt 106 t32 7) fun t33 =>
 A6 PR (Instr.loadAt 36 t33) fun t34 =>
 A0 PR (Instr.fieldAt 23 t1 2) fun t35 =>
 A6 PR (Instr.loadAt 3 t35) fun t36 =>
 B4 PR X 90 [t36] fun t37 =>
 watch PR [(none, (Instr.loadAt 36 t33), t34)] <|
 B2 PR X (Instr.buildSlice 36 1 #[(0, t37)]) fun t38 =>
 watch PR [(none, (Instr.loadAt 36 t33), t34)] <|
 B2 PR X (A8 .append #[36, 36] 36 [t34, t38]) fun t39 =>
 A0 PR (B6 t3) fun t40 =>
 A0 PR (Instr.fieldAt 106 t40 7) fun t41 =>
 C0 PR X (Instr.storeAt 36 t41 t39) <|
 J3) fun J4 =>
 A0 PR (Instr.fieldAt 23 t1 1) fun t16 =>
 A6 PR (Instr.loadAt 3 t16) fun t17 =>
 A0 PR (binOp .lss 3 t4_1 t17) fun t18 =>
 C4 t18 (
 J4) (
 J1 t4_1)) (.int .i64 0)) fun C5 =>
 A6 PR (Instr.loadAt 23 t1) fun t5_1 =>
 A0 PR (Instr.fieldAt 23 t1 0) fun t6_1 =>
 A6 PR (Instr.loadAt 3 t6_1) fun t7_1 =>
 A0 PR (binOp .add 3 t7_1 (.int .i64 1)) fun t8_1 =>
 A0 PR (Instr.fieldAt 23 t1 1) fun t10_1 =>
 A6 PR (Instr.loadAt 3 t10_1) fun t11_1 =>
 both (B2 PR X (Instr.makeSlice 37 t8_1 t8_1) fun t9_2 =>
 watch PR [(none, (Instr.loadAt 3 t10_1), t11_1), (none, (Instr.loadAt 23 t1), t5_1)] <|
 B2 PR X (Instr.makeSlice 37 t11_1 t11_1) fun t12_2 =>
 watch PR [(none, (Instr.loadAt 23 t1), t5_1)] <|
 A0 PR (Instr.build 106 #[(0, t5_1), (3, t9_2), (8, t12_2)]) fun t13_2 =>
 B2 PR X (Instr.box 106 t13_2) fun t14_2 =>
 C5 t14_2) (both (B2 PR X (Instr.makeSlice 37 t11_1 t11_1) fun t12_1 =>
 watch PR [(none, (Instr.loadAt 3 t6_1), t7_1), (none, (Instr.loadAt 23 t1), t5_1)] <|
 B2 PR X (Instr.makeSlice 37 t8_1 t8_1) fun t9_1 =>
 watch PR [(none, (Instr.loadAt 23 t1), t5_1)] <|
 A0 PR (Instr.build 106 #[(0, t5_1), (3, t9_1), (8, t12_1)]) fun t13_1 =>
 B2 PR X (Instr.box 106 t13_1) fun t14_1 =>
 C5 t14_1) ((fun _ => True)))
theorem A5p : A9 PR 42 := A7 Tryz.func42 (by kernel_rfl) rfl
theorem A59 {X : Nat → Prop} {t0 : Value} {R : Value → WP} {w : World} (h : A0V X t0 R w) : Fn PR X 42 #[t0] w R := C3 (args := [t0]) mixed Tryz.func42 (by kernel_rfl) h
def j0 (X : Nat → Prop) (t0 t1 : Value) (R : Value → WP) : WP :=
 A0 PR (binOp .geq 3 t1 (.int .i64 0)) fun t5 =>
 gj t5 true (fun J => J t1) fun t7 =>
 gj t5 true (fun J => A0 PR (binOp .leq 3 t7 (.int .i64 1000000)) J) fun t8 =>
 A0 PR (do pure (if ← asBool t5 then t8 else (.bool false))) fun t9 =>
 gj t9 true (fun J => J t0) fun t11 =>
 gj t9 true (fun J => A0 PR (B6 t11) J) fun t12 =>
 gj t9 true (fun J => A0 PR (Instr.fieldAt 106 t12 9) J) fun t13 =>
 gj t9 true (fun J => A6 PR (Instr.loadAt 3 t13) J) fun t14 =>
 gj t9 true (fun J => J t1) fun t15 =>
 gj t9 true (fun J => A0 PR (binOp .add 3 t14 t15) J) fun t16 =>
 gj t9 true (fun J => A0 PR (binOp .leq 3 t16 (.int .i64 1000000000)) J) fun t17 =>
 A0 PR (do pure (if ← asBool t9 then t17 else (.bool false))) fun t18 =>
 C4 t18 (
 A0 PR (B6 t0) fun t21 =>
 A0 PR (Instr.fieldAt 106 t21 9) fun t22 =>
 A6 PR (Instr.loadAt 3 t22) fun t23 =>
 A0 PR (binOp .add 3 t23 t1) fun t25 =>
 A0 PR (B6 t0) fun t26 =>
 A0 PR (Instr.fieldAt 106 t26 9) fun t27 =>
 C0 PR X (Instr.storeAt 3 t27 t25) <|
 R (.tuple #[])) (
 R (.tuple #[]))
theorem A1N : A9 PR 101 := A7 Tryz.func101 (by kernel_rfl) rfl
theorem A1z {X : Nat → Prop} {t0 t1 : Value} {R : Value → WP} {w : World} (h : j0 X t0 t1 R w) : Fn PR X 101 #[t0, t1] w R := C3 (args := [t0, t1]) mixed Tryz.func101 (by kernel_rfl) h
end Go.Proofs.YtjobgnabneddjaaGreat
namespace Go.Proofs.YtjobgnabneddjaaGreat
open Go
def A0m (X : Nat → Prop) (t0 : Value) (R : Value → WP) : WP :=
 A0 PR (A8 .min #[3, 3] 0 [t0, (.int .i64 64)]) fun t4 =>
 A0 PR (A8 .max #[3, 3] 0 [(.int .i64 0), t4]) fun t5 =>
 B2 PR X (Instr.makeSlice 84 t5 t5) fun t6 =>
 R t6
theorem A5q : A9 PR 90 := A7 Tryz.func90 (by kernel_rfl) rfl
theorem A6j {X : Nat → Prop} {t0 : Value} {R : Value → WP} {w : World} (h : A0m X t0 R w) : Fn PR X 90 #[t0] w R := C3 (args := [t0]) mixed Tryz.func90 (by kernel_rfl) h
end Go.Proofs.YtjobgnabneddjaaGreat
namespace Go.Proofs.YtjobgnabneddjaaGreat
open Go
end Go.Proofs.YtjobgnabneddjaaGreat
namespace Go.Proofs.YtjobgnabneddjaaGreat
open Go
end Go.Proofs.YtjobgnabneddjaaGreat
namespace Go.Proofs.YtjobgnabneddjaaGreat
open Go
end Go.Proofs.YtjobgnabneddjaaGreat
namespace Go.Proofs.YtjobgnabneddjaaGreat
open Go
end Go.Proofs.YtjobgnabneddjaaGreat
namespace Go.Proofs.YtjobgnabneddjaaGreat
open Go
end Go.Proofs.YtjobgnabneddjaaGreat
namespace Go.Proofs.YtjobgnabneddjaaGreat
open Go
theorem C3U (w : World) (n : Nat) (hn : n ≤ 1000000) : Fn PR B8 90 #[.int .i64 (n : Int)] w (Rn [] w (fun r u => u = r) fun r => [H9 r (newE n)]) := by
 refine A6j (TW.go (κ := false) (S := []) ?_)
 unfold A0m
 have e : max 0 (min (n : Int) 64) = ((min n 64 : Nat) : Int) := by omega
 (have zz:=trivial;repeat((first|clear zz|with_reducible first|refine A3 ?_|refine A5 fun _=>?_|refine A4 fun _=>?_);try simp(disch:=first|omega|assumption|((repeat(first|exact A1|exact uH|apply A2|apply uT));first|done|fail)|(simp;first|done|omega|fail))[]))
 rw [e]
 refine y3 (by omega) (by omega) (by omega) (by omega) fun b => ?_
 rw [Int.toNat_natCast, C5A]
 refine B1 _ rfl ?_
 simp only [H9, newE, List.length_replicate]
 (repeat' constructor)
end Go.Proofs.YtjobgnabneddjaaGreat
namespace Go.Proofs.YtjobgnabneddjaaGreat
open Go
def x4 (X : Nat → Prop) (t0 : Value) (R : Value → WP) : WP :=
 jn (n := 1) (fun t2 =>
 jn (n := 2) (fun t2_1 t3 =>
 R (.int .i64 0)) fun J1 =>
 lp (n := 2) (fun L2 t2_2 t3_1 =>
 jn (n := 0) (
 jn (n := 1) (fun t2_3 =>
 A0 PR (binOp .add 3 t3_1 (.int .i64 1)) fun t13 =>
 L2 t2_3 t13) fun J3 =>
 A0 PR (Instr.indexAt 58 t0 t3_1) fun t16 =>
 A6 PR (Instr.loadAt 155 t16) fun t17 =>
 B2 PR X (Instr.alloc 155 true (.tuple #[])) fun t4 =>
 C0 PR X (Instr.storeAt 155 t4 t17) <|
 A0 PR (Instr.fieldAt 155 t4 0) fun t18 =>
 A6 PR (Instr.loadAt 3 t18) fun t19 =>
 A0 PR (binOp .lss 3 t19 (.int .i64 1)) fun t20 =>
 gj t20 false (fun J => A0 PR (Instr.fieldAt 155 t4 0) J) fun t22 =>
 gj t20 false (fun J => A6 PR (Instr.loadAt 3 t22) J) fun t23 =>
 gj t20 false (fun J => A0 PR (binOp .gtr 3 t23 (.int .i64 65535)) J) fun t24 =>
 A0 PR (do pure (if ← asBool t20 then (.bool true) else t24)) fun t25 =>
 gj t25 false (fun J => A0 PR (Instr.fieldAt 155 t4 1) J) fun t27 =>
 gj t25 false (fun J => A6 PR (Instr.loadAt 3 t27) J) fun t28 =>
 gj t25 false (fun J => A0 PR (binOp .lss 3 t28 (.int .i64 1)) J) fun t29 =>
 A0 PR (do pure (if ← asBool t25 then (.bool true) else t29)) fun t30 =>
 gj t30 false (fun J => A0 PR (Instr.fieldAt 155 t4 1) J) fun t32 =>
 gj t30 false (fun J => A6 PR (Instr.loadAt 3 t32) J) fun t33 =>
 gj t30 false (fun J => A0 PR (binOp .gtr 3 t33 (.int .i64 16)) J) fun t34 =>
 A0 PR (do pure (if ← asBool t30 then (.bool true) else t34)) fun t35 =>
 gj t35 false (fun J => J t0) fun t37 =>
 gj t35 false (fun J => A0 PR (Instr.fieldAt 155 t4 0) J) fun t38 =>
 gj t35 false (fun J => A6 PR (Instr.loadAt 3 t38) J) fun t39 =>
 gj t35 false (fun J => B4 PR X 202 [t37, t39] J) fun t40 =>
 gj t35 false (fun J => J t3_1) fun t41 =>
 gj t35 false (fun J => A0 PR (binOp .neq 3 t40 t41) J) fun t42 =>
 A0 PR (do pure (if ← asBool t35 then (.bool true) else t42)) fun t43 =>
 C4 t43 (
 R (.int .i64 10)) (
 J3 t2_2)) fun J4 =>
 A0 PR (A8 .len #[58] 0 [t0]) fun t10 =>
 A0 PR (binOp .lss 3 t3_1 t10) fun t11 =>
 C4 t11 (
 J4) (
 J1 t2_2 t3_1)) t2 (.int .i64 0)) fun J5 =>
 A0 PR (A8 .len #[58] 0 [t0]) fun t6 =>
 A0 PR (binOp .gtr 3 t6 (.int .i64 32)) fun t7 =>
 C4 t7 (
 R (.int .i64 10)) (
 J5 (.int .i64 0))
theorem A3f : A9 PR 153 := A7 Tryz.func153 (by kernel_rfl) rfl
theorem A4c {X : Nat → Prop} {t0 : Value} {R : Value → WP} {w : World} (h : x4 X t0 R w) : Fn PR X 153 #[t0] w R := C3 (args := [t0]) mixed Tryz.func153 (by kernel_rfl) h
def y6 (X : Nat → Prop) (t0 t1 : Value) (R : Value → WP) : WP :=
 jn (n := 2) (fun t4 t5 =>
 R (.int .i64 (-1))) fun J1 =>
 lp (n := 2) (fun L2 t4_1 t5_1 =>
 jn (n := 0) (
 jn (n := 1) (fun t4_2 =>
 A0 PR (binOp .add 3 t5_1 (.int .i64 1)) fun t11 =>
 L2 t4_2 t11) fun J3 =>
 A0 PR (Instr.indexAt 58 t0 t5_1) fun t14 =>
 A0 PR (Instr.fieldAt 155 t14 0) fun t15 =>
 A6 PR (Instr.loadAt 3 t15) fun t16 =>
 A0 PR (binOp .eql 3 t16 t1) fun t18 =>
 C4 t18 (
 R t5_1) (
 J3 t4_1)) fun J4 =>
 A0 PR (A8 .len #[58] 0 [t0]) fun t8 =>
 A0 PR (binOp .lss 3 t5_1 t8) fun t9 =>
 C4 t9 (
 J4) (
 J1 t4_1 t5_1)) (.int .i64 0) (.int .i64 0)
theorem A4Q : A9 PR 202 := A7 Tryz.func202 (by kernel_rfl) rfl
theorem A54 {X : Nat → Prop} {t0 t1 : Value} {R : Value → WP} {w : World} (h : y6 X t0 t1 R w) : Fn PR X 202 #[t0, t1] w R := C3 (args := [t0, t1]) mixed Tryz.func202 (by kernel_rfl) h
end Go.Proofs.YtjobgnabneddjaaGreat
namespace Go.Proofs.YtjobgnabneddjaaGreat
open Go
end Go.Proofs.YtjobgnabneddjaaGreat
namespace Go.Proofs.YtjobgnabneddjaaGreat
open Go
end Go.Proofs.YtjobgnabneddjaaGreat
namespace Go.Proofs.YtjobgnabneddjaaGreat
open Go
end Go.Proofs.YtjobgnabneddjaaGreat
namespace Go.Proofs.YtjobgnabneddjaaGreat
open Go
end Go.Proofs.YtjobgnabneddjaaGreat
namespace Go.Proofs.YtjobgnabneddjaaGreat
open Go
section
variable {κ : Bool} {X : Nat → Prop} {S : List Nat} {w0 : World} {H H' Hk : List Res} {K : Value → WP} {K0 : WP}
end
end Go.Proofs.YtjobgnabneddjaaGreat
namespace Go.Proofs.YtjobgnabneddjaaGreat
open Go
theorem P6.mono {κ : Bool} {S : List Nat} {w0 : World} {H H' : List Res} {v : Value} {n : Nat} {xs : List Value} (h : P6 κ S w0 H v n xs) (hs : H.Sublist H') : P6 κ S w0 H' v n xs := fun w hw => h w (hw.sub hs)
def RdC (w : World) (v : Value) (l : List (Nat × Int)) : Prop := G1 w v l.length (l.flatMap G8) ∧ ∃ a c, v = .slice a l.length c ∧ l.length ≤ c
theorem RdC.ks {w w' : World} {v : Value} {l : List (Nat × Int)} (h : RdC w v l) (hk : KS false [] w w') : RdC w' v l := ⟨h.1.ks hk (by simp), h.2⟩
end Go.Proofs.YtjobgnabneddjaaGreat
namespace Go.Proofs.YtjobgnabneddjaaGreat
open Go
theorem C2G {p : List E6} {id : Int} (h : ∃ b ∈ p, b.1 = id) : 0 ≤ N6 p id := by
 have := B6f (fun x : E6 => decide (x.1 = id)) p
 unfold N6
 obtain ⟨b, hb, e⟩ := h
 have h2 : (p.any fun x => decide (x.1 = id)) = true := List.any_eq_true.2 ⟨b, hb, by simpa using e⟩
 rw [h2] at this
 simpa using this
theorem C4a {p : List E6} (h : Nat) (hp : p ≠ []) (hc : K4 p = 0) : ∃ b ∈ p, b.1 = A4n p h := by
 have hok : Z3 p = true := by
  unfold K4 at hc
  split at hc
  ·rename_i c; simp at c; exact c.1
  ·cases hc
 have hw := ((A0u p).1 hok).1
 have hm : ∀ x ∈ M9 (G4 p), ∃ b ∈ p, b.1 = x.2 := fun x hx => by
  unfold M9 at hx
  have hx := (List.mergeSort_perm _ _).mem_iff.1 hx
  unfold G4 at hx
  obtain ⟨b, hb, hx⟩ := List.mem_flatMap.1 hx
  unfold A7N at hx
  obtain ⟨n, _, rfl⟩ := List.mem_map.1 hx
  exact ⟨b, hb, rfl⟩
 have hl : 0 < (M9 (G4 p)).length := by
  unfold M9; rw [List.length_mergeSort]
  cases p with
  | nil => exact absurd rfl hp
  | cons b p =>
   have h1 := hw b (List.mem_cons_self ..)
   simp only [A0P, decide_eq_true_eq] at h1
   have : 0 < (A7N b).length := by simp [A7N, wtN]; omega
   unfold G4
   rw [List.flatMap_cons, List.length_append]; omega
 unfold A4n B0N
 generalize M9 (G4 p) = l at *
 rw [if_neg (by omega)]
 have hi : M6 (geP l h) 0 l.length % l.length < l.length := Nat.mod_lt _ hl
 rw [List.getD_eq_getElem?_getD, List.getElem?_eq_getElem hi]
 exact hm _ (List.getElem_mem hi)
theorem B2F {l : List EnV} {p : List E6} {key : ByteArray} {now : Int} (h : (K7 l p key now).2 = true) : 0 ≤ E3 l key ∧ now ≤ (Z1 l key).dl ∧ 0 ≤ N6 p (Z1 l key).bk ∧ (K7 l p key now).1 = (Z1 l key).bk := by
 unfold K7 at *
 split at h
 ·cases h
 ·rename_i c
  rw [if_neg c]
  refine ⟨by omega, by omega, by omega, rfl⟩
theorem C38 {l : List EnV} {p : List E6} {key : ByteArray} {now : Int} (h : ¬ ((K7 l p key now).2 = false ∧ p = [])) (hc : K4 p = 0) : 0 ≤ N6 p (l3 l p key now) := by
 unfold l3
 cases hk : (K7 l p key now).2 with
 | true => rw [if_pos rfl, (B2F hk).2.2.2]; exact (B2F hk).2.2.1
 | false =>
  rw [if_neg (by simp)]
  exact C2G (C4a _ (fun e => h ⟨hk, e⟩) hc)
end Go.Proofs.YtjobgnabneddjaaGreat
namespace Go.Proofs.YtjobgnabneddjaaGreat
open Go
theorem C04 (w : World) (v : Value) (l : List E6) (id : Int) (hn : l.length ≤ 1000000) (hv : G1 w v l.length (l.flatMap J0)) :
  Fn PR B8 202 #[v, .int .i64 id] w (fun r w' => r = .int .i64 (N6 l id) ∧ C7 [] w w') := by
 refine Fn.pure (A54 (TW.go (κ := false) (S := []) ?_))
 unfold y6
 obtain ⟨a, c, rfl, hr⟩ := hv.form
 (have zz:=trivial;repeat((first|clear zz|with_reducible first|refine A3 ?_|refine A5 fun _=>?_|refine A4 fun _=>?_);try simp(disch:=first|omega|assumption|((repeat(first|exact A1|exact uH|apply A2|apply uT));first|done|fail)|(simp;first|done|omega|fail))[]))
 refine A2V (α := Unit) l.length (fun _ _ => .int .i64 0) (fun _ _ => []) (fun i _ => ∀ j y, j < i → l[j]? = some y → decide (y.1 = id) = false) () (by intro j _ hj; omega) ?_
 rintro i _ hi hpre L hL
 by_cases hlt : i < l.length
 ·obtain ⟨b, o, rfl, hrow⟩ := hr (by omega)
  have hx : l[i]? = some l[i] := List.getElem?_eq_getElem hlt
  have h1 := hrow.cellAt (f := J0) (k := 2) (j := 0) (fun _ => rfl) hx rfl
  by_cases c1 : l[i].1 = id
  ·(have zz:=trivial;repeat((first|clear zz|with_reducible first|refine A3 ?_|refine A5 fun _=>?_|refine A4 fun _=>?_);try simp(disch:=first|omega|assumption|((repeat(first|exact A1|exact uH|apply A2|apply uT));first|done|fail)|(simp;first|done|omega|fail))[hlt, h1, c1]))
   exact B0 (by rw [N6, A4w hx (by simpa using c1) hpre])
  ·(have zz:=trivial;repeat((first|clear zz|with_reducible first|refine A3 ?_|refine A5 fun _=>?_|refine A4 fun _=>?_);try simp(disch:=first|omega|assumption|((repeat(first|exact A1|exact uH|apply A2|apply uT));first|done|fail)|(simp;first|done|omega|fail))[hlt, h1, c1]))
   refine hL hlt () fun j y hj hy => ?_
   by_cases hji : j = i
   ·subst hji; rw [hx] at hy; cases hy; simpa using c1
   ·exact hpre j y (by omega) hy
 ·obtain rfl : i = l.length := by omega
  (have zz:=trivial;repeat((first|clear zz|with_reducible first|refine A3 ?_|refine A5 fun _=>?_|refine A4 fun _=>?_);try simp(disch:=first|omega|assumption|((repeat(first|exact A1|exact uH|apply A2|apply uT));first|done|fail)|(simp;first|done|omega|fail))[]))
  exact B0 (by rw [N6, A87 fun j y hy => hpre j y (List.getElem?_eq_some_iff.1 hy).1 hy])
end Go.Proofs.YtjobgnabneddjaaGreat
namespace Go.Proofs.YtjobgnabneddjaaGreat
open Go
end Go.Proofs.YtjobgnabneddjaaGreat
namespace Go.Proofs.YtjobgnabneddjaaGreat
open Go
end Go.Proofs.YtjobgnabneddjaaGreat
namespace Go.Proofs.YtjobgnabneddjaaGreat
open Go
end Go.Proofs.YtjobgnabneddjaaGreat
namespace Go.Proofs.YtjobgnabneddjaaGreat
open Go
end Go.Proofs.YtjobgnabneddjaaGreat
namespace Go.Proofs.YtjobgnabneddjaaGreat
open Go
end Go.Proofs.YtjobgnabneddjaaGreat
namespace Go.Proofs.YtjobgnabneddjaaGreat
open Go
end Go.Proofs.YtjobgnabneddjaaGreat
namespace Go.Proofs.YtjobgnabneddjaaGreat
open Go
end Go.Proofs.YtjobgnabneddjaaGreat
namespace Go.Proofs.YtjobgnabneddjaaGreat
open Go
end Go.Proofs.YtjobgnabneddjaaGreat
namespace Go.Proofs.YtjobgnabneddjaaGreat
open Go
theorem B8B {l : List E6} {i : Nat} {x : E6} (hx : l[i]? = some x) (h : ∀ j y, j < i → l[j]? = some y → y.1 ≠ x.1) : N6 l x.1 = (i : Nat) := by
 rw [N6, A4w hx (by simp) fun j y hj hy => by simpa using h j y hj hy]
theorem B4U (l : List E6) : Z3 l = true ↔ ∀ i x, l[i]? = some x → A0P x = true ∧ N6 l x.1 = (i : Nat) := by
 rw [A0u]
 constructor
 ·rintro ⟨h1, h2⟩ i x hx
  exact ⟨h1 x (List.mem_of_getElem? hx), B8B hx fun j y hj hy => C4q h2 hj hy hx⟩
 ·intro h
  refine ⟨fun b hb => ?_, List.pairwise_iff_getElem.2 fun i j hi hj hij e => ?_⟩
  ·obtain ⟨i, hi⟩ := List.getElem?_of_mem hb
   exact (h i b hi).1
  ·have h1 := (h i _ (List.getElem?_eq_getElem hi)).2
   have h2 := (h j _ (List.getElem?_eq_getElem hj)).2
   rw [e, h2] at h1
   omega
theorem C1G (w : World) (v : Value) (l : List E6) (hn : l.length ≤ 1000000) (hv : G1 w v l.length (l.flatMap J0)) :
  Fn PR B8 153 #[v] w (fun r w' => r = .int .i64 (K4 l) ∧ C7 [] w w') := by
 refine Fn.pure (A4c (TW.go (κ := false) (S := []) ?_))
 unfold x4
 obtain ⟨a, c, rfl, hr⟩ := hv.form
 by_cases c0 : 32 < l.length
 ·have c0' : (32 : Int) < l.length := by omega
  (have zz:=trivial;repeat((first|clear zz|with_reducible first|refine A3 ?_|refine A5 fun _=>?_|refine A4 fun _=>?_);try simp(disch:=first|omega|assumption|((repeat(first|exact A1|exact uH|apply A2|apply uT));first|done|fail)|(simp;first|done|omega|fail))[c0, c0']))
  exact B0 (by simp [K4]; omega)
 have c0' : ¬ (32 : Int) < l.length := by omega
 (have zz:=trivial;repeat((first|clear zz|with_reducible first|refine A3 ?_|refine A5 fun _=>?_|refine A4 fun _=>?_);try simp(disch:=first|omega|assumption|((repeat(first|exact A1|exact uH|apply A2|apply uT));first|done|fail)|(simp;first|done|omega|fail))[c0, c0']))
 refine A2V (α := Unit) l.length (fun _ _ => .int .i64 0) (fun _ _ => []) (fun i _ => ∀ j x, j < i → l[j]? = some x → A0P x = true ∧ N6 l x.1 = (j : Nat)) () (by intro j x hj; omega) ?_
 rintro i _ hi hpre L hL
 by_cases hlt : i < l.length
 ·obtain ⟨b, o, rfl, hrow⟩ := hr (by omega)
  have hx : l[i]? = some l[i] := List.getElem?_eq_getElem hlt
  generalize l[i] = x at hx
  have h1 := hrow.at (f := J0) (k := 2) (fun _ => rfl) hx
  rw [J0] at h1
  have bad : ¬ (A0P x = true ∧ N6 l x.1 = (i : Nat)) → K4 l = 10 := fun h => by
   have : Z3 l = false := by
    rw [← Bool.not_eq_true, B4U]
    exact fun hh => h (hh i x hx)
   simp [K4, this]
  by_cases c1 : x.1 < 1
  ·rw [bad fun h => by have := h.1; simp [A0P] at this; omega]
   (have zz:=trivial;repeat((first|clear zz|with_reducible first|refine A3 ?_|refine A5 fun _=>?_|refine A4 fun _=>?_);try simp(disch:=first|omega|assumption|((repeat(first|exact A1|exact uH|apply A2|apply uT));first|done|fail)|(simp;first|done|omega|fail))[hlt, h1, c1]))
   exact B0 rfl
  by_cases c2 : 65535 < x.1
  ·rw [bad fun h => by have := h.1; simp [A0P] at this; omega]
   (have zz:=trivial;repeat((first|clear zz|with_reducible first|refine A3 ?_|refine A5 fun _=>?_|refine A4 fun _=>?_);try simp(disch:=first|omega|assumption|((repeat(first|exact A1|exact uH|apply A2|apply uT));first|done|fail)|(simp;first|done|omega|fail))[hlt, h1, c1, c2]))
   exact B0 rfl
  by_cases c3 : x.2 < 1
  ·rw [bad fun h => by have := h.1; simp [A0P] at this; omega]
   (have zz:=trivial;repeat((first|clear zz|with_reducible first|refine A3 ?_|refine A5 fun _=>?_|refine A4 fun _=>?_);try simp(disch:=first|omega|assumption|((repeat(first|exact A1|exact uH|apply A2|apply uT));first|done|fail)|(simp;first|done|omega|fail))[hlt, h1, c1, c2, c3]))
   exact B0 rfl
  by_cases c4 : 16 < x.2
  ·rw [bad fun h => by have := h.1; simp [A0P] at this; omega]
   (have zz:=trivial;repeat((first|clear zz|with_reducible first|refine A3 ?_|refine A5 fun _=>?_|refine A4 fun _=>?_);try simp(disch:=first|omega|assumption|((repeat(first|exact A1|exact uH|apply A2|apply uT));first|done|fail)|(simp;first|done|omega|fail))[hlt, h1, c1, c2, c3, c4]))
   exact B0 rfl
  (have zz:=trivial;repeat((first|clear zz|with_reducible first|refine A3 ?_|refine A5 fun _=>?_|refine A4 fun _=>?_);try simp(disch:=first|omega|assumption|((repeat(first|exact A1|exact uH|apply A2|apply uT));first|done|fail)|(simp;first|done|omega|fail))[hlt, h1, c1, c2, c3, c4]))
  refine C1 A4Q (fun w' hw' => C04 w' _ l _ hn (hv.ks hw'.ks (by simp))) ?_
  by_cases c5 : N6 l x.1 = (i : Nat)
  case neg =>
   rw [bad fun h => c5 h.2]
   (have zz:=trivial;repeat((first|clear zz|with_reducible first|refine A3 ?_|refine A5 fun _=>?_|refine A4 fun _=>?_);try simp(disch:=first|omega|assumption|((repeat(first|exact A1|exact uH|apply A2|apply uT));first|done|fail)|(simp;first|done|omega|fail))[c5]))
   exact B0 rfl
  ·(have zz:=trivial;repeat((first|clear zz|with_reducible first|refine A3 ?_|refine A5 fun _=>?_|refine A4 fun _=>?_);try simp(disch:=first|omega|assumption|((repeat(first|exact A1|exact uH|apply A2|apply uT));first|done|fail)|(simp;first|done|omega|fail))[c5]))
   refine Sels.tw .nil (hL hlt () ?_)
   intro j y hj hy
   by_cases hji : j = i
   ·subst hji
    rw [hx] at hy
    cases hy
    exact ⟨by simp [A0P]; omega, c5⟩
   ·exact hpre j y (by omega) hy
 ·obtain rfl : i = l.length := by omega
  have hok : Z3 l = true := (B4U l).2 fun j x hx => hpre j x (List.getElem?_eq_some_iff.1 hx).1 hx
  have hv : K4 l = 0 := by simp [K4, hok]; omega
  rw [hv]
  (have zz:=trivial;repeat((first|clear zz|with_reducible first|refine A3 ?_|refine A5 fun _=>?_|refine A4 fun _=>?_);try simp(disch:=first|omega|assumption|((repeat(first|exact A1|exact uH|apply A2|apply uT));first|done|fail)|(simp;first|done|omega|fail))[]))
  exact B0 rfl
end Go.Proofs.YtjobgnabneddjaaGreat
namespace Go.Proofs.YtjobgnabneddjaaGreat
open Go
end Go.Proofs.YtjobgnabneddjaaGreat
namespace Go.Proofs.YtjobgnabneddjaaGreat
open Go
theorem P6.slice {κ : Bool} {S : List Nat} {w0 : World} {H : List Res} {v : Value} {n : Nat} {xs : List Value} {K0 : WP} (h : P6 κ S w0 H v n xs) (hK : ∀ a c, v = .slice a n c → TW κ S w0 H K0) : TW κ S w0 H K0 := fun w hw => by
 obtain ⟨a, c, e, _⟩ := (h w hw).form
 exact hK a c e w hw
end Go.Proofs.YtjobgnabneddjaaGreat
namespace Go.Proofs.YtjobgnabneddjaaGreat
open Go
structure RdN (bad : List Nat) (w : World) (v : Value) (n : Nat) (xs : List Value) : Prop where
 rd : G1 w v n xs
 off : 0 < n → ∀ g ∈ L7 v, g ∉ bad
 nil : n = 0 → xs = []
theorem RdN.ks {κ : Bool} {S bad : List Nat} {w w' : World} {v : Value} {n : Nat} {xs : List Value} (h : RdN bad w v n xs) (hk : KS κ S w w') (hs : ∀ s ∈ S, s ∈ bad) : RdN bad w' v n xs :=
 ⟨h.rd.ks0 h.nil hk fun h0 g hg hgS => h.off h0 g hg (hs g hgS), h.off, h.nil⟩
theorem RdN.sub {bad bad' : List Nat} {w : World} {v : Value} {n : Nat} {xs : List Value} (h : RdN bad w v n xs) (hs : ∀ s ∈ bad', s ∈ bad) : RdN bad' w v n xs := ⟨h.rd, fun h0 g hg hb => h.off h0 g hg (hs g hb), h.nil⟩
theorem RdN.open {bad : List Nat} {w : World} {v : Value} {n : Nat} {xs : List Value} (h : RdN bad w v n xs) : ∃ a c, v = .slice a n c ∧ (0 < n → ∃ b o, a = some ⟨b, o, none⟩ ∧ N1 w b o xs ∧ b ∉ bad) := by
 obtain ⟨a, c, e, hr⟩ := h.rd.form
 refine ⟨a, c, e, fun h0 => ?_⟩
 obtain ⟨b, o, ea, hrow⟩ := hr h0
 refine ⟨b, o, ea, hrow, h.off h0 b ?_⟩
 rw [e, ea]; simp [L7]
end Go.Proofs.YtjobgnabneddjaaGreat
namespace Go.Proofs.YtjobgnabneddjaaGreat
open Go
section
variable {κ : Bool} {S : List Nat} {w0 w : World} {H Hk : List Res} {K : Value → WP}
theorem Part.skip {x : Res} {Hc : List Res} (h : Part Hc H Hk) : Part Hc (x :: H) (x :: Hk) := by
 induction h with
 | nil => exact Part.nil
 | cons h1 _ ih => exact Part.cons (Sel.there h1) ih
theorem Inv.tabs {c : CfgV} {m : MoH} (hi : Inv c m.st) : ∀ t ∈ m.ts, TabOk c.cp.toNat t.1.2 := fun t ht => hi.tab (t.1.2, t.2) (List.mem_map.2 ⟨t, ht, rfl⟩)
end
end Go.Proofs.YtjobgnabneddjaaGreat
namespace Go.Proofs.YtjobgnabneddjaaGreat
open Go
structure RmH where
 pv : Value
 tv : Value
 lv : Value
 c : CfgV
 pool : List E6
 ts : List (Value × List EnV)
 pl : List Nat
def RmH.cs (r : RmH) : Array Value := #[.int .i64 r.c.wk, .int .i64 r.c.sh, .int .i64 r.c.cp, .int .i64 r.c.idle, .int .i64 r.c.sl, r.pv, r.tv, r.lv]
def B9n (l : List Nat) : List Value := l.map fun n : Nat => .int .i64 (n : Int)
end Go.Proofs.YtjobgnabneddjaaGreat
namespace Go.Proofs.YtjobgnabneddjaaGreat
open Go
def RmH.val (r : RmH) : Value := .agg r.cs
def RmH.st (r : RmH) : MoS := ⟨r.c, r.pool, (r.ts.map (·.2)).zip r.pl⟩
section
variable (w : World) (r : RmH) (o : OpV) (v : Value) (now : Int)
end
end Go.Proofs.YtjobgnabneddjaaGreat
namespace Go.Proofs.YtjobgnabneddjaaGreat
open Go
theorem B8v (n : Nat) : (Builtin.zeroCells (Value.int .i64 0).cells n).toList = B9n (List.replicate n 0) := by
 have hz : (Builtin.zeroCells (Value.int .i64 0).cells n).toList.length = n := by simp [size_zeroCells]
 apply List.ext_getElem (by rw [hz]; simp [B9n])
 intro i h1 h2
 simp [Builtin.zeroCells, B9n, Nat.mod_one]
end Go.Proofs.YtjobgnabneddjaaGreat
