/- The proof of a given statement, a part of it (Mtx). No condition but what each lemma says. -/
import Derived.Laws.LoneSync
import Derived.Lib.Builder
import Derived.Test.YtpbmephflllolaaGreatE16
set_option linter.unusedVariables false
set_option linter.unusedSimpArgs false
namespace Go.Proofs.YtpbmephflllolaaGreat
open Go
theorem B2z {w : World} {b o : Nat} {c : Array Value} {T : TypeId} (v : Value) (hb : bl w b = some (.cells c T (0, 0))) : w.setCell ⟨b, o, none⟩ v = World.putb w b (.cells (c.setIfInBounds o v) T (0, 0)) := by
 unfold World.setCell World.putb
 congr 1
 apply Array.ext_getElem?
 intro r
 rw [Array.getElem?_modify]
 by_cases hr : b = r
 ·subst hr
  have : w.heap[b]? = some (.cells c T (0, 0)) := hb
  rw [Array.getElem?_setIfInBounds_self_of_lt (show b < w.heap.size from G3 hb)]
  simp [this]
 ·rw [Array.getElem?_setIfInBounds_ne hr]; simp [hr]
theorem A6D {w : World} {b o : Nat} {c : Array Value} {T : TypeId} (hb : bl w b = some (.cells c T (0, 0))) : w.frozen? ⟨b, o, none⟩ = false := by
 have : w.heap[b]? = some (.cells c T (0, 0)) := hb
 simp [World.frozen?, this]
section
variable {κ : Bool} {X : Nat → Prop} {S : List Nat} {w0 : World} {H H' : List Res} {K : Value → WP} {b o : Nat} {c : Array Value} {T : TypeId} {f : FuncId} {args : List Value} {v : Value}
theorem B2V {u : Value} (hrun : ∀ w, bl w b = some (.cells c T (0, 0)) → (callFunc f args.toArray).run PR w = .ok (.value v) (w.setCell ⟨b, o, none⟩ u)) (hp : plain u = true)
  (hu : Up (.pt b (.cells c T (0, 0))) (.pt b (.cells (c.setIfInBounds o u) T (0, 0))) H H') (hK : TW κ S w0 H' (K v)) : TW κ S w0 H (B2 PR X f args K) := fun w hw => by
 have hm : Res.pt b (.cells c T (0, 0)) ∈ H := by obtain ⟨A, B, rfl, _⟩ := hu.parts; simp
 have hb := hw.pt hm
 have hr := hrun w hb
 rw [B2z u hb] at hr
 refine Or.inr ⟨_, _, hr, Sk.putb _ hb, hK _ (hw.up hu ⟨KS.putb hb (by simp [Res.foot]), ?_, ?_, by simp⟩)⟩
 ·simp only [List.mem_singleton, forall_eq, Res.holds]; exact ⟨P3 (G3 hb), rfl⟩
 ·simp only [List.mem_singleton, forall_eq, Res.foot]; exact ⟨Or.inl (by simp), by have := G3 hb; simpa using this⟩
theorem A2W (hrun : ∀ w, LW κ S w0 H w → (callFunc f args.toArray).run PR w = .ok (.value v) w) (hK : TW κ S w0 H (K v)) : TW κ S w0 H (B2 PR X f args K) := fun w hw =>
 Or.inr ⟨v, w, hrun w hw, Sk.refl _ _, hK w hw⟩
theorem A8N {s : Sem Value} (hrun : ∀ w, LW κ S w0 H w → s.run PR w = .ok v w) (hK : TW κ S w0 H (K v)) : TW κ S w0 H (A6 PR s K) := fun w hw => ⟨v, hrun w hw, hK w hw⟩
end
theorem l7 {w : World} {b o : Nat} {c : Array Value} {T : TypeId} {v : Value} (hb : bl w b = some (.cells c T (0, 0))) (ho : c[o]? = some v) : w.cell? ⟨b, o, none⟩ = some v := by rw [G7 hb]; exact ho
theorem B80 (w : World) (b : Nat) (a1 a2 a3 : Value) (T : TypeId) (hw : LW false [b] w [.pt b (.cells #[.int .i32 0, a1, a2, a3] T (0, 0))] w) :
  Fn PR B5 135 #[.pointer (some ⟨b, 0, none⟩)] w (Rn [b] w (fun (_ : Unit) u => u = .tuple #[]) fun _ => [.pt b (.cells #[.int .i32 1, a1, a2, a3] T (0, 0))]) := by
 refine A02 (TW.goH (κ := false) (S := [b]) ?_ hw)
 unfold e6
 refine A2W (v := .tuple #[]) (fun w' _ => run_call_mark0 Tryz.func177 (by kernel_rfl) (by kernel_rfl) (by kernel_rfl) .disable (by kernel_rfl) w') ?_
 (have zz:=trivial;repeat((first|clear zz|with_reducible first|refine A3 ?_|refine A5 fun _=>?_|refine A4 fun _=>?_);try simp(disch:=first|omega|assumption|((repeat(first|exact A1|exact uH|apply A2|apply uT));first|done|fail)|(simp;first|done|omega|fail))[]))
 refine B2V (b := b) (o := 0) (c := #[.int .i32 0, a1, a2, a3]) (T := T) (u := .int .i32 1) (v := .bool true) (fun w' hb => run_call_cas_hit Tryz.func178 (by kernel_rfl) (by kernel_rfl) (by kernel_rfl) .i32 (by kernel_rfl) (l7 hb rfl) (A6D hb)) rfl Up.here ?_
 (have zz:=trivial;repeat((first|clear zz|with_reducible first|refine A3 ?_|refine A5 fun _=>?_|refine A4 fun _=>?_);try simp(disch:=first|omega|assumption|((repeat(first|exact A1|exact uH|apply A2|apply uT));first|done|fail)|(simp;first|done|omega|fail))[]))
 refine A2W (v := .tuple #[]) (fun w' _ => run_call_mark0 Tryz.func179 (by kernel_rfl) (by kernel_rfl) (by kernel_rfl) .enable (by kernel_rfl) w') ?_
 refine A8N (v := .pointer (some ⟨b, 0, none⟩)) (fun w' hw' => run_convert_to_unsafe (t := 99) (by kernel_rfl) (by kernel_rfl) (by kernel_rfl) (l7 (o := 0) (hw'.pt A1) rfl)) ?_
 refine A2W (v := .tuple #[]) (fun w' _ => run_call_marked Tryz.func180 (by kernel_rfl) (by kernel_rfl) (by kernel_rfl) .acquire (by kernel_rfl) _ w') ?_
 exact D4 () rfl (by (repeat' constructor))
theorem B5s (w : World) (b : Nat) (a1 a2 a3 : Value) (T : TypeId) (hw : LW false [b] w [.pt b (.cells #[.int .i32 1, a1, a2, a3] T (0, 0))] w) :
  Fn PR B5 137 #[.pointer (some ⟨b, 0, none⟩)] w (Rn [b] w (fun (_ : Unit) u => u = .tuple #[]) fun _ => [.pt b (.cells #[.int .i32 0, a1, a2, a3] T (0, 0))]) := by
 refine A0M (TW.goH (κ := false) (S := [b]) ?_ hw)
 unfold Z9
 (have zz:=trivial;repeat((first|clear zz|with_reducible first|refine A3 ?_|refine A5 fun _=>?_|refine A4 fun _=>?_);try simp(disch:=first|omega|assumption|((repeat(first|exact A1|exact uH|apply A2|apply uT));first|done|fail)|(simp;first|done|omega|fail))[]))
 refine A8N (v := .pointer (some ⟨b, 0, none⟩)) (fun w' hw' => run_convert_to_unsafe (t := 99) (by kernel_rfl) (by kernel_rfl) (by kernel_rfl) (l7 (o := 0) (hw'.pt A1) rfl)) ?_
 refine A2W (v := .tuple #[]) (fun w' _ => run_call_marked Tryz.func182 (by kernel_rfl) (by kernel_rfl) (by kernel_rfl) .releaseMerge (by kernel_rfl) _ w') ?_
 refine A2W (v := .tuple #[]) (fun w' _ => run_call_mark0 Tryz.func177 (by kernel_rfl) (by kernel_rfl) (by kernel_rfl) .disable (by kernel_rfl) w') ?_
 (have zz:=trivial;repeat((first|clear zz|with_reducible first|refine A3 ?_|refine A5 fun _=>?_|refine A4 fun _=>?_);try simp(disch:=first|omega|assumption|((repeat(first|exact A1|exact uH|apply A2|apply uT));first|done|fail)|(simp;first|done|omega|fail))[]))
 refine B2V (b := b) (o := 0) (c := #[.int .i32 1, a1, a2, a3]) (T := T) (u := .int .i32 0) (v := .int .i32 0) (fun w' hb => run_call_add Tryz.func183 (by kernel_rfl) (by kernel_rfl) (by kernel_rfl) .i32 (by kernel_rfl) (l7 hb rfl) (A6D hb) rfl) rfl Up.here ?_
 (have zz:=trivial;repeat((first|clear zz|with_reducible first|refine A3 ?_|refine A5 fun _=>?_|refine A4 fun _=>?_);try simp(disch:=first|omega|assumption|((repeat(first|exact A1|exact uH|apply A2|apply uT));first|done|fail)|(simp;first|done|omega|fail))[]))
 refine A2W (v := .tuple #[]) (fun w' _ => run_call_mark0 Tryz.func179 (by kernel_rfl) (by kernel_rfl) (by kernel_rfl) .enable (by kernel_rfl) w') ?_
 exact D4 () rfl (by (repeat' constructor))
theorem C0U (w : World) (b : Nat) (a1 a2 a3 : Value) (T : TypeId) (hw : LW false [b] w [.pt b (.cells #[.int .i32 0, a1, a2, a3] T (0, 0))] w) :
  Fn PR B5 86 #[.pointer (some ⟨b, 0, none⟩)] w (Rn [b] w (fun (_ : Unit) u => u = .tuple #[]) fun _ => [.pt b (.cells #[.int .i32 1, a1, a2, a3] T (0, 0))]) := by
 refine A57 (TW.goH (κ := false) (S := [b]) ?_ hw)
 unfold A04
 (have zz:=trivial;repeat((first|clear zz|with_reducible first|refine A3 ?_|refine A5 fun _=>?_|refine A4 fun _=>?_);try simp(disch:=first|omega|assumption|((repeat(first|exact A1|exact uH|apply A2|apply uT));first|done|fail)|(simp;first|done|omega|fail))[]))
 refine D8 (Hc := [.pt b (.cells #[.int .i32 0, a1, a2, a3] T (0, 0))]) A0b (fun w' _ hs => B80 w' b a1 a2 a3 T hs) (by (repeat' constructor)) ?_
 rintro _ _ rfl
 exact D4 () rfl (by (repeat' constructor))
theorem B6n (w : World) (b : Nat) (a1 a2 a3 : Value) (T : TypeId) (hw : LW false [b] w [.pt b (.cells #[.int .i32 1, a1, a2, a3] T (0, 0))] w) :
  Fn PR B5 89 #[.pointer (some ⟨b, 0, none⟩)] w (Rn [b] w (fun (_ : Unit) u => u = .tuple #[]) fun _ => [.pt b (.cells #[.int .i32 0, a1, a2, a3] T (0, 0))]) := by
 refine A4c (TW.goH (κ := false) (S := [b]) ?_ hw)
 unfold A0E
 (have zz:=trivial;repeat((first|clear zz|with_reducible first|refine A3 ?_|refine A5 fun _=>?_|refine A4 fun _=>?_);try simp(disch:=first|omega|assumption|((repeat(first|exact A1|exact uH|apply A2|apply uT));first|done|fail)|(simp;first|done|omega|fail))[]))
 refine D8 (Hc := [.pt b (.cells #[.int .i32 1, a1, a2, a3] T (0, 0))]) A0C (fun w' _ hs => B5s w' b a1 a2 a3 T hs) (by (repeat' constructor)) ?_
 rintro _ _ rfl
 exact D4 () rfl (by (repeat' constructor))
theorem B5G {f : FuncId} {fn : Func} (hf : PR.funcs[f]? = some fn) (hname : (fn.name == "runtime.NumGoroutine") = false) (hb : fn.body.isNone = true) (hn : Extern.findNext fn = none)
  (he : Extern.find fn = some Extern.Atomic.storeT) {a : Addr} {p : Option Addr} {u : Value} {w : World} (hc : w.cell? a = some u) (hz : w.frozen? a = false) :
  (callFunc f #[.pointer (some a), .pointer p]).run PR w = .ok (.value (.tuple #[])) (w.setCell a (.pointer p)) := by
 rw [run_callFunc_extern hf hname hb hn he]
 change (Sem.run PR (do
  store (← asAddr (.pointer (some a))) (.pointer p) .atomic
  pure Extern.Atomic.none_) w).andThen _ = _
 simp [asAddr, hc, hz, run_store PR w a (.pointer p) .atomic rfl, Result.andThen, Extern.Atomic.none_]
theorem B6y {f : FuncId} {fn : Func} (hf : PR.funcs[f]? = some fn) (hname : (fn.name == "runtime.NumGoroutine") = false) (hb : fn.body.isNone = true) (hn : Extern.findNext fn = none)
  (he : Extern.find fn = some (Extern.Atomic.loadT .ptr)) {a : Addr} {p : Option Addr} {w : World} (hc : w.cell? a = some (.pointer p)) :
  (callFunc f #[.pointer (some a)]).run PR w = .ok (.value (.pointer p)) w := by
 rw [run_callFunc_extern hf hname hb hn he]
 change (Sem.run PR (do Extern.Atomic.read .ptr (← asAddr (.pointer (some a)))) w).andThen _ = _
 simp [Extern.Atomic.read, asAddr, hc, Result.andThen]
theorem B2v (w : World) (b k : Nat) (c d : Array Value) (T : TypeId) (hb : bl w b = some (.cells c T (0, 0))) (h5 : c[5]? = some (.pointer (some ⟨k, 0, none⟩))) (hk : bl w k = some (.cells d 92 (0, 0))) (hd : d.size = 2) :
  Fn PR B5 50 #[.pointer (some ⟨b, 5, none⟩)] w (fun v w' => v = .pointer (some ⟨k, 0, none⟩) ∧ C4 [] w w') := by
 refine Fn.pure (Y2 (TW.go (κ := false) (S := []) ?_))
 unfold M9
 (have zz:=trivial;repeat((first|clear zz|with_reducible first|refine A3 ?_|refine A5 fun _=>?_|refine A4 fun _=>?_);try simp(disch:=first|omega|assumption|((repeat(first|exact A1|exact uH|apply A2|apply uT));first|done|fail)|(simp;first|done|omega|fail))[]))
 refine A2W (v := .pointer (some ⟨k, 0, none⟩)) (fun w' hw' => B6y Tryz.func91 (by kernel_rfl) (by kernel_rfl) (by kernel_rfl) (by kernel_rfl) (hw'.ks.cell (by simp) (l7 hb h5))) ?_
 refine A8N (v := .pointer (some ⟨k, 0, none⟩)) (fun w' hw' => ?_) ?_
 ·have hk' : w'.heap[k]? = some (.cells d 92 (0, 0)) := hw'.ks.2.1 _ _ (by simp) rfl hk
  exact Go.Lib.run_from_unsafe (u := 92) (e := 92) (cells := 2) (j := Tryz.t92) w' ⟨k, 0, none⟩ (by kernel_rfl) (by kernel_rfl) (by kernel_rfl) (by simp [World.shape?, hk', hd]) (by kernel_rfl)
 exact B0 rfl
theorem B0p (w : World) (b k : Nat) (c0 c1 c2 c3 c4 c5 c6 : Value) (T : TypeId) (d : Array Value) (T2 : TypeId) (hd : 0 < d.size) (hw : LW false [b] w [.pt b (.cells #[c0, c1, c2, c3, c4, c5, c6] T (0, 0))] w) (hk : bl w k = some (.cells d T2 (0, 0))) (hbk : k ≠ b) :
  Fn PR B5 36 #[.pointer (some ⟨b, 5, none⟩), .pointer (some ⟨k, 0, none⟩)] w (Rn [b] w (fun (_ : Unit) u => u = .tuple #[]) fun _ => [.pt b (.cells #[c0, c1, c2, c3, c4, .pointer (some ⟨k, 0, none⟩), c6] T (0, 0))]) := by
 refine W3 (TW.goH (κ := false) (S := [b]) ?_ hw)
 unfold M4
 (have zz:=trivial;repeat((first|clear zz|with_reducible first|refine A3 ?_|refine A5 fun _=>?_|refine A4 fun _=>?_);try simp(disch:=first|omega|assumption|((repeat(first|exact A1|exact uH|apply A2|apply uT));first|done|fail)|(simp;first|done|omega|fail))[]))
 refine A8N (v := .pointer (some ⟨k, 0, none⟩)) (fun w' hw' => run_convert_to_unsafe (t := 92) (by kernel_rfl) (by kernel_rfl) (by kernel_rfl) (hw'.ks.cell (r := k) (o := 0) (v := d[0]) (by simpa using hbk) (l7 hk (by simp [hd])))) ?_
 refine B2V (b := b) (o := 5) (c := #[c0, c1, c2, c3, c4, c5, c6]) (T := T) (u := .pointer (some ⟨k, 0, none⟩)) (v := .tuple #[]) (fun w' hb => B5G Tryz.func72 (by kernel_rfl) (by kernel_rfl) (by kernel_rfl) (by kernel_rfl) (l7 (o := 5) (v := c5) hb rfl) (A6D hb)) rfl Up.here ?_
 exact D4 () rfl (by (repeat' constructor))
end Go.Proofs.YtpbmephflllolaaGreat
