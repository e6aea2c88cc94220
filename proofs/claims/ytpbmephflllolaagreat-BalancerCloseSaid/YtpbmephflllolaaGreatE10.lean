/- The proof of a given statement, a part of it (Std Rep). No condition but what each lemma says. -/
import Derived.Lib.UnsafeStr
import Derived.Lib.AppendStr
import Derived.Test.YtpbmephflllolaaGreatE9
set_option linter.unusedVariables false
set_option linter.unusedSimpArgs false
namespace Go.Proofs.YtpbmephflllolaaGreat
open Go
def E1 (s : ByteArray) : List Value := s.data.toList.map fun b => Value.int .u8 b.toNat
@[simp] theorem A6J (s : ByteArray) : (E1 s).length = s.size := by rw [E1, List.length_map]; rfl
theorem A3m (s : ByteArray) : (E1 s).all plain = true := by
 rw [E1, List.all_map]; exact List.all_eq_true.2 fun _ _ => rfl
theorem B7p (s : ByteArray) : s.data.map (fun b => Value.int .u8 b.toNat) = (E1 s).toArray := by apply Array.toList_inj.1; simp [E1]
theorem B7F {P : Program} {X : Nat → Prop} {K : Value → WP} {w : World} {t u e ty : TypeId} {n1 m1 n2 m2 : Nat} {z1 z2 : Value} {d : TypeDesc} {v : Value} {n : Nat} {xs : List Value} {s : ByteArray} (ht : TI P t (.slice e) n1 m1 z1) (hu : TI P u .string n2 m2 z2)
  (he : TI P e d 1 1 (.int .u8 0)) (hv : M8 w e 1 v n xs) (h63 : n + s.size ≤ 140737488355328)
  (hK : ∀ v' w', M8 w' e 1 v' (n + s.size) (xs ++ E1 s) → C4 (G4 v) w w' → Sk (fun _ => False) w w' → (∀ g ∈ G4 v', g ∈ G4 v ∨ sz w ≤ g) → K v' w') : B1 P X (A8 .append #[t, u] ty [v, .string s]) K w := by
 obtain ⟨i, hi, hsize, hbytes, hzero⟩ := he.info
 have hf := Lib.run_firstCells_string (P := P) (w := w) 1 s
 have hsc : Lib.strCells s = E1 s := by simp [Lib.strCells, E1]
 have hlen : (xs ++ E1 s).length = (n + s.size) * 1 := by rw [List.length_append, hv.1, A6J, Nat.add_mul]; omega
 have grown : ∀ (old : Nat), old < n + s.size → M8 (w.drew.alloc (.cells (xs.toArray ++ (E1 s).toArray ++ Builtin.zeroCells (Value.int .u8 0).cells (grownCap w (n + s.size) old e - (n + s.size))) e)) e 1
   (.slice (some ⟨sz w, 0, none⟩) (n + s.size) (grownCap w (n + s.size) old e)) (n + s.size) (xs ++ E1 s) := by
  intro old ho
  have hge := grownCap_ge w (n + s.size) old e
  refine ⟨hlen, Or.inr ⟨sz w, _, _, rfl, V3 w.drew _, hge, ?_, ?_⟩⟩
  ·simp only [Array.size_append, List.size_toArray, size_zeroCells, hv.1, A6J, Nat.mul_one]
   simp; omega
  ·simp only [Array.toList_append, List.append_assoc]
   rw [← List.append_assoc, ← hlen]
   exact List.take_left
 have S7 : ∀ (old : Nat), old < n + s.size → (Builtin.append_ #[t, u] ty #[v, .string s]).run P w = .ok (.slice (some ⟨sz w, 0, none⟩) (n + s.size) (grownCap w (n + s.size) old e))
    (w.drew.alloc (.cells (xs.toArray ++ (E1 s).toArray ++ Builtin.zeroCells (Value.int .u8 0).cells (grownCap w (n + s.size) old e - (n + s.size))) e)) → B1 P X (A8 .append #[t, u] ty [v, .string s]) K w := by
  intro old ho hrun
  rw [show (A8 .append #[t, u] ty [v, .string s]) = Builtin.append_ #[t, u] ty #[v, .string s] from rfl, T5 hrun ((Sk.drew X w).trans (Sk.alloc X w.drew _ (Or.inr ⟨_, _, rfl⟩)))]
  exact hK _ _ (grown old ho) (((C4.refl _ w).drew).alloc _) ((Sk.drew _ w).trans (Sk.alloc _ w.drew _ (Or.inr ⟨_, _, rfl⟩))) fun g hg => Or.inr (by simp [G4] at hg; omega)
 rcases hv.2 with ⟨rfl, rfl⟩ | ⟨g, cap, cur, rfl, hb, hc, hcs, htk⟩
 ·have hx0 : xs = [] := List.length_eq_zero_iff.1 (by simpa using hv.1)
  subst hx0
  by_cases hs0 : s.size = 0
  ·have hrun : (Builtin.append_ #[t, u] ty #[.slice none 0 0, .string s]).run P w = .ok (.slice none 0 0) w := by
    have hf0 := hf
    rw [hs0] at hf0
    simp [Builtin.append_, run_underlying ht.und, run_underlying hu.und, sizeOf, typeInfo, hi, Builtin.lenOf, hsize, hf0, hs0]
   rw [show (A8 .append #[t, u] ty [.slice none 0 0, .string s]) = Builtin.append_ #[t, u] ty #[.slice none 0 0, .string s] from rfl, T5 hrun (Sk.refl X w)]
   have hb0 : E1 s = [] := List.length_eq_zero_iff.1 (by simpa using hs0)
   exact hK _ w (by rw [hs0, hb0]; simpa using hv) (C4.refl _ _) (Sk.refl _ _) fun g hg => Or.inl hg
  ·refine S7 0 (by omega) ?_
   have := run_append_nil_string (P := P) (w := w) t u ty e i _ ht.und hu.und hi hzero s (by omega) (by omega) (by rw [hbytes]; omega)
   rw [B7p] at this
   simpa [sz] using this
 ·by_cases hroom : n + s.size ≤ cap
  ·have hfit : n * 1 + (E1 s).length ≤ cur.size := by rw [A6J, ← hcs]; omega
   have hst := c8 (P := P) (o0 := n * 1) (E1 s) 0 w cur hb (by simpa using hfit) (A3m s)
   simp only [Nat.add_zero, Nat.mul_one] at hst
   have hrun : (Builtin.append_ #[t, u] ty #[.slice (some ⟨g, 0, none⟩) n cap, .string s]).run P w = .ok (.slice (some ⟨g, 0, none⟩) (n + s.size) cap) (World.putb w g (.cells (E2 cur n (E1 s)) e (0, 0))) := by
    rw [← hsc] at hst ⊢
    simp [Builtin.append_, run_underlying ht.und, run_underlying hu.und, sizeOf, typeInfo, hi, Builtin.lenOf, hroom, hsize, hf, Addr.add_lit, hst]
   rw [show (A8 .append #[t, u] ty [.slice (some ⟨g, 0, none⟩) n cap, .string s]) = Builtin.append_ #[t, u] ty #[.slice (some ⟨g, 0, none⟩) n cap, .string s] from rfl,
    T5 hrun (Sk.putb X hb)]
   refine hK _ _ ⟨hlen, Or.inr ⟨g, cap, _, rfl, P3 (G3 hb), hroom, by rw [C1]; exact hcs, ?_⟩⟩ (C4.putb (C4.refl _ _) _ (Or.inl (by simp [G4]))) (Sk.putb _ hb) fun g hg => Or.inl hg
   rw [A0J _ _ _ (by simpa using hfit)]
   rw [Nat.mul_one] at htk
   rw [htk, ← hlen]
   exact List.take_left
  ·refine S7 cap (by omega) ?_
   have holds : ∀ j x, xs[j]? = some x → w.cell? ((⟨g, 0, none⟩ : Addr).add j) = some x := fun j x hj => by rw [Y3]; exact (M8.row hv).get hj
   have := Lib.run_append_grow_string (P := P) (w := w) t u ty e i _ ht.und hu.und hi hzero ⟨g, 0, none⟩ n cap xs (by rw [hsize]; exact hv.1) holds s (by omega) (by omega) (growslice_fits (by omega) (by rw [hbytes]; omega))
   simpa [sz, hsc] using this
theorem B6s (v : Value) (w : World) : (callFunc 185 #[v]).run PR w = .ok (.value v) w := by
 have h1 : Extern.findNext Tryz.f185 = none := by kernel_rfl
 have h2 : Extern.find Tryz.f185 = some Extern.AbiNoEscape.same := by kernel_rfl
 have h3 : (Tryz.f185.name == "runtime.NumGoroutine") = false := by kernel_rfl
 have h4 : Tryz.f185.body.isNone = true := by kernel_rfl
 have h5 : PR.funcs[185]? = some Tryz.f185 := Tryz.func185
 simp only [callFunc, Sem.run_bind, run_program, Result.andThen_ok, h5, h3, h4, Bool.false_eq_true, if_false, if_true, h1, h2]
 rfl
theorem C0q {κ : Bool} {X : Nat → Prop} {S : List Nat} {w0 : World} {H : List Res} {K : Value → WP} {v : Value} (hK : TW κ S w0 H (K v)) : TW κ S w0 H (B2 PR X 185 [v] K) := fun w hw =>
 Or.inr ⟨v, w, B6s v w, Sk.refl _ _, hK w hw⟩
section
variable {κ : Bool} {X : Nat → Prop} {S : List Nat} {w0 : World} {H Hr : List Res} {K : Value → WP}
theorem A7c {w : World} {b : Nat} {c : Array Value} {T : TypeId} {f : Nat × Nat} (h : bl w b = some (.cells c T f)) : w.shape? b = some (T, c.size) := by
 have h' : w.heap[b]? = some (.cells c T f) := h
 simp [World.shape?, h']
theorem B5u {b : Nat} {c : Array Value} {T : TypeId} {f : Nat × Nat} (hm : Res.pt b (.cells c T f) ∈ H) (hc : 0 < c.size)
  (hK : TW κ S w0 H (K (.pointer (some ⟨b, 0, none⟩)))) : TW κ S w0 H (A6 PR (convert 185 83 (.pointer (some ⟨b, 0, none⟩))) K) := B6D hK fun w hw => by
 have hs := A7c (hw.pt hm)
 refine S5 ?_ K
 have h1 : (underlying 185).run PR w = .ok (.pointer 187) w := run_underlying (by kernel_rfl) _
 have h2 : (underlying 83).run PR w = .ok .unsafePointer w := run_underlying (by kernel_rfl) _
 have h3 : (sizeOf 187).run PR w = .ok 2 w := A61.run_size
 have hc' : ¬ (c.size = 0) := by omega
 simp [convert, Conv.unsafePointer, h1, h2, Conv.seenAt, viewAt, cellsIn, hs, h3, hc']
theorem B5A {b : Nat} {c : Array Value} {T : TypeId} {f : Nat × Nat} (hm : Res.pt b (.cells c T f) ∈ H) (hl : liesAt PR PR.depth T (c.size / PR.cellsOf T) 0 187 1 = true)
  (hK : TW κ S w0 H (K (.pointer (some ⟨b, 0, none⟩)))) : TW κ S w0 H (A6 PR (convert 83 185 (.pointer (some ⟨b, 0, none⟩))) K) := B6D hK fun w hw => by
 have hs := A7c (hw.pt hm)
 refine S5 ?_ K
 have h1 : (underlying 185).run PR w = .ok (.pointer 187) w := run_underlying (by kernel_rfl) _
 have h2 : (underlying 83).run PR w = .ok .unsafePointer w := run_underlying (by kernel_rfl) _
 have h3 : (sizeOf 187).run PR w = .ok 2 w := A61.run_size
 simp [convert, Conv.unsafePointer, h1, h2, Conv.seenAt, viewAt, variablesAt, hs, h3, hl]
theorem C1F {ty : TypeId} {v : Value} {s : ByteArray} {q : Nat} {xs : List Value} (hs : Sel (.own 5 1 v q xs) H Hr) (h63 : q + s.size ≤ 140737488355328)
  (hK : ∀ a c, TW κ S w0 (.own 5 1 (.slice a (q + s.size) c) (q + s.size) (xs ++ E1 s) :: Hr) (K (.slice a (q + s.size) c))) : TW κ S w0 H (B1 PR X (A8 .append #[127, 9] ty [v, .string s]) K) := by
 refine TW.perm ?_ hs.perm
 intro w hw
 refine B7F A1n z6 ty5 (hw.hold _ A1) h63 fun v' w' ho hb hsk hg => ?_
 refine B7Q hK v' w' (hw.up .here ⟨hb.ks fun _ => hsk, by simpa [Res.holds] using ho, ?_, by simp⟩)
 simp only [List.mem_singleton, forall_eq]
 intro b hb'
 refine ⟨hg b hb', ?_⟩
 rcases ho.2 with ⟨rfl, _⟩ | ⟨g', cap', cur, rfl, h1, _⟩
 ·simp [Res.foot, G4] at hb'
 ·simp [Res.foot, G4] at hb'; subst hb'; exact G3 h1
end
theorem B8D {P : Program} {t u : TypeId} {n m n2 m2 : Nat} {z z2 : Value} {d2 : TypeDesc} {a : Addr} {e : Nat} (h : TI P t (.pointer u) n m z) (hu : TI P u d2 (n2 + 1) m2 z2) : EqV P (e + 1) t (.pointer (some a)) (.pointer (some a)) true := by
 intro w
 have h4 : (sameAddr a a).run P w = .ok true w := by simp only [sameAddr, beq_self_eq_true, if_true]; rfl
 simp only [Op.equalIn, Sem.run_bind, h.run_und, Result.andThen_ok, hu.run_size, ne_eq, Nat.add_one_ne_zero, not_false_eq_true, if_true]
 exact h4
theorem B6C {a : Addr} {x y : Operand} {K : Value → WP} : A6 PR (N4 .neq 185 x y (.pointer (some a)) (.pointer (some a))) K = K (.bool false) := by
 funext w
 refine S5 ?_ K
 have he : (Op.equalIn 10000 185 (.pointer (some a)) (.pointer (some a))).run PR w = .ok true w := B8D (e := 9999) B1U A61 w
 have h1 : (eqGuard .neq 185 x y (.pointer (some a)) (.pointer (some a))).run PR w = .ok () w := by simp [eqGuard]
 simp [N4, h1, binOp, Op.equal, Op.maxDepth, he]
theorem B2c (w : World) (b : Nat) (T : TypeId) (a : Option Addr) (v : Value) (ha : a = none ∨ a = some ⟨b, 0, none⟩) (hl : liesAt PR PR.depth T (2 / PR.cellsOf T) 0 187 1 = true)
  (hw : LW false [b] w [.pt b (.cells #[.pointer a, v] T)] w) : Fn PR B5 139 #[.pointer (some ⟨b, 0, none⟩)] w (Rn [b] w (fun (_ : Unit) u => u = .tuple #[]) fun _ => [.pt b (.cells #[.pointer (some ⟨b, 0, none⟩), v] T)]) := by
 refine A0Z (TW.goH (κ := false) (S := [b]) ?_ hw)
 unfold d6
 rcases ha with rfl | rfl
 ·(have zz:=trivial;repeat((first|clear zz|with_reducible first|refine A3 ?_|refine A5 fun _=>?_|refine A4 fun _=>?_);try simp(disch:=first|omega|assumption|((repeat(first|exact A1|exact uH|apply A2|apply uT));first|done|fail)|(simp;first|done|omega|fail))[]))
  refine B5u (c := #[.pointer none, v]) (T := T) (f := (0, 0)) (by (repeat constructor)) (by simp) ?_
  refine C0q ?_
  refine B5A (c := #[.pointer none, v]) (T := T) (f := (0, 0)) (by (repeat constructor)) hl ?_
  (have zz:=trivial;repeat((first|clear zz|with_reducible first|refine A3 ?_|refine A5 fun _=>?_|refine A4 fun _=>?_);try simp(disch:=first|omega|assumption|((repeat(first|exact A1|exact uH|apply A2|apply uT));first|done|fail)|(simp;first|done|omega|fail))[]))
  exact W9 () rfl (by simp)
 ·(have zz:=trivial;repeat((first|clear zz|with_reducible first|refine A3 ?_|refine A5 fun _=>?_|refine A4 fun _=>?_);try simp(disch:=first|omega|assumption|((repeat(first|exact A1|exact uH|apply A2|apply uT));first|done|fail)|(simp;first|done|omega|fail))[B6C]))
  exact W9 () rfl (by simp)
abbrev Bd (b : Nat) (T : TypeId) (a : Option Addr) (v : Value) (n : Nat) (xs : List Value) : List Res := [.pt b (.cells #[.pointer a, v] T), .own 5 1 v n xs]
theorem y1 (s t : ByteArray) : E1 (s ++ t) = E1 s ++ E1 t := by simp [E1]
theorem n5 (w : World) (b : Nat) (T : TypeId) (a : Option Addr) (v : Value) (n : Nat) (xs : List Value) (t : ByteArray) (ha : a = none ∨ a = some ⟨b, 0, none⟩) (hl : liesAt PR PR.depth T (2 / PR.cellsOf T) 0 187 1 = true)
  (hst : n + t.size < 2 ^ 40) (hw : LW false (B3 (Bd b T a v n xs)) w (Bd b T a v n xs) w) : Fn PR B5 95 #[.pointer (some ⟨b, 0, none⟩), .string t] w
   (Rn (B3 (Bd b T a v n xs)) w (fun (_ : Value) u => u = .tuple #[.int .i64 t.size, .nilIface]) fun v' => Bd b T (some ⟨b, 0, none⟩) v' (n + t.size) (xs ++ E1 t)) := by
 refine z7 (TW.goH (κ := false) (S := B3 (Bd b T a v n xs)) ?_ hw)
 unfold Z1
 refine A88 (Hc := [.pt b (.cells #[.pointer a, v] T)]) (Hk := [.own 5 1 v n xs]) A0N (by rfl) (fun w' hw' => B2c w' b T a v ha hl (LW.self (LW.sub (H' := [.pt b (.cells #[.pointer a, v] T)]) hw' (by simp)))) ?_
 rintro _ _ rfl
 simp only [List.cons_append, List.nil_append]
 (have zz:=trivial;repeat((first|clear zz|with_reducible first|refine A3 ?_|refine A5 fun _=>?_|refine A4 fun _=>?_);try simp(disch:=first|omega|assumption|((repeat(first|exact A1|exact uH|apply A2|apply uT));first|done|fail)|(simp;first|done|omega|fail))[]))
 refine C1F (by (repeat constructor)) (by omega) fun a' c' => ?_
 (have zz:=trivial;repeat((first|clear zz|with_reducible first|refine A3 ?_|refine A5 fun _=>?_|refine A4 fun _=>?_);try simp(disch:=first|omega|assumption|((repeat(first|exact A1|exact uH|apply A2|apply uT));first|done|fail)|(simp;first|done|omega|fail))[]))
 exact D4 (.slice a' (n + t.size) c') rfl (by simp only [Bd]; (repeat' constructor))
theorem B0S (w : World) (g n r : Nat) (h : r ≠ g) : bl (w.freeze ⟨g, 0, none⟩ n) r = bl w r := by
 unfold World.freeze bl; split
 ·rfl
 ·simp [Array.getElem?_modify, Ne.symm h]
theorem B0J (w : World) (g n : Nat) : sz (w.freeze ⟨g, 0, none⟩ n) = sz w := by
 unfold World.freeze sz; split <;> simp
theorem B53 (w : World) (g n : Nat) : C4 [g] w (w.freeze ⟨g, 0, none⟩ n) :=
 ⟨by rw [B0J]; exact Nat.le_refl _, fun r o hr e => by rw [B0S _ _ _ _ (by simpa using hr)]; exact e⟩
theorem B0n {w : World} {g n : Nat} {c : Array Value} {T : TypeId} {f : Nat × Nat} (X : Nat → Prop) (h : bl w g = some (.cells c T f)) : Sk X w (w.freeze ⟨g, 0, none⟩ n) := by
 have h2 : ∀ (r : Nat) x, (∀ c T z, x ≠ Obj.cells c T z) → w.heap[r]? = some x → (w.freeze ⟨g, 0, none⟩ n).heap[r]? = some x := fun r x hx e => by
  have : r ≠ g := by rintro rfl; rw [bl, e] at h; cases h; exact hx _ _ _ rfl
  exact (B0S w g n r this).trans e
 refine ⟨by have := B0J w g n; simp only [sz] at this; omega, fun r d => h2 r _ (by simp), fun r lo _ => h2 r _ (by simp), ?_, ?_⟩
 ·unfold World.freeze; split <;> rfl
 ·unfold World.freeze; split <;> rfl
section
variable {κ : Bool} {X : Nat → Prop} {S : List Nat} {w0 : World} {H Hr : List Res} {K : Value → WP}
theorem C3Q {ty e : TypeId} {k q c g : Nat} {xs : List Value} (hm : Res.own e k (.slice (some ⟨g, 0, none⟩) q c) q xs ∈ H) (hq : 0 < q) (hK : TW κ S w0 H (K (.pointer (some ⟨g, 0, none⟩)))) :
  TW κ S w0 H (B1 PR X (A8 .unsafeSliceData #[127] ty [.slice (some ⟨g, 0, none⟩) q c]) K) := fun w hw => by
 have ho : M8 w e k (.slice (some ⟨g, 0, none⟩) q c) q xs := hw.hold _ hm
 rcases ho.2 with ⟨h1, _⟩ | ⟨g', c', cur, h1, hb, hc, hcs, _⟩
 ·cases h1
 cases h1
 have hrun : (A8 .unsafeSliceData #[127] ty [.slice (some ⟨g, 0, none⟩) q c]).run PR w = .ok (.pointer (some ⟨g, 0, none⟩)) w := Lib.run_unsafeSliceData_row (P := PR) (w := w) #[127] ty ⟨g, 0, none⟩ q c (by omega)
 rw [T5 hrun (Sk.refl _ _)]
 exact hK w hw
theorem C1M {ty : TypeId} {c g : Nat} {s : ByteArray} (hs : Sel (.own 5 1 (.slice (some ⟨g, 0, none⟩) s.size c) s.size (E1 s)) H Hr) (h0 : 0 < s.size) (h1 : s.size < 2 ^ 40) (hK : TW κ S w0 Hr (K (.string s))) :
  TW κ S w0 H (B1 PR X (A8 .unsafeString #[249, 3] ty [.pointer (some ⟨g, 0, none⟩), .int .i64 s.size]) K) := fun w hw => by
 have hw2 := hw.perm hs.perm
 have ho : M8 w 5 1 (.slice (some ⟨g, 0, none⟩) s.size c) s.size (E1 s) := hw2.hold _ A1
 have hrow := M8.row ho
 rcases ho.2 with ⟨h1, _⟩ | ⟨g', c', cur, h1, hb, hc, hcs, _⟩
 ·cases h1
 cases h1
 have hlen : s.data.toList.length = s.size := by rfl
 have hrun := Lib.run_unsafeString_row (P := PR) (w := w) 249 3 ty 5 (by kernel_rfl) (by kernel_rfl) g cur.size (A7c hb) s.data.toList (by intro h; rw [h] at hlen; simp at hlen; omega) (by rw [hlen, ← hcs]; omega) (by rw [hlen]; omega)
  (fun j x hj => by rw [Y3]; exact hrow.get (by simp [E1, hj]))
 rw [hlen] at hrun
 have e : A8 .unsafeString #[249, 3] ty [.pointer (some ⟨g, 0, none⟩), .int .i64 s.size] = Builtin.unsafeString_ #[249, 3] ty #[.pointer (some ⟨g, 0, none⟩), .int .i64 s.size] := rfl
 rw [e, T5 hrun (B0n X hb)]
 refine hK _ (hw2.part (Hc := [_]) (Hn := []) ⟨(((B53 w g s.size).mono (by simp [B3, Res.foot, G4])).ks fun _ => B0n _ hb), by simp, by simp, .nil⟩)
end
theorem B6r (w : World) (b : Nat) (T : TypeId) (a : Option Addr) (v : Value) (n : Nat) (xs : List Value) (s : ByteArray) (hn : n = s.size) (hx : xs = E1 s) (hs0 : 0 < s.size) (hs : s.size < 2 ^ 40) (hw : LW false (B3 (Bd b T a v n xs)) w (Bd b T a v n xs) w) :
  Fn PR B5 96 #[.pointer (some ⟨b, 0, none⟩)] w (Rn (B3 (Bd b T a v n xs)) w (fun (_ : Unit) u => u = .string s) fun _ => []) := by
 subst hn hx
 refine A1x (TW.goH (κ := false) (S := B3 (Bd b T a v s.size (E1 s))) ?_ hw)
 unfold k5
 refine x9 (e := 5) (k := 1) (v := v) (q := s.size) (xs := E1 s) (by simp) hs0 fun g c hv => ?_
 subst hv
 (have zz:=trivial;repeat((first|clear zz|with_reducible first|refine A3 ?_|refine A5 fun _=>?_|refine A4 fun _=>?_);try simp(disch:=first|omega|assumption|((repeat(first|exact A1|exact uH|apply A2|apply uT));first|done|fail)|(simp;first|done|omega|fail))[]))
 refine C3Q (e := 5) (k := 1) (xs := E1 s) (by (repeat constructor)) hs0 ?_
 (have zz:=trivial;repeat((first|clear zz|with_reducible first|refine A3 ?_|refine A5 fun _=>?_|refine A4 fun _=>?_);try simp(disch:=first|omega|assumption|((repeat(first|exact A1|exact uH|apply A2|apply uT));first|done|fail)|(simp;first|done|omega|fail))[]))
 refine C1M (by (repeat constructor)) hs0 hs ?_
 (have zz:=trivial;repeat((first|clear zz|with_reducible first|refine A3 ?_|refine A5 fun _=>?_|refine A4 fun _=>?_);try simp(disch:=first|omega|assumption|((repeat(first|exact A1|exact uH|apply A2|apply uT));first|done|fail)|(simp;first|done|omega|fail))[]))
 exact D4 () rfl .nil
end Go.Proofs.YtpbmephflllolaaGreat
namespace Go.Proofs.YtpbmephflllolaaGreat
open Go
set_option linter.unusedVariables false
theorem Fn.of_calls {P : Program} {X : Nat → Prop} {f : FuncId} {args : Array Value} {w : World} {v : Value} (h : Calls P f args w fun e w' => e = .returned v ∧ RowKit.Below w.heap.size w w') : Fn P X f args w (fun u w' => u = v ∧ C4 [] w w') :=
 Calls.mono h fun e w' ⟨he, hb⟩ => ⟨v, he, ⟨rfl, hb.size, fun r o _ e => (hb.block r (G3 e)).trans e⟩, hb.size, fun r d e => (hb.block r (G3 (w := w) e)).trans e, fun r lo _ e => (hb.block r (G3 (w := w) e)).trans e, hb.os, hb.output⟩
theorem B9A : Go.Proofs.Builder.Extra Tryz.prog Tryz.lays105_ren where
 sizeBuilder := by kernel_rfl
 liesBuilder := by kernel_rfl
 t5 := Tryz.lays105.t5
 a5 := Tryz.lays105.a5
 z5 := Tryz.lays105.z5
 v5 := Tryz.lays105.v5
 infoByte := by kernel_rfl
 cellsByte := by kernel_rfl
 sizeByte := by kernel_rfl
 neB5 := by decide
def A0p (s : ByteArray) (c : Nat) : ByteArray := ⟨(Lib.repeatL s.data.toList c).toArray⟩
theorem B0l (w : World) (s : ByteArray) (c : Nat) (hc : c < 2 ^ 62) (hs : s.size * c ≤ 140737488355328) : Fn PR B5 267 #[.string s, .int .i64 (c : Int)] w (fun v w' => v = .string (A0p s c) ∧ C4 [] w w') :=
 Fn.of_calls (Go.Proofs.Any.strings_Repeat Tryz.lays105 B9A s c w (by omega) hs)
end Go.Proofs.YtpbmephflllolaaGreat
