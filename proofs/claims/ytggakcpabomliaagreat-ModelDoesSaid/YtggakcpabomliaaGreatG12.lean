/- The proof of a given statement, a part of it (Std Rep). No condition but what each lemma says. -/
import Derived.Lib.UnsafeStr
import Derived.Lib.AppendStr
import Derived.Test.YtggakcpabomliaaGreatG11
set_option linter.unusedVariables false
set_option linter.unusedSimpArgs false
namespace Go.Proofs.YtggakcpabomliaaGreat
open Go
def F7 (s : ByteArray) : List Value := s.data.toList.map fun b => Value.int .u8 b.toNat
@[simp] theorem A9A (s : ByteArray) : (F7 s).length = s.size := by rw [F7, List.length_map]; rfl
theorem A50 (s : ByteArray) : (F7 s).all plain = true := by
 rw [F7, List.all_map]; exact List.all_eq_true.2 fun _ _ => rfl
theorem C1H (s : ByteArray) : s.data.map (fun b => Value.int .u8 b.toNat) = (F7 s).toArray := by apply Array.toList_inj.1; simp [F7]
theorem B9g {P : Program} {X : Nat → Prop} {K : Value → WP} {w : World} {t u e ty : TypeId} {n1 m1 n2 m2 : Nat} {z1 z2 : Value} {d : TypeDesc} {v : Value} {n : Nat} {xs : List Value} {s : ByteArray} (ht : TI P t (.slice e) n1 m1 z1) (hu : TI P u .string n2 m2 z2)
  (he : TI P e d 1 1 (.int .u8 0)) (hv : P3 w e 1 v n xs) (h63 : n + s.size ≤ 140737488355328)
  (hK : ∀ v' w', P3 w' e 1 v' (n + s.size) (xs ++ F7 s) → C0 (L6 v) w w' → Sk (fun _ => False) w w' → (∀ g ∈ L6 v', g ∈ L6 v ∨ sz w ≤ g) → K v' w') : B1 P X (A7 .append #[t, u] ty [v, .string s]) K w := by
 obtain ⟨i, hi, hsize, hbytes, hzero⟩ := he.info
 have hf := Lib.run_firstCells_string (P := P) (w := w) 1 s
 have hsc : Lib.strCells s = F7 s := by simp [Lib.strCells, F7]
 have hlen : (xs ++ F7 s).length = (n + s.size) * 1 := by rw [List.length_append, hv.1, A9A, Nat.add_mul]; omega
 have grown : ∀ (old : Nat), old < n + s.size → P3 (w.drew.alloc (.cells (xs.toArray ++ (F7 s).toArray ++ Builtin.zeroCells (Value.int .u8 0).cells (grownCap w (n + s.size) old e - (n + s.size))) e)) e 1
   (.slice (some ⟨sz w, 0, none⟩) (n + s.size) (grownCap w (n + s.size) old e)) (n + s.size) (xs ++ F7 s) := by
  intro old ho
  have hge := grownCap_ge w (n + s.size) old e
  refine ⟨hlen, Or.inr ⟨sz w, _, _, rfl, Z2 w.drew _, hge, ?_, ?_⟩⟩
  ·simp only [Array.size_append, List.size_toArray, size_zeroCells, hv.1, A9A, Nat.mul_one]
   simp; omega
  ·simp only [Array.toList_append, List.append_assoc]
   rw [← List.append_assoc, ← hlen]
   exact List.take_left
 have p9 : ∀ (old : Nat), old < n + s.size → (Builtin.append_ #[t, u] ty #[v, .string s]).run P w = .ok (.slice (some ⟨sz w, 0, none⟩) (n + s.size) (grownCap w (n + s.size) old e))
    (w.drew.alloc (.cells (xs.toArray ++ (F7 s).toArray ++ Builtin.zeroCells (Value.int .u8 0).cells (grownCap w (n + s.size) old e - (n + s.size))) e)) → B1 P X (A7 .append #[t, u] ty [v, .string s]) K w := by
  intro old ho hrun
  rw [show (A7 .append #[t, u] ty [v, .string s]) = Builtin.append_ #[t, u] ty #[v, .string s] from rfl, W5 hrun ((Sk.drew X w).trans (Sk.alloc X w.drew _ (Or.inr ⟨_, _, rfl⟩)))]
  exact hK _ _ (grown old ho) (((C0.refl _ w).drew).alloc _) ((Sk.drew _ w).trans (Sk.alloc _ w.drew _ (Or.inr ⟨_, _, rfl⟩))) fun g hg => Or.inr (by simp [L6] at hg; omega)
 rcases hv.2 with ⟨rfl, rfl⟩ | ⟨g, cap, cur, rfl, hb, hc, hcs, htk⟩
 ·have hx0 : xs = [] := List.length_eq_zero_iff.1 (by simpa using hv.1)
  subst hx0
  by_cases hs0 : s.size = 0
  ·have hrun : (Builtin.append_ #[t, u] ty #[.slice none 0 0, .string s]).run P w = .ok (.slice none 0 0) w := by
    have hf0 := hf
    rw [hs0] at hf0
    simp [Builtin.append_, run_underlying ht.und, run_underlying hu.und, sizeOf, typeInfo, hi, Builtin.lenOf, hsize, hf0, hs0]
   rw [show (A7 .append #[t, u] ty [.slice none 0 0, .string s]) = Builtin.append_ #[t, u] ty #[.slice none 0 0, .string s] from rfl, W5 hrun (Sk.refl X w)]
   have hb0 : F7 s = [] := List.length_eq_zero_iff.1 (by simpa using hs0)
   exact hK _ w (by rw [hs0, hb0]; simpa using hv) (C0.refl _ _) (Sk.refl _ _) fun g hg => Or.inl hg
  ·refine p9 0 (by omega) ?_
   have := run_append_nil_string (P := P) (w := w) t u ty e i _ ht.und hu.und hi hzero s (by omega) (by omega) (by rw [hbytes]; omega)
   rw [C1H] at this
   simpa [sz] using this
 ·by_cases hroom : n + s.size ≤ cap
  ·have hfit : n * 1 + (F7 s).length ≤ cur.size := by rw [A9A, ← hcs]; omega
   have hst := j4 (P := P) (o0 := n * 1) (F7 s) 0 w cur hb (by simpa using hfit) (A50 s)
   simp only [Nat.add_zero, Nat.mul_one] at hst
   have hrun : (Builtin.append_ #[t, u] ty #[.slice (some ⟨g, 0, none⟩) n cap, .string s]).run P w = .ok (.slice (some ⟨g, 0, none⟩) (n + s.size) cap) (World.putb w g (.cells (E7 cur n (F7 s)) e (0, 0))) := by
    rw [← hsc] at hst ⊢
    simp [Builtin.append_, run_underlying ht.und, run_underlying hu.und, sizeOf, typeInfo, hi, Builtin.lenOf, hroom, hsize, hf, Addr.add_lit, hst]
   rw [show (A7 .append #[t, u] ty [.slice (some ⟨g, 0, none⟩) n cap, .string s]) = Builtin.append_ #[t, u] ty #[.slice (some ⟨g, 0, none⟩) n cap, .string s] from rfl,
    W5 hrun (Sk.putb X hb)]
   refine hK _ _ ⟨hlen, Or.inr ⟨g, cap, _, rfl, U8 (K1 hb), hroom, by rw [B9]; exact hcs, ?_⟩⟩ (C0.putb (C0.refl _ _) _ (Or.inl (by simp [L6]))) (Sk.putb _ hb) fun g hg => Or.inl hg
   rw [A1b _ _ _ (by simpa using hfit)]
   rw [Nat.mul_one] at htk
   rw [htk, ← hlen]
   exact List.take_left
  ·refine p9 cap (by omega) ?_
   have holds : ∀ j x, xs[j]? = some x → w.cell? ((⟨g, 0, none⟩ : Addr).add j) = some x := fun j x hj => by rw [W6]; exact (P3.row hv).get hj
   have := Lib.run_append_grow_string (P := P) (w := w) t u ty e i _ ht.und hu.und hi hzero ⟨g, 0, none⟩ n cap xs (by rw [hsize]; exact hv.1) holds s (by omega) (by omega) (growslice_fits (by omega) (by rw [hbytes]; omega))
   simpa [sz, hsc] using this
theorem C1F (v : Value) (w : World) : (callFunc 202 #[v]).run PR w = .ok (.value v) w := by
 have h1 : Extern.findNext Tryz.f202 = none := by kernel_rfl
 have h2 : Extern.find Tryz.f202 = some Extern.AbiNoEscape.same := by kernel_rfl
 have h3 : (Tryz.f202.name == "runtime.NumGoroutine") = false := by kernel_rfl
 have h4 : Tryz.f202.body.isNone = true := by kernel_rfl
 have h5 : PR.funcs[202]? = some Tryz.f202 := Tryz.func202
 simp only [callFunc, Sem.run_bind, run_program, Result.andThen_ok, h5, h3, h4, Bool.false_eq_true, if_false, if_true, h1, h2]
 rfl
theorem C4M {κ : Bool} {X : Nat → Prop} {S : List Nat} {w0 : World} {H : List Res} {K : Value → WP} {v : Value} (hK : TW κ S w0 H (K v)) : TW κ S w0 H (B2 PR X 202 [v] K) := fun w hw =>
 Or.inr ⟨v, w, C1F v w, Sk.refl _ _, hK w hw⟩
section
variable {κ : Bool} {X : Nat → Prop} {S : List Nat} {w0 : World} {H Hr : List Res} {K : Value → WP}
theorem B02 {w : World} {b : Nat} {c : Array Value} {T : TypeId} {f : Nat × Nat} (h : bl w b = some (.cells c T f)) : w.shape? b = some (T, c.size) := by
 have h' : w.heap[b]? = some (.cells c T f) := h
 simp [World.shape?, h']
theorem B8d {b : Nat} {c : Array Value} {T : TypeId} {f : Nat × Nat} (hm : Res.pt b (.cells c T f) ∈ H) (hc : 0 < c.size)
  (hK : TW κ S w0 H (K (.pointer (some ⟨b, 0, none⟩)))) : TW κ S w0 H (A6 PR (convert 217 291 (.pointer (some ⟨b, 0, none⟩))) K) := B13 hK fun w hw => by
 have hs := B02 (hw.pt hm)
 refine T0 ?_ K
 have h1 : (underlying 217).run PR w = .ok (.pointer 220) w := run_underlying (by kernel_rfl) _
 have h2 : (underlying 291).run PR w = .ok .unsafePointer w := run_underlying (by kernel_rfl) _
 have h3 : (sizeOf 220).run PR w = .ok 2 w := A9M.run_size
 have hc' : ¬ (c.size = 0) := by omega
 simp [convert, Conv.unsafePointer, h1, h2, Conv.seenAt, viewAt, cellsIn, hs, h3, hc']
theorem B8k {b : Nat} {c : Array Value} {T : TypeId} {f : Nat × Nat} (hm : Res.pt b (.cells c T f) ∈ H) (hl : liesAt PR PR.depth T (c.size / PR.cellsOf T) 0 220 1 = true)
  (hK : TW κ S w0 H (K (.pointer (some ⟨b, 0, none⟩)))) : TW κ S w0 H (A6 PR (convert 291 217 (.pointer (some ⟨b, 0, none⟩))) K) := B13 hK fun w hw => by
 have hs := B02 (hw.pt hm)
 refine T0 ?_ K
 have h1 : (underlying 217).run PR w = .ok (.pointer 220) w := run_underlying (by kernel_rfl) _
 have h2 : (underlying 291).run PR w = .ok .unsafePointer w := run_underlying (by kernel_rfl) _
 have h3 : (sizeOf 220).run PR w = .ok 2 w := A9M.run_size
 simp [convert, Conv.unsafePointer, h1, h2, Conv.seenAt, viewAt, variablesAt, hs, h3, hl]
theorem C42 {ty : TypeId} {v : Value} {s : ByteArray} {q : Nat} {xs : List Value} (hs : Sel (.own 5 1 v q xs) H Hr) (h63 : q + s.size ≤ 140737488355328)
  (hK : ∀ a c, TW κ S w0 (.own 5 1 (.slice a (q + s.size) c) (q + s.size) (xs ++ F7 s) :: Hr) (K (.slice a (q + s.size) c))) : TW κ S w0 H (B1 PR X (A7 .append #[218, 9] ty [v, .string s]) K) := by
 refine TW.perm ?_ hs.perm
 intro w hw
 refine B9g A3B a6 ty5 (hw.hold _ A0) h63 fun v' w' ho hb hsk hg => ?_
 refine C0b hK v' w' (hw.up .here ⟨hb.ks fun _ => hsk, by simpa [Res.holds] using ho, ?_, by simp⟩)
 simp only [List.mem_singleton, forall_eq]
 intro b hb'
 refine ⟨hg b hb', ?_⟩
 rcases ho.2 with ⟨rfl, _⟩ | ⟨g', cap', cur, rfl, h1, _⟩
 ·simp [Res.foot, L6] at hb'
 ·simp [Res.foot, L6] at hb'; subst hb'; exact K1 h1
end
theorem C2k {P : Program} {t u : TypeId} {n m n2 m2 : Nat} {z z2 : Value} {d2 : TypeDesc} {a : Addr} {e : Nat} (h : TI P t (.pointer u) n m z) (hu : TI P u d2 (n2 + 1) m2 z2) : EqV P (e + 1) t (.pointer (some a)) (.pointer (some a)) true := by
 intro w
 have h4 : (sameAddr a a).run P w = .ok true w := by simp only [sameAddr, beq_self_eq_true, if_true]; rfl
 simp only [Op.equalIn, Sem.run_bind, h.run_und, Result.andThen_ok, hu.run_size, ne_eq, Nat.add_one_ne_zero, not_false_eq_true, if_true]
 exact h4
theorem B9P {a : Addr} {x y : Operand} {K : Value → WP} : A6 PR (N2 .neq 217 x y (.pointer (some a)) (.pointer (some a))) K = K (.bool false) := by
 funext w
 refine T0 ?_ K
 have he : (Op.equalIn 10000 217 (.pointer (some a)) (.pointer (some a))).run PR w = .ok true w := C2k (e := 9999) B4Y A9M w
 have h1 : (eqGuard .neq 217 x y (.pointer (some a)) (.pointer (some a))).run PR w = .ok () w := by simp [eqGuard]
 simp [N2, h1, binOp, Op.equal, Op.maxDepth, he]
theorem B6D (w : World) (b : Nat) (T : TypeId) (a : Option Addr) (v : Value) (ha : a = none ∨ a = some ⟨b, 0, none⟩) (hl : liesAt PR PR.depth T (2 / PR.cellsOf T) 0 220 1 = true)
  (hw : LW false [b] w [.pt b (.cells #[.pointer a, v] T)] w) : Fn PR B5 183 #[.pointer (some ⟨b, 0, none⟩)] w (Rn [b] w (fun (_ : Unit) u => u = .tuple #[]) fun _ => [.pt b (.cells #[.pointer (some ⟨b, 0, none⟩), v] T)]) := by
 refine A17 (TW.goH (κ := false) (S := [b]) ?_ hw)
 unfold j3
 rcases ha with rfl | rfl
 ·(have hQq := trivial; repeat ((first | clear hQq | (with_reducible first | refine A3 ?_ | refine A4 fun _ => ?_ | refine A5 fun _ => ?_)); (try simp (disch := first | omega | assumption | ((repeat (first | exact A0 | exact Up.here | apply A1 | apply Up.there)); first | done | fail) | (simp; first | done | omega | fail)) [])))
  refine B8d (c := #[.pointer none, v]) (T := T) (f := (0, 0)) (by ((repeat (first | exact A0 | exact Up.here | exact Sel.here | apply A1 | apply Up.there | apply Sel.there)); first | done | fail)) (by simp) ?_
  refine C4M ?_
  refine B8k (c := #[.pointer none, v]) (T := T) (f := (0, 0)) (by ((repeat (first | exact A0 | exact Up.here | exact Sel.here | apply A1 | apply Up.there | apply Sel.there)); first | done | fail)) hl ?_
  (have hQq := trivial; repeat ((first | clear hQq | (with_reducible first | refine A3 ?_ | refine A4 fun _ => ?_ | refine A5 fun _ => ?_)); (try simp (disch := first | omega | assumption | ((repeat (first | exact A0 | exact Up.here | apply A1 | apply Up.there)); first | done | fail) | (simp; first | done | omega | fail)) [])))
  exact g6 () rfl (by simp)
 ·(have hQq := trivial; repeat ((first | clear hQq | (with_reducible first | refine A3 ?_ | refine A4 fun _ => ?_ | refine A5 fun _ => ?_)); (try simp (disch := first | omega | assumption | ((repeat (first | exact A0 | exact Up.here | apply A1 | apply Up.there)); first | done | fail) | (simp; first | done | omega | fail)) [B9P])))
  exact g6 () rfl (by simp)
abbrev Bd (b : Nat) (T : TypeId) (a : Option Addr) (v : Value) (n : Nat) (xs : List Value) : List Res := [.pt b (.cells #[.pointer a, v] T), .own 5 1 v n xs]
theorem A1S (s t : ByteArray) : F7 (s ++ t) = F7 s ++ F7 t := by simp [F7]
theorem u7 (w : World) (b : Nat) (T : TypeId) (a : Option Addr) (v : Value) (n : Nat) (xs : List Value) (t : ByteArray) (ha : a = none ∨ a = some ⟨b, 0, none⟩) (hl : liesAt PR PR.depth T (2 / PR.cellsOf T) 0 220 1 = true)
  (hst : n + t.size < 2 ^ 40) (hw : LW false (E2 (Bd b T a v n xs)) w (Bd b T a v n xs) w) : Fn PR B5 148 #[.pointer (some ⟨b, 0, none⟩), .string t] w
   (Rn (E2 (Bd b T a v n xs)) w (fun (_ : Value) u => u = .tuple #[.int .i64 t.size, .nilIface]) fun v' => Bd b T (some ⟨b, 0, none⟩) v' (n + t.size) (xs ++ F7 t)) := by
 refine A1m (TW.goH (κ := false) (S := E2 (Bd b T a v n xs)) ?_ hw)
 unfold Z7
 refine B1c (Hc := [.pt b (.cells #[.pointer a, v] T)]) (Hk := [.own 5 1 v n xs]) A1v (by rfl) (fun w' hw' => B6D w' b T a v ha hl (LW.self (LW.sub (H' := [.pt b (.cells #[.pointer a, v] T)]) hw' (by simp)))) ?_
 rintro _ _ rfl
 simp only [List.cons_append, List.nil_append]
 (have hQq := trivial; repeat ((first | clear hQq | (with_reducible first | refine A3 ?_ | refine A4 fun _ => ?_ | refine A5 fun _ => ?_)); (try simp (disch := first | omega | assumption | ((repeat (first | exact A0 | exact Up.here | apply A1 | apply Up.there)); first | done | fail) | (simp; first | done | omega | fail)) [])))
 refine C42 (by ((repeat (first | exact A0 | exact Up.here | exact Sel.here | apply A1 | apply Up.there | apply Sel.there)); first | done | fail)) (by omega) fun a' c' => ?_
 (have hQq := trivial; repeat ((first | clear hQq | (with_reducible first | refine A3 ?_ | refine A4 fun _ => ?_ | refine A5 fun _ => ?_)); (try simp (disch := first | omega | assumption | ((repeat (first | exact A0 | exact Up.here | apply A1 | apply Up.there)); first | done | fail) | (simp; first | done | omega | fail)) [])))
 exact C6 (.slice a' (n + t.size) c') rfl (by simp only [Bd]; ((repeat (first | exact Sels.nil | (apply Sels.cons; · ((repeat (first | exact A0 | exact Up.here | exact Sel.here | apply A1 | apply Up.there | apply Sel.there)); first | done | fail)))); first | done | fail))
theorem B3f (w : World) (g n r : Nat) (h : r ≠ g) : bl (w.freeze ⟨g, 0, none⟩ n) r = bl w r := by
 unfold World.freeze bl; split
 ·rfl
 ·simp [Array.getElem?_modify, Ne.symm h]
theorem B3W (w : World) (g n : Nat) : sz (w.freeze ⟨g, 0, none⟩ n) = sz w := by
 unfold World.freeze sz; split <;> simp
theorem B8D (w : World) (g n : Nat) : C0 [g] w (w.freeze ⟨g, 0, none⟩ n) :=
 ⟨by rw [B3W]; exact Nat.le_refl _, fun r o hr e => by rw [B3f _ _ _ _ (by simpa using hr)]; exact e⟩
theorem B3d {w : World} {g n : Nat} {c : Array Value} {T : TypeId} {f : Nat × Nat} (X : Nat → Prop) (h : bl w g = some (.cells c T f)) : Sk X w (w.freeze ⟨g, 0, none⟩ n) := by
 have h2 : ∀ (r : Nat) x, (∀ c T z, x ≠ Obj.cells c T z) → w.heap[r]? = some x → (w.freeze ⟨g, 0, none⟩ n).heap[r]? = some x := fun r x hx e => by
  have : r ≠ g := by rintro rfl; rw [bl, e] at h; cases h; exact hx _ _ _ rfl
  exact (B3f w g n r this).trans e
 refine ⟨by have := B3W w g n; simp only [sz] at this; omega, fun r d => h2 r _ (by simp), fun r lo _ => h2 r _ (by simp), ?_, ?_⟩
 ·unfold World.freeze; split <;> rfl
 ·unfold World.freeze; split <;> rfl
section
variable {κ : Bool} {X : Nat → Prop} {S : List Nat} {w0 : World} {H Hr : List Res} {K : Value → WP}
theorem C7V {ty e : TypeId} {k q c g : Nat} {xs : List Value} (hm : Res.own e k (.slice (some ⟨g, 0, none⟩) q c) q xs ∈ H) (hq : 0 < q) (hK : TW κ S w0 H (K (.pointer (some ⟨g, 0, none⟩)))) :
  TW κ S w0 H (B1 PR X (A7 .unsafeSliceData #[218] ty [.slice (some ⟨g, 0, none⟩) q c]) K) := fun w hw => by
 have ho : P3 w e k (.slice (some ⟨g, 0, none⟩) q c) q xs := hw.hold _ hm
 rcases ho.2 with ⟨h1, _⟩ | ⟨g', c', cur, h1, hb, hc, hcs, _⟩
 ·cases h1
 cases h1
 have hrun : (A7 .unsafeSliceData #[218] ty [.slice (some ⟨g, 0, none⟩) q c]).run PR w = .ok (.pointer (some ⟨g, 0, none⟩)) w := Lib.run_unsafeSliceData_row (P := PR) (w := w) #[218] ty ⟨g, 0, none⟩ q c (by omega)
 rw [W5 hrun (Sk.refl _ _)]
 exact hK w hw
theorem C5A {ty : TypeId} {c g : Nat} {s : ByteArray} (hs : Sel (.own 5 1 (.slice (some ⟨g, 0, none⟩) s.size c) s.size (F7 s)) H Hr) (h0 : 0 < s.size) (h1 : s.size < 2 ^ 40) (hK : TW κ S w0 Hr (K (.string s))) :
  TW κ S w0 H (B1 PR X (A7 .unsafeString #[266, 3] ty [.pointer (some ⟨g, 0, none⟩), .int .i64 s.size]) K) := fun w hw => by
 have hw2 := hw.perm hs.perm
 have ho : P3 w 5 1 (.slice (some ⟨g, 0, none⟩) s.size c) s.size (F7 s) := hw2.hold _ A0
 have hrow := P3.row ho
 rcases ho.2 with ⟨h1, _⟩ | ⟨g', c', cur, h1, hb, hc, hcs, _⟩
 ·cases h1
 cases h1
 have hlen : s.data.toList.length = s.size := by rfl
 have hrun := Lib.run_unsafeString_row (P := PR) (w := w) 266 3 ty 5 (by kernel_rfl) (by kernel_rfl) g cur.size (B02 hb) s.data.toList (by intro h; rw [h] at hlen; simp at hlen; omega) (by rw [hlen, ← hcs]; omega) (by rw [hlen]; omega)
  (fun j x hj => by rw [W6]; exact hrow.get (by simp [F7, hj]))
 rw [hlen] at hrun
 have e : A7 .unsafeString #[266, 3] ty [.pointer (some ⟨g, 0, none⟩), .int .i64 s.size] = Builtin.unsafeString_ #[266, 3] ty #[.pointer (some ⟨g, 0, none⟩), .int .i64 s.size] := rfl
 rw [e, W5 hrun (B3d X hb)]
 refine hK _ (hw2.part (Hc := [_]) (Hn := []) ⟨(((B8D w g s.size).mono (by simp [E2, Res.foot, L6])).ks fun _ => B3d _ hb), by simp, by simp, .nil⟩)
end
theorem B90 (w : World) (b : Nat) (T : TypeId) (a : Option Addr) (v : Value) (n : Nat) (xs : List Value) (s : ByteArray) (hn : n = s.size) (hx : xs = F7 s) (hs0 : 0 < s.size) (hs : s.size < 2 ^ 40) (hw : LW false (E2 (Bd b T a v n xs)) w (Bd b T a v n xs) w) :
  Fn PR B5 149 #[.pointer (some ⟨b, 0, none⟩)] w (Rn (E2 (Bd b T a v n xs)) w (fun (_ : Unit) u => u = .string s) fun _ => []) := by
 subst hn hx
 refine A3C (TW.goH (κ := false) (S := E2 (Bd b T a v s.size (F7 s))) ?_ hw)
 unfold p7
 refine A1T (e := 5) (k := 1) (v := v) (q := s.size) (xs := F7 s) (by simp) hs0 fun g c hv => ?_
 subst hv
 (have hQq := trivial; repeat ((first | clear hQq | (with_reducible first | refine A3 ?_ | refine A4 fun _ => ?_ | refine A5 fun _ => ?_)); (try simp (disch := first | omega | assumption | ((repeat (first | exact A0 | exact Up.here | apply A1 | apply Up.there)); first | done | fail) | (simp; first | done | omega | fail)) [])))
 refine C7V (e := 5) (k := 1) (xs := F7 s) (by ((repeat (first | exact A0 | exact Up.here | exact Sel.here | apply A1 | apply Up.there | apply Sel.there)); first | done | fail)) hs0 ?_
 (have hQq := trivial; repeat ((first | clear hQq | (with_reducible first | refine A3 ?_ | refine A4 fun _ => ?_ | refine A5 fun _ => ?_)); (try simp (disch := first | omega | assumption | ((repeat (first | exact A0 | exact Up.here | apply A1 | apply Up.there)); first | done | fail) | (simp; first | done | omega | fail)) [])))
 refine C5A (by ((repeat (first | exact A0 | exact Up.here | exact Sel.here | apply A1 | apply Up.there | apply Sel.there)); first | done | fail)) hs0 hs ?_
 (have hQq := trivial; repeat ((first | clear hQq | (with_reducible first | refine A3 ?_ | refine A4 fun _ => ?_ | refine A5 fun _ => ?_)); (try simp (disch := first | omega | assumption | ((repeat (first | exact A0 | exact Up.here | apply A1 | apply Up.there)); first | done | fail) | (simp; first | done | omega | fail)) [])))
 exact C6 () rfl .nil
end Go.Proofs.YtggakcpabomliaaGreat
namespace Go.Proofs.YtggakcpabomliaaGreat
open Go
set_option linter.unusedVariables false
theorem Fn.of_calls {P : Program} {X : Nat → Prop} {f : FuncId} {args : Array Value} {w : World} {v : Value} (h : Calls P f args w fun e w' => e = .returned v ∧ RowKit.Below w.heap.size w w') : Fn P X f args w (fun u w' => u = v ∧ C0 [] w w') :=
 Calls.mono h fun e w' ⟨he, hb⟩ => ⟨v, he, ⟨rfl, hb.size, fun r o _ e => (hb.block r (K1 e)).trans e⟩, hb.size, fun r d e => (hb.block r (K1 (w := w) e)).trans e, fun r lo _ e => (hb.block r (K1 (w := w) e)).trans e, hb.os, hb.output⟩
theorem C1v : Go.Proofs.Builder.Extra Tryz.prog Tryz.lays105_ren where
 sizeBuilder := by kernel_rfl
 liesBuilder := by kernel_rfl
 t5 := Tryz.lays105.t5
 a5 := Tryz.lays105.a5
 z5 := Tryz.lays105.z5
 v5 := Tryz.lays105.v5
 infoByte := by kernel_rfl
 cellsByte := by kernel_rfl
 sizeByte := by kernel_rfl
 neB5 := by decide
def P7 (s : ByteArray) (c : Nat) : ByteArray := ⟨(Lib.repeatL s.data.toList c).toArray⟩
theorem B3n (w : World) (s : ByteArray) (c : Nat) (hc : c < 2 ^ 62) (hs : s.size * c ≤ 140737488355328) : Fn PR B5 255 #[.string s, .int .i64 (c : Int)] w (fun v w' => v = .string (P7 s c) ∧ C0 [] w w') :=
 Fn.of_calls (Go.Proofs.Any.strings_Repeat Tryz.lays105 C1v s c w (by omega) hs)
end Go.Proofs.YtggakcpabomliaaGreat
