/- The proof of a given statement, a part of it (Str Heap Heap2 ShPool ShPacket ShPort). No condition but what each lemma says. -/
import Derived.Laws.BytesString
import Derived.Test.YtpbmephflllolaaGreatE6
set_option linter.unusedVariables false
set_option linter.unusedSimpArgs false
namespace Go.Proofs.YtpbmephflllolaaGreat
open Go
section
variable {P : Program} {t : TypeId} {n m : Nat} {z : Value} {K : Value → WP}
@[simp] theorem C62 (a b : ByteArray) : A0 P (binOp .eql t (.string a) (.string b)) K = K (.bool (a == b)) := E6 (fun w => by simp [binOp, Op.stringOp, beq_toListBytes]) K
theorem T7 {a b : ByteArray} (h : a.size + b.size ≤ 9223372036854775807) : A0 P (binOp .add t (.string a) (.string b)) K = K (.string (a ++ b)) := E6 (fun w => by
 have : ¬ (((a.size + b.size : Nat) : Int) > IntKind.i64.max) := by simp [IntKind.max, IntKind.bits, IntKind.signed]; omega
 simp only [binOp, Op.stringOp, if_neg this, Sem.run_pure]) K
theorem B9J (h : TI P t .string n m z) {k1 k2 : IntKind} {lo hi : Int} {s : ByteArray} (h0 : 0 ≤ lo) (h1 : lo ≤ hi) (h2 : hi ≤ s.size) :
  A0 P (Instr.sliceAt t (.string s) (some (.int k1 lo)) (some (.int k2 hi)) none) K = K (.string (s.extract lo.toNat hi.toNat)) :=
 E6 (fun w => by
  have h3 : 0 ≤ hi := by omega
  have h4 : lo ≤ (hi.toNat : Int) := by omega
  simp [Instr.sliceAt, h.run_und, Instr.slice, Instr.sliceBounds, Instr.sliceBound, asIntOf, h0, h2, h3, h4]
  intro h5; omega) K
theorem B7q (h : TI P t .string n m z) {k1 : IntKind} {lo : Int} {s : ByteArray} (h0 : 0 ≤ lo) (h1 : lo ≤ s.size) :
  A0 P (Instr.sliceAt t (.string s) (some (.int k1 lo)) none none) K = K (.string (s.extract lo.toNat s.size)) :=
 E6 (fun w => by
  simp [Instr.sliceAt, h.run_und, Instr.slice, Instr.sliceBounds, Instr.sliceBound, asIntOf, h0, h1]) K
theorem B6S (h : TI P t .string n m z) {k1 : IntKind} {hi : Int} {s : ByteArray} (h0 : 0 ≤ hi) (h1 : hi ≤ s.size) :
  A0 P (Instr.sliceAt t (.string s) none (some (.int k1 hi)) none) K = K (.string (s.extract 0 hi.toNat)) :=
 E6 (fun w => by
  simp [Instr.sliceAt, h.run_und, Instr.slice, Instr.sliceBounds, Instr.sliceBound, asIntOf, h0, h1]) K
theorem B8A (h : TI P t .string n m z) {k1 : IntKind} {i : Int} {s : ByteArray} {b : UInt8} (h0 : 0 ≤ i) (h1 : s[i.toNat]? = some b) :
  A0 P (Instr.index t (.string s) (.int k1 i)) K = K (.int .u8 b.toNat) :=
 E6 (fun w => by
  simp [Instr.index, h.run_und, asIntOf, h0, h1]) K
@[simp] theorem C7L {k j : IntKind} {a y : Int} (h : 0 ≤ y) : A0 P (binOp .shl t (.int k a) (.int j y)) K = K (.int k (k.wrap (a * 2 ^ (min y.toNat k.bits)))) := E6 (fun w => by
 have : ¬ y < 0 := by omega
 simp [binOp, Op.shift, this]) K
@[simp] theorem C7E {k j : IntKind} {a y : Int} (h : 0 ≤ y) : A0 P (binOp .shr t (.int k a) (.int j y)) K = K (.int k (a.fdiv (2 ^ (min y.toNat k.bits)))) := E6 (fun w => by
 have : ¬ y < 0 := by omega
 simp [binOp, Op.shift, this]) K
@[simp] theorem C7U {k : IntKind} {a b : Int} : A0 P (binOp .or t (.int k a) (.int k b)) K = K (.int k (k.wrap (BitVec.ofInt k.bits a ||| BitVec.ofInt k.bits b).toNat)) := E6 (fun w => by simp [binOp, Op.intBits]) K
@[simp] theorem C7B {k : IntKind} {a b : Int} : A0 P (binOp .and t (.int k a) (.int k b)) K = K (.int k (k.wrap (BitVec.ofInt k.bits a &&& BitVec.ofInt k.bits b).toNat)) := E6 (fun w => by simp [binOp, Op.intBits]) K
@[simp] theorem C7M {k : IntKind} {a b : Int} : A0 P (binOp .xor t (.int k a) (.int k b)) K = K (.int k (k.wrap (BitVec.ofInt k.bits a ^^^ BitVec.ofInt k.bits b).toNat)) := E6 (fun w => by simp [binOp, Op.intBits]) K
end
@[simp] theorem A0a {n : Int} (h1 : 0 ≤ n) (h2 : n < 18446744073709551616) : IntKind.u64.wrap n = n := by
 simp [IntKind.wrap, IntKind.bits, IntKind.signed]; omega
theorem C1L {A b e : Nat} (hb : b < 256) : (A * 256 ^ (e + 1)) ||| (b * 256 ^ e) = (A * 256 + b) * 256 ^ e := by
 have h1 : (256 : Nat) ^ e = 2 ^ (8 * e) := by rw [Nat.pow_mul]
 have h2 : (256 : Nat) ^ (e + 1) = 2 ^ (8 * e + 8) := by rw [Nat.pow_succ, h1, Nat.pow_add]
 have hlt : b * 256 ^ e < 2 ^ (8 * e + 8) := by
  rw [← h2, Nat.pow_succ, Nat.mul_comm (256 ^ e)]
  exact Nat.mul_lt_mul_of_pos_right hb (Nat.pow_pos (by omega))
 have h3 := Nat.shiftLeft_add_eq_or_of_lt hlt A
 rw [Nat.shiftLeft_eq, ← h2] at h3
 rw [← h3, Nat.pow_succ, Nat.add_mul]
 congr 1
 rw [Nat.mul_comm (256 ^ e) 256, Nat.mul_assoc]
theorem C0C {A b e : Nat} (hb : b < 256) (hA : (A * 256 + b) * 256 ^ e < 2 ^ 64) (he : e ≤ 7) :
  IntKind.u64.wrap (((((A : Int) * 256 ^ (e + 1)) % 2 ^ IntKind.u64.bits).toNat ||| (IntKind.u64.wrap ((b : Int) * 2 ^ min (8 * e) IntKind.u64.bits) % 2 ^ IntKind.u64.bits).toNat : Nat) : Int) = (((A * 256 + b) * 256 ^ e : Nat) : Int) := by
 have h1 : A * 256 ^ (e + 1) < 2 ^ 64 := by
  refine Nat.lt_of_le_of_lt ?_ hA
  rw [Nat.pow_succ, Nat.mul_comm (256 ^ e) 256, ← Nat.mul_assoc]
  exact Nat.mul_le_mul_right _ (Nat.le_add_right _ _)
 have h2 : b * 256 ^ e < 2 ^ 64 := Nat.lt_of_le_of_lt (Nat.mul_le_mul_right _ (Nat.le_add_left _ _)) hA
 have hbits : IntKind.u64.bits = 64 := rfl
 have e1 : ((A : Int) * 256 ^ (e + 1)) = ((A * 256 ^ (e + 1) : Nat) : Int) := by simp
 have e2 : ((b : Int) * 2 ^ min (8 * e) 64) = ((b * 256 ^ e : Nat) : Int) := by
  rw [Nat.min_eq_left (by omega), Int.pow_mul]; simp
 have e3 : IntKind.u64.wrap ((b * 256 ^ e : Nat) : Int) = ((b * 256 ^ e : Nat) : Int) := A0a (by omega) (by omega)
 have e4 : ((A * 256 ^ (e + 1) : Nat) : Int) % 2 ^ 64 = ((A * 256 ^ (e + 1) : Nat) : Int) := Int.emod_eq_of_lt (by omega) (by omega)
 have e5 : ((b * 256 ^ e : Nat) : Int) % 2 ^ 64 = ((b * 256 ^ e : Nat) : Int) := Int.emod_eq_of_lt (by omega) (by omega)
 rw [hbits, e1, e2, e3, e4, e5, Int.toNat_natCast, Int.toNat_natCast, C1L hb]
 exact A0a (by omega) (by omega)
def x3 (ns : List Int) : ByteArray := ns.foldl (fun r n => r.push (UInt8.ofNat n.toNat)) ByteArray.empty
theorem C3C {P : Program} {t u e : TypeId} {n1 m1 n2 m2 n3 m3 : Nat} {z1 z2 z3 : Value} {K : Value → WP} {w : World} (h : TI P t (.slice e) n1 m1 z1) (he : TI P e (.int .u8) n2 m2 z2) (hd : TI P u .string n3 m3 z3)
  {b o cap : Nat} {ns : List Int} (hr : K8 w b o (ns.map (Value.int .u8))) : A6 P (convert t u (.slice (some ⟨b, o, none⟩) ns.length cap)) K w = K (.string (x3 ns)) w := by
 refine S5 ?_ K
 have h1 : (loadCells ⟨b, o, none⟩ ns.length).run P w = .ok (ns.map (Value.int .u8)).toArray w := by
  have := run_loadCells_list (P := P) w ⟨b, o, none⟩ (ns.map (Value.int .u8)) (fun j v hj => by rw [Y3]; exact hr.get hj)
  simpa using this
 simp only [convert, Sem.run_bind, h.run_und, hd.run_und, he.run_und, Result.andThen_ok]
 exact run_bytesToString w ⟨b, o, none⟩ ns.length cap ns h1
end Go.Proofs.YtpbmephflllolaaGreat
namespace Go.Proofs.YtpbmephflllolaaGreat
open Go
def B20 : Obj → Bool
 | .loop _ | .deferred _ => false
 | _ => true
def KS (κ : Bool) (S : List Nat) (a b : World) : Prop := sz a ≤ sz b ∧ (∀ r o, r ∉ S → B20 o = true → bl a r = some o → bl b r = some o) ∧ (κ = true → Sk B5 a b)
section
variable {κ : Bool}
theorem KS.refl (S : List Nat) (w : World) : KS κ S w w := ⟨Nat.le_refl _, fun _ _ _ _ h => h, fun _ => Sk.refl _ _⟩
theorem KS.trans {S : List Nat} {a b c : World} (h : KS κ S a b) (h' : KS κ S b c) : KS κ S a c := ⟨Nat.le_trans h.1 h'.1, fun r o n hh e => h'.2.1 r o n hh (h.2.1 r o n hh e), fun k => (h.2.2 k).trans (h'.2.2 k)⟩
theorem KS.mono {S S' : List Nat} {a b : World} (h : KS κ S a b) (hs : ∀ x ∈ S, x ∈ S') : KS κ S' a b := ⟨h.1, fun r o n hh e => h.2.1 r o (fun x => n (hs r x)) hh e, h.2.2⟩
theorem KS.low {S : List Nat} {a b : World} (h : KS κ S a b) : KS false S a b := ⟨h.1, h.2.1, fun k => by cases k⟩
theorem KS.up {S : List Nat} {a b : World} (h : KS false S a b) (hs : κ = true → Sk B5 a b) : KS κ S a b := ⟨h.1, h.2.1, hs⟩
theorem KS.then {S S' : List Nat} {a b c : World} (h : KS κ S a b) (h' : KS κ S' b c) (hs : ∀ x ∈ S', x ∈ S ∨ sz a ≤ x) : KS κ S a c :=
 ⟨Nat.le_trans h.1 h'.1, fun r o n hh e => h'.2.1 r o (fun x => (hs r x).elim n fun h2 => by have := G3 e; omega) hh (h.2.1 r o n hh e), fun k => (h.2.2 k).trans (h'.2.2 k)⟩
theorem C4.ks {S : List Nat} {a b : World} (h : C4 S a b) (hs : κ = true → Sk B5 a b) : KS κ S a b := ⟨h.1, fun r o n _ e => h.2 r o n e, hs⟩
theorem j1.ks {S : List Nat} {a b : World} (h : j1 a b) : KS false S a b := ⟨Nat.le_of_eq h.1.symm, fun r o _ hh e => by
 have := h.2 r (by intro lo hl; have e' : some o = some (Obj.loop lo) := e.symm.trans hl; cases e'; cases hh)
 exact this.trans e, fun k => by cases k⟩
theorem U0.ks {S : List Nat} {a b : World} (h : U0 a b) : KS false S a b := ⟨Nat.le_of_eq h.1.symm, fun r o _ hh e => by
 have := h.2 r (by intro lo hl; have e' : some o = some (Obj.deferred lo) := e.symm.trans hl; cases e'; cases hh)
 exact this.trans e, fun k => by cases k⟩
theorem Z7.ks {S : List Nat} {a b : World} (h : Z7 a b) : KS false S a b := ⟨h.1, fun r o _ _ e => h.2 r o e, fun k => by cases k⟩
theorem KS.drew {S : List Nat} (a : World) : KS κ S a a.drew := ⟨Nat.le_refl _, fun _ _ _ _ h => h, fun _ => Sk.drew _ _⟩
theorem KS.alloc {S : List Nat} (a : World) (o : Obj) (ho : soft (some o) = true ∨ ∃ c t, o = .cells c t (0, 0)) : KS κ S a (a.alloc o) := ((C4.refl S a).alloc o).ks fun _ => Sk.alloc _ _ _ ho
theorem KS.putb {S : List Nat} {a : World} {b : Nat} {c c' : Array Value} {T T' : TypeId} {f : Nat × Nat} (hb : bl a b = some (.cells c T f)) (h : b ∈ S) : KS κ S a (World.putb a b (.cells c' T' f)) := ((C4.refl S a).putb _ (Or.inl h)).ks fun _ => Sk.putb _ hb
theorem KS.extD {a b : World} (h : KS κ [] a b) : A1Q a b := ⟨h.1, fun r o e n m => h.2.1 r o (by simp) (by cases o <;> first | rfl | exact absurd rfl (n _) | exact absurd rfl (m _)) e⟩
theorem KS.cell {S : List Nat} {a b : World} (h : KS κ S a b) {r o : Nat} {v : Value} (n : r ∉ S) (e : a.cell? ⟨r, o, none⟩ = some v) : b.cell? ⟨r, o, none⟩ = some v := by
 obtain ⟨c, t, z, h1, h2⟩ := e9 e
 rw [G7 (h.2.1 _ _ n rfl h1)]; exact h2
theorem KS.row {S : List Nat} {a b : World} (h : KS κ S a b) {r o : Nat} {l : List Value} (n : r ∉ S) (e : K8 a r o l) : K8 b r o l := by
 intro i hi
 have h1 : a.cell? ⟨r, o + i, none⟩ = some l[i] := by rw [e i hi]; exact List.getElem?_eq_getElem hi
 rw [h.cell n h1]; exact (List.getElem?_eq_getElem hi).symm
end
inductive Res where
 | pt (b : Nat) (o : Obj)
 | own (e : TypeId) (k : Nat) (v : Value) (n : Nat) (xs : List Value)
 | ab (f : List Nat) (p : World → Prop) (st : ∀ w w', (∀ b ∈ f, ∀ o, B20 o = true → bl w b = some o → bl w' b = some o) → p w → p w')
def Res.foot : Res → List Nat
 | .pt b _ => [b]
 | .own _ _ v _ _ => G4 v
 | .ab f _ _ => f
def Res.holds : Res → World → Prop
 | .pt b o, w => bl w b = some o ∧ B20 o = true
 | .own e k v n xs, w => M8 w e k v n xs
 | .ab _ p _, w => p w
theorem Res.stable {r : Res} {w w' : World} (hk : ∀ b ∈ r.foot, ∀ o, B20 o = true → bl w b = some o → bl w' b = some o) (h : r.holds w) : r.holds w' := by
 cases r with
 | pt b o => exact ⟨hk b (by simp [Res.foot]) o h.2 h.1, h.2⟩
 | own e k v n xs =>
  refine ⟨h.1, ?_⟩
  rcases h.2 with h | ⟨g, cap, cur, rfl, h2, h3⟩
  ·exact Or.inl h
  ·exact Or.inr ⟨g, cap, cur, rfl, hk g (by simp [Res.foot, G4]) _ rfl h2, h3⟩
 | ab f p st => exact st _ _ hk h
def B3 (H : List Res) : List Nat := H.flatMap Res.foot
theorem N1 {H : List Res} {b : Nat} : b ∈ B3 H ↔ ∃ r ∈ H, b ∈ r.foot := by simp [B3]
structure LW (κ : Bool) (S : List Nat) (w0 : World) (H : List Res) (w : World) : Prop where
 ks : KS κ S w0 w
 hold : ∀ r ∈ H, r.holds w
 own : ∀ r ∈ H, ∀ b ∈ r.foot, (b ∈ S ∨ sz w0 ≤ b) ∧ b < sz w
 dis : H.Pairwise fun r s => ∀ b ∈ r.foot, b ∉ s.foot
section
variable {κ κ' : Bool} {S S' : List Nat} {w0 w w' : World} {H H' Hn Hk : List Res}
theorem LW.refl (S : List Nat) (w : World) : LW κ S w [] w := ⟨KS.refl _ _, by simp, by simp, .nil⟩
theorem LW.low (h : LW κ S w0 H w) : LW false S w0 H w := ⟨h.ks.low, h.hold, h.own, h.dis⟩
theorem LW.high (h : LW false S w0 H w) (hs : κ = true → Sk B5 w0 w) : LW κ S w0 H w := ⟨h.ks.up hs, h.hold, h.own, h.dis⟩
theorem LW.sub (h : LW κ S w0 H w) (hs : H'.Sublist H) : LW κ S w0 H' w := ⟨h.ks, fun r hr => h.hold r (hs.subset hr), fun r hr => h.own r (hs.subset hr), h.dis.sublist hs⟩
theorem LW.nil (h : LW κ S w0 H w) : LW κ S w0 [] w := h.sub (List.nil_sublist _)
theorem B8c {r s : Res} (h : ∀ b ∈ r.foot, b ∉ s.foot) : ∀ b ∈ s.foot, b ∉ r.foot := fun b hb hr => h b hr hb
theorem LW.perm (h : LW κ S w0 H w) (hp : H.Perm H') : LW κ S w0 H' w :=
 ⟨h.ks, fun r hr => h.hold r (hp.mem_iff.2 hr), fun r hr => h.own r (hp.mem_iff.2 hr), (hp.pairwise_iff fun {a b} => B8c).1 h.dis⟩
theorem LW.self (h : LW κ S w0 H w) : LW κ' (B3 H) w H w := ⟨KS.refl _ _, h.hold, fun r hr b hb => ⟨Or.inl (N1.2 ⟨r, hr, hb⟩), (h.own r hr b hb).2⟩, h.dis⟩
theorem LW.step (h : LW κ S w0 H w) {T : List Nat} (h' : LW κ T w Hn w') (hs : Hk.Sublist H) (hd : ∀ r ∈ Hk, ∀ b ∈ r.foot, b ∉ T) (hT : ∀ b ∈ T, b ∈ S ∨ sz w0 ≤ b) : LW κ S w0 (Hn ++ Hk) w' := by
 have hk := h.sub hs
 refine ⟨h.ks.then h'.ks hT, ?_, ?_, ?_⟩
 ·intro r hr
  rcases List.mem_append.1 hr with hr | hr
  ·exact h'.hold r hr
  ·exact Res.stable (fun b hb o ho e => h'.ks.2.1 b o (hd r hr b hb) ho e) (hk.hold r hr)
 ·intro r hr b hb
  rcases List.mem_append.1 hr with hr | hr
  ·obtain ⟨h1, h2⟩ := h'.own r hr b hb
   refine ⟨?_, h2⟩
   rcases h1 with h1 | h1
   ·exact hT b h1
   ·exact Or.inr (Nat.le_trans h.ks.1 h1)
  ·obtain ⟨h1, h2⟩ := hk.own r hr b hb
   exact ⟨h1, Nat.lt_of_lt_of_le h2 h'.ks.1⟩
 ·refine List.pairwise_append.2 ⟨h'.dis, hk.dis, fun r hr s hs' b hb hb' => ?_⟩
  rcases (h'.own r hr b hb).1 with h1 | h1
  ·exact hd s hs' b hb' h1
  ·have := (hk.own s hs' b hb').2; omega
theorem LW.ext (h : LW κ S w0 H w) (hk : KS κ [] w w') : LW κ S w0 H w' := by
 have := h.step (T := []) (Hn := []) (Hk := H) ⟨hk, by simp, by simp, .nil⟩ (List.Sublist.refl _) (by simp) (by simp)
 simpa using this
theorem LW.part {Hc : List Res} (h : LW κ S w0 (Hc ++ Hk) w) (h' : LW κ (B3 Hc) w Hn w') : LW κ S w0 (Hn ++ Hk) w' := by
 refine h.step h' (List.sublist_append_right _ _) ?_ ?_
 ·intro r hr b hb hbc
  obtain ⟨s, hs, hbs⟩ := N1.1 hbc
  exact (List.pairwise_append.1 h.dis).2.2 s hs r hr b hbs hb
 ·intro b hbc
  obtain ⟨s, hs, hbs⟩ := N1.1 hbc
  exact (h.own s (List.mem_append_left _ hs) b hbs).1
theorem LW.new (h : LW κ S w0 H w) {o : Obj} (ho : B20 o = true) (hs : soft (some o) = true ∨ ∃ c t, o = .cells c t (0, 0)) : LW κ S w0 (.pt (sz w) o :: H) (w.alloc o) := by
 have h1 : LW κ [] w [.pt (sz w) o] (w.alloc o) := ⟨KS.alloc w o hs, by simp [Res.holds, ho], by simp [Res.foot], by simp⟩
 have := h.step h1 (List.Sublist.refl H) (by simp) (by simp)
 simpa using this
theorem LW.newOwn (h : LW κ S w0 H w) {e : TypeId} {k n c l : Nat} {cs : Array Value} {xs : List Value} (hx : M8 (w.alloc (.cells cs e)) e k (.slice (some ⟨sz w, 0, none⟩) l c) n xs) :
  LW κ S w0 (.own e k (.slice (some ⟨sz w, 0, none⟩) l c) n xs :: H) (w.alloc (.cells cs e)) := by
 have h1 : LW κ [] w [.own e k (.slice (some ⟨sz w, 0, none⟩) l c) n xs] (w.alloc (.cells cs e)) := ⟨KS.alloc w _ (Or.inr ⟨_, _, rfl⟩), by simpa [Res.holds] using hx, by simp [Res.foot, G4], by simp⟩
 have := h.step h1 (List.Sublist.refl H) (by simp) (by simp)
 simpa using this
inductive Up (r r' : Res) : List Res → List Res → Prop where
 | here {H : List Res} : Up r r' (r :: H) (r' :: H)
 | there {x : Res} {H H' : List Res} : Up r r' H H' → Up r r' (x :: H) (x :: H')
theorem Up.parts {r r' : Res} (h : Up r r' H H') : ∃ A B, H = A ++ r :: B ∧ H' = A ++ r' :: B := by
 induction h with
 | here => exact ⟨[], _, rfl, rfl⟩
 | there _ ih => obtain ⟨A, B, rfl, rfl⟩ := ih; exact ⟨_ :: A, B, rfl, rfl⟩
theorem LW.up {r r' : Res} (h : LW κ S w0 H w) (hu : Up r r' H H') (h' : LW κ r.foot w [r'] w') : LW κ S w0 H' w' := by
 obtain ⟨A, B, rfl, rfl⟩ := hu.parts
 have hp : (A ++ r :: B).Perm (r :: (A ++ B)) := List.perm_middle
 have h1 := h.perm hp
 have hd := (List.pairwise_cons.1 h1.dis).1
 have := h1.step h' (List.sublist_cons_self r (A ++ B)) (fun s hs b hb hr => hd s hs b hr hb) (fun b hb => (h1.own r (List.mem_cons_self ..) b hb).1)
 exact this.perm (List.perm_middle (l₁ := A) (l₂ := B) (a := r')).symm
end
def TW (κ : Bool) (S : List Nat) (w0 : World) (H : List Res) (K : WP) : Prop := ∀ w, LW κ S w0 H w → K w
section
variable {κ : Bool} {P : Program} {X : Nat → Prop} {S : List Nat} {w0 : World} {H H' : List Res} {K : Value → WP} {K0 : WP} {t : TypeId} {d : TypeDesc} {n m : Nat} {z : Value}
theorem TW.congr {A B : WP} (h : ∀ w, LW κ S w0 H w → A w = B w) : TW κ S w0 H A = TW κ S w0 H B :=
 propext ⟨fun hA w hw => (h w hw) ▸ hA w hw, fun hB w hw => (h w hw).symm ▸ hB w hw⟩
theorem TW.mono {A B : WP} (h : TW κ S w0 H A) (hk : ∀ w, A w → B w) : TW κ S w0 H B := fun w hw => hk w (h w hw)
theorem TW.sub {A : WP} (h : TW κ S w0 H' A) (hs : H'.Sublist H) : TW κ S w0 H A := fun w hw => h w (hw.sub hs)
theorem TW.perm {A : WP} (h : TW κ S w0 H' A) (hs : H.Perm H') : TW κ S w0 H A := fun w hw => h w (hw.perm hs)
theorem TW.go {A : WP} {w : World} (h : TW κ S w [] A) : A w := h w (LW.refl S w)
@[simp] theorem C29 : TW false S w0 H (V5 K0) = TW false S w0 H K0 := propext ⟨fun h w hw => h w hw w (U0.refl w), fun h w hw w' hd => h w' (hw.ext hd.ks)⟩
@[simp] theorem C7Q : TW false S w0 H (bgn K0) = TW false S w0 H K0 := propext ⟨fun h w hw => h w hw w ⟨rfl, fun _ _ => rfl⟩, fun h w hw w' hd => h w' (hw.ext hd.ks)⟩
theorem A3 (h : TW κ S w0 H K0) : TW κ S w0 H (drw K0) := fun w hw => h _ (hw.ext (KS.drew w))
@[simp] theorem C7N (b : Bool) (A B : WP) : TW κ S w0 H (C5 (.bool b) A B) = (if b = true then TW κ S w0 H A else TW κ S w0 H B) := by
 cases b
 ·exact TW.congr fun w _ => by simp
 ·exact TW.congr fun w _ => by simp
@[simp] theorem C4U (b : Bool) (A : (Value → WP) → WP) (F : Value → WP) : TW κ S w0 H (gj (.bool b) true A F) = (if b = true then TW κ S w0 H (A F) else TW κ S w0 H (F undef)) := by cases b <;> rfl
@[simp] theorem C3J (b : Bool) (A : (Value → WP) → WP) (F : Value → WP) : TW κ S w0 H (gj (.bool b) false A F) = (if b = true then TW κ S w0 H (F undef) else TW κ S w0 H (A F)) := by cases b <;> rfl
@[simp] theorem C2z (t : Bool) (A : (Value → WP) → WP) (F : Value → WP) : TW κ S w0 H (gj undef t A F) = TW κ S w0 H (F undef) := rfl
@[simp] theorem C67 (A B : WP) : TW κ S w0 H (both A B) = (TW κ S w0 H A ∧ TW κ S w0 H B) := propext ⟨fun h => ⟨fun w hw => (h w hw).1, fun w hw => (h w hw).2⟩, fun h w hw => ⟨h.1 w hw, h.2 w hw⟩⟩
theorem A9s {s : Sem Value} {v : Value} {l : List Rd} (h : TW κ S w0 H fun w => s.run P w = .ok v w) : TW κ S w0 H (watch P ((none, s, v) :: l) K0) = TW κ S w0 H (watch P l K0) :=
 propext ⟨fun h w hw => (h w hw).2, fun h' w hw => ⟨h w hw, h' w hw⟩⟩
theorem B0U {s : Sem Value} {v : Value} {l : List Rd} {b c : Bool} (h : b = c → TW κ S w0 H fun w => s.run P w = .ok v w) : TW κ S w0 H (watch P ((some (.bool b, c), s, v) :: l) K0) = TW κ S w0 H (watch P l K0) :=
 propext ⟨fun h w hw => (h w hw).2, fun h' w hw => ⟨fun e => h (by simpa using e) w hw, h' w hw⟩⟩
theorem B4e {c : Prop} [Decidable c] {A B : WP} (h1 : c → TW κ S w0 H A) (h2 : ¬ c → TW κ S w0 H B) : if c then TW κ S w0 H A else TW κ S w0 H B := by
 split
 ·exact h1 ‹_›
 ·exact h2 ‹_›
theorem LW.pt {w : World} {b : Nat} {o : Obj} (h : LW κ S w0 H w) (hm : Res.pt b o ∈ H) : bl w b = some o := (h.hold _ hm).1
theorem B91 (h : TI P t d 1 m z) (hd : N2 d = false) {b o : Nat} {c : Array Value} {T : TypeId} {f : Nat × Nat} (hm : Res.pt b (.cells c T f) ∈ H) :
  TW κ S w0 H (A6 P (Instr.loadAt t (.pointer (some ⟨b, o, none⟩))) K) = TW κ S w0 H (rdc c[o]? K (far P t ⟨b, o, none⟩ K)) :=
 TW.congr fun w hw => by rw [B1r h hd, G7 (hw.pt hm)]
theorem B8J (h : TI P t d 1 m z) (hd : N2 d = false) {b o : Nat} {v : Value} (hc : w0.cell? ⟨b, o, none⟩ = some v) (hS : b ∉ S) :
  TW κ S w0 H (A6 P (Instr.loadAt t (.pointer (some ⟨b, o, none⟩))) K) = TW κ S w0 H (K v) :=
 TW.congr fun w hw => by rw [B1r h hd, hw.ks.cell hS hc, A7x]
def V2 (xs : List Value) (o n : Nat) : Option (List Value) := if o + n ≤ xs.length then some ((xs.drop o).take n) else none
theorem A12 {w : World} {b o n : Nat} {l xs : List Value} (h : V2 xs o n = some l) (hr : K8 w b 0 xs) : d4 w b o n = some l := by
 unfold V2 at h
 split at h
 ·cases h
  have : ((xs.drop o).take n).length = n := by simp; omega
  have h2 : K8 w b o ((xs.drop o).take n) := fun i hi => by
   rw [this] at hi
   have := hr (o + i) (by omega)
   rw [Nat.zero_add] at this
   rw [this, List.getElem?_take_of_lt hi, List.getElem?_drop]
  have := A13 h2
  rwa [‹((xs.drop o).take n).length = n›] at this
 ·cases h
theorem K8.bl {w : World} {b : Nat} {c : Array Value} {T : TypeId} {z : Nat × Nat} (h : Go.Proofs.YtpbmephflllolaaGreat.bl w b = some (.cells c T z)) : K8 w b 0 c.toList := fun i hi => by
 rw [Nat.zero_add, G7 h]; simp
theorem B8l (h : TI P t d n m z) (hd : N2 d = true) {b o : Nat} {c : Array Value} {T : TypeId} {f : Nat × Nat} (hm : Res.pt b (.cells c T f) ∈ H) {l : List Value} (hl : V2 c.toList o n = some l) :
  TW κ S w0 H (A6 P (Instr.loadAt t (.pointer (some ⟨b, o, none⟩))) K) = TW κ S w0 H (K (.agg l.toArray)) :=
 TW.congr fun w hw => by rw [B5U h hd, A12 hl (K8.bl (hw.pt hm)), A4b]
theorem B6x (h : TI P t d n m z) (hd : N2 d = true) {b o : Nat} {l : List Value} (hc : d4 w0 b o n = some l) (hS : b ∉ S) :
  TW κ S w0 H (A6 P (Instr.loadAt t (.pointer (some ⟨b, o, none⟩))) K) = TW κ S w0 H (K (.agg l.toArray)) :=
 TW.congr fun w hw => by
  have h2 := A0f hc
  have := A13 (hw.ks.row hS h2.2)
  rw [h2.1] at this
  rw [B5U h hd, this, A4b]
theorem LW.ownr {w : World} {e : TypeId} {k c q : Nat} {g : Nat} {xs : List Value} (h : LW κ S w0 H w) (hm : Res.own e k (.slice (some ⟨g, 0, none⟩) q c) q xs ∈ H) : K8 w g 0 xs := M8.row (h.hold _ hm)
theorem B83 (h : TI P t d 1 m z) (hd : N2 d = false) {g o : Nat} {e : TypeId} {k q c : Nat} {xs : List Value} (hm : Res.own e k (.slice (some ⟨g, 0, none⟩) q c) q xs ∈ H) {v : Value} (hv : xs[o]? = some v) :
  TW κ S w0 H (A6 P (Instr.loadAt t (.pointer (some ⟨g, o, none⟩))) K) = TW κ S w0 H (K v) :=
 TW.congr fun w hw => by
  have := (hw.ownr hm).get hv
  rw [Nat.zero_add] at this
  rw [B1r h hd, this, A7x]
theorem B60 (h : TI P t d n m z) (hd : N2 d = true) {g o : Nat} {e : TypeId} {k q c : Nat} {xs : List Value} (hm : Res.own e k (.slice (some ⟨g, 0, none⟩) q c) q xs ∈ H) {l : List Value} (hl : V2 xs o n = some l) :
  TW κ S w0 H (A6 P (Instr.loadAt t (.pointer (some ⟨g, o, none⟩))) K) = TW κ S w0 H (K (.agg l.toArray)) :=
 TW.congr fun w hw => by rw [B5U h hd, A12 hl (hw.ownr hm), A4b]
theorem C11 (h : TI P t d 1 m z) (hd : N2 d = false) {b o : Nat} {c : Array Value} {T : TypeId} {f : Nat × Nat} (hm : Res.pt b (.cells c T f) ∈ H) {v : Value} (hv : c[o]? = some v) :
  TW κ S w0 H (A6 P (E3 [.c t (.pointer (some ⟨b, o, none⟩))]) K) = TW κ S w0 H (K v) :=
 TW.congr fun w hw => by rw [C1u h hd, G7 (hw.pt hm), hv, A7x]
theorem C16 (h : TI P t d n m z) (hd : N2 d = true) {b o : Nat} {c : Array Value} {T : TypeId} {f : Nat × Nat} (hm : Res.pt b (.cells c T f) ∈ H) {l : List Value} (hl : V2 c.toList o n = some l) :
  TW κ S w0 H (A6 P (E3 [.c t (.pointer (some ⟨b, o, none⟩))]) K) = TW κ S w0 H (K (.agg l.toArray)) :=
 TW.congr fun w hw => by rw [C1q h hd, A12 hl (K8.bl (hw.pt hm)), A4b]
theorem C5d (h : TI P t d n m z) (hK : ∀ b, TW κ S w0 (.pt b (.cells z.cells t) :: H) (K (.pointer (some ⟨b, 0, none⟩)))) : TW κ S w0 H (B1 P X (Instr.alloc t true (.tuple #[])) K) :=
 fun w hw => by rw [C0l h]; exact hK _ _ (hw.new rfl (Or.inr ⟨_, _, rfl⟩))
theorem A5 {v : Value} (hK : ∀ b, TW κ S w0 (.pt b (.cells v.cells t) :: H) (K (.pointer (some ⟨b, 0, none⟩)))) : TW κ S w0 H (B1 P X (Instr.box t v) K) :=
 fun w hw => by rw [B5Y]; exact hK _ _ (hw.new rfl (Or.inr ⟨_, _, rfl⟩))
theorem C5g {e : TypeId} {k by' : Nat} {z' : Value} {k1 k2 : IntKind} {l c : Int} {d' : TypeDesc} {n' m' : Nat} {zz : Value} (ht : TI P t (.slice e) n' m' zz) (he : TI P e d' k by' z') (hz : z'.cells.size = k) (hk : 0 < k)
  (h0 : 0 ≤ l) (h1 : l = c) (hb : c * by' ≤ 140737488355328) (hc : c ≤ 9223372036854775807)
  (hK : ∀ b, TW κ S w0 (.own e k (.slice (some ⟨b, 0, none⟩) l.toNat l.toNat) l.toNat (Builtin.zeroCells z'.cells l.toNat).toList :: H) (K (.slice (some ⟨b, 0, none⟩) l.toNat l.toNat))) :
  TW κ S w0 H (B1 P X (Instr.makeSlice t (.int k1 l) (.int k2 c)) K) := fun w hw => by
 subst h1
 rw [C1V ht he hz hk h0 (Int.le_refl _) hb hc]
 refine hK _ _ (hw.newOwn ?_)
 exact M8.made (by simp) (by simp [size_zeroCells, hz])
theorem C55 {len : Nat} {parts : Array (Nat × Value)} {cs : Array Value} {e : TypeId} {d' : TypeDesc} {n' m' : Nat} {z' : Value} (h : TI P t (.slice e) n m z) (he : TI P e d' n' m' z') (hb : len * n' ≤ 2 ^ 24) (h0 : len * n' ≠ 0)
  (hf : Instr.fill (fun i => some (i * n', n')) ((Array.range (len * n')).map (z'.cells[· % z'.cells.size]!)) parts.toList = some cs) (hcs : cs.size = len * n')
  (hK : ∀ b, TW κ S w0 (.own e n' (.slice (some ⟨b, 0, none⟩) len len) len cs.toList :: H) (K (.slice (some ⟨b, 0, none⟩) len len))) :
  TW κ S w0 H (B1 P X (Instr.buildSlice t len parts) K) := fun w hw => by
 rw [A6k h he hb h0 hf]
 exact hK _ _ (hw.newOwn (M8.made (by simp) (by simp [hcs])))
theorem C3S {e : TypeId} {d' : TypeDesc} {n' m' : Nat} {z' : Value} (h : TI P t (.slice e) n m z) (he : TI P e d' n' m' z')
  (hK : ∀ b, TW κ S w0 (.own e n' (.slice (some ⟨b, 0, none⟩) 0 0) 0 [] :: H) (K (.slice (some ⟨b, 0, none⟩) 0 0))) :
  TW κ S w0 H (B1 P X (Instr.buildSlice t 0 #[]) K) := fun w hw => by
 rw [C0z h he]
 exact hK _ _ (hw.newOwn M8.empty)
theorem C5Y (h : TI P t d n m z) {v : Value} (hv : v.cells.size = n) {b o : Nat} {c : Array Value} {T : TypeId}
  (hu : Up (.pt b (.cells c T (0, 0))) (.pt b (.cells (E2 c o v.cells.toList) T (0, 0))) H H') (hs : o + n ≤ c.size) (hp : v.cells.toList.all plain = true) :
  TW κ S w0 H (C3 P X (Instr.storeAt t (.pointer (some ⟨b, o, none⟩)) v) K0) = TW κ S w0 H' K0 := by
 have hm : Res.pt b (.cells c T (0, 0)) ∈ H := by obtain ⟨A, B, rfl, _⟩ := hu.parts; simp
 have key : ∀ w, LW κ S w0 H w → C3 P X (Instr.storeAt t (.pointer (some ⟨b, o, none⟩)) v) K0 w = K0 (World.putb w b (.cells (E2 c o v.cells.toList) T (0, 0))) := fun w hw => by
  have hb := hw.pt hm
  rw [C1G h v hv, hb]
  have : o + v.cells.toList.length ≤ c.size := by simp [hv]; omega
  simp only [stc, if_pos (And.intro this hp)]
 have fwd : ∀ w, LW κ S w0 H w → LW κ S w0 H' (World.putb w b (.cells (E2 c o v.cells.toList) T (0, 0))) := fun w hw => by
  have hb := hw.pt hm
  refine hw.up hu ⟨KS.putb ‹_› (by simp [Res.foot]), ?_, ?_, by simp⟩
  ·simp only [List.mem_singleton, forall_eq, Res.holds]; exact ⟨P3 (G3 hb), rfl⟩
  ·simp only [List.mem_singleton, forall_eq, Res.foot]; exact ⟨Or.inl (by simp), by have := G3 hb; simpa using this⟩
 have bwd : ∀ w', LW κ S w0 H' w' → ∃ w, LW κ S w0 H w ∧ w' = World.putb w b (.cells (E2 c o v.cells.toList) T (0, 0)) := fun w' hw' => by
  have hm' : Res.pt b (.cells (E2 c o v.cells.toList) T (0, 0)) ∈ H' := by obtain ⟨A, B, _, rfl⟩ := hu.parts; simp
  have hb' := hw'.pt hm'
  have hu' : Up (.pt b (.cells (E2 c o v.cells.toList) T (0, 0))) (.pt b (.cells c T (0, 0))) H' H := by
   clear key fwd hm hm' hw' hb'
   induction hu with
   | here => exact .here
   | there _ ih => exact .there ih
  refine ⟨World.putb w' b (.cells c T (0, 0)), hw'.up hu' ⟨KS.putb ‹_› (by simp [Res.foot]), ?_, ?_, by simp⟩, ?_⟩
  ·simp only [List.mem_singleton, forall_eq, Res.holds]; exact ⟨P3 (G3 hb'), rfl⟩
  ·simp only [List.mem_singleton, forall_eq, Res.foot]; exact ⟨Or.inl (by simp), by have := G3 hb'; simpa using this⟩
  ·have hlt : b < w'.heap.size := G3 hb'
   have hh : w'.heap[b]? = some (.cells (E2 c o v.cells.toList) T (0, 0)) := hb'
   have : (w'.heap.setIfInBounds b (.cells c T (0, 0))).setIfInBounds b (.cells (E2 c o v.cells.toList) T (0, 0)) = w'.heap := by
    apply Array.ext_getElem?
    intro r
    by_cases hr : b = r
    ·subst hr; rw [Array.getElem?_setIfInBounds_self_of_lt (by simpa using hlt)]; exact hh.symm
    ·rw [Array.getElem?_setIfInBounds_ne hr, Array.getElem?_setIfInBounds_ne hr]
   simp only [World.putb, this]
 refine propext ⟨fun hA w' hw' => ?_, fun hB w hw => ?_⟩
 ·obtain ⟨w, hw, rfl⟩ := bwd w' hw'
  have := hA w hw; rw [key w hw] at this; exact this
 ·rw [key w hw]; exact hB _ (fwd w hw)
def A3j (xs : List Value) (o : Nat) (l : List Value) : List Value := xs.take o ++ l ++ xs.drop (o + l.length)
theorem B8f {xs l : List Value} {o : Nat} (h : o + l.length ≤ xs.length) : (A3j xs o l).length = xs.length := by simp [A3j]; omega
theorem B76 {xs : List Value} {o : Nat} {v : Value} (h : o < xs.length) : A3j xs o [v] = xs.set o v := by
 rw [List.set_eq_take_append_cons_drop]; simp [A3j, h]
theorem take_set (xs r v : List Value) (o : Nat) (h : o + v.length ≤ xs.length) : ((xs ++ r).take o ++ v ++ (xs ++ r).drop (o + v.length)).take xs.length = A3j xs o v := by
 have h1 : (xs ++ r).take o = xs.take o := List.take_append_of_le_length (by omega)
 have h2 : (xs ++ r).drop (o + v.length) = xs.drop (o + v.length) ++ r := List.drop_append_of_le_length h
 rw [h1, h2, ← List.append_assoc]
 exact List.take_left' (by simp; omega)
theorem B8V (h : TI P t d n m z) {v : Value} (hv : v.cells.size = n) {g o : Nat} {e : TypeId} {k q c : Nat} {xs : List Value}
  (hu : Up (.own e k (.slice (some ⟨g, 0, none⟩) q c) q xs) (.own e k (.slice (some ⟨g, 0, none⟩) q c) q (A3j xs o v.cells.toList)) H H') (hs : o + n ≤ xs.length) (hp : v.cells.toList.all plain = true)
  (hK : TW κ S w0 H' K0) : TW κ S w0 H (C3 P X (Instr.storeAt t (.pointer (some ⟨g, o, none⟩)) v) K0) := fun w hw => by
 have hm : Res.own e k (.slice (some ⟨g, 0, none⟩) q c) q xs ∈ H := by obtain ⟨A, B, rfl, _⟩ := hu.parts; simp
 have ho : M8 w e k (.slice (some ⟨g, 0, none⟩) q c) q xs := hw.hold _ hm
 rcases ho.2 with ⟨h1, _⟩ | ⟨g', cap', cur, h1, hb, hc, hcs, ht⟩
 ·cases h1
 ·cases h1
  have hsz : o + v.cells.toList.length ≤ cur.size := by
   have hx : xs.length ≤ cur.size := by rw [← ht]; simp; omega
   simp [hv]; omega
  rw [C1G h v hv, hb]
  simp only [stc, if_pos (And.intro hsz hp)]
  refine hK _ (hw.up hu ⟨KS.putb hb (by simp [Res.foot, G4]), ?_, ?_, by simp⟩)
  ·simp only [List.mem_singleton, forall_eq, Res.holds]
   have hvl : v.cells.toList.length = n := by simp [hv]
   refine ⟨by rw [B8f (by omega)]; exact ho.1, Or.inr ⟨g, c, _, rfl, P3 (G3 hb), hc, by rw [C1]; exact hcs, ?_⟩⟩
   have hl : xs.length = q * k := ho.1
   have hx : cur.toList = xs ++ cur.toList.drop (q * k) := by rw [← ht]; exact (List.take_append_drop _ _).symm
   rw [A0J _ _ _ hsz, hx, ← hl]
   exact take_set xs _ _ o (by omega)
  ·simp only [List.mem_singleton, forall_eq, Res.foot, G4, List.mem_singleton, forall_eq]
   exact ⟨Or.inl (by simp), by have := G3 hb; simpa using this⟩
def P2 (κ : Bool) (S : List Nat) (w0 : World) (H : List Res) (v : Value) (m : Nat) (xs : List Value) : Prop := ∀ w, LW κ S w0 H w → G1 w v m xs
theorem P2.own {e : TypeId} {k q : Nat} {v : Value} {xs : List Value} (hm : Res.own e k v q xs ∈ H) : P2 κ S w0 H v q xs := fun w hw => M8.rd (hw.hold _ hm)
theorem G1.ks {a b : World} {v : Value} {q : Nat} {xs : List Value} (h : G1 a v q xs) (hk : KS κ S a b) (hS : ∀ g ∈ G4 v, g ∉ S) : G1 b v q xs := by
 rcases h with h | ⟨g, o, c, rfl, hr⟩
 ·exact Or.inl h
 ·exact Or.inr ⟨g, o, c, rfl, hk.row (hS g (by simp [G4])) hr⟩
theorem P2.old {q : Nat} {v : Value} {xs : List Value} (h : G1 w0 v q xs) (hS : ∀ g ∈ G4 v, g ∉ S) : P2 κ S w0 H v q xs := fun w hw => h.ks hw.ks hS
theorem P2.old0 {q : Nat} {v : Value} {xs : List Value} (h : G1 w0 v q xs) : P2 κ [] w0 H v q xs := .old h (by simp)
theorem C3d {e : TypeId} {k by' : Nat} {ty : TypeId} {v x : Value} {q r : Nat} {xs news : List Value} {n' m' : Nat} {z' : Value} (ht : TI P t (.slice e) n' m' z') (he : TI P e d k by' z) (hz : z.cells.size = k) (hk : 0 < k)
  {H'' : Value → List Res} (hu : ∀ v', Up (.own e k v q xs) (.own e k v' (q + r) (xs ++ news)) H (H'' v')) (hx : P2 κ S w0 H x r news) (hl : news.length = r * k) (hp : news.all plain = true)
  (h63 : q + r ≤ maxLen) (hby : (q + r) * by' ≤ 140737488355328) (hK : ∀ v', TW κ S w0 (H'' v') (K v')) : TW κ S w0 H (B1 P X (A8 .append #[t, t] ty [v, x]) K) := fun w hw => by
 have hm : Res.own e k v q xs ∈ H := by obtain ⟨A, B, rfl, _⟩ := (hu v).parts; simp
 refine B7b ht he hz hk (hw.hold _ hm) (hx w hw) hl hp h63 hby fun v' w' ho hb hsk hg => ?_
 refine hK v' w' (hw.up (hu v') ⟨hb.ks fun _ => hsk, by simpa [Res.holds] using ho, ?_, by simp⟩)
 simp only [List.mem_singleton, forall_eq]
 intro b hb'
 refine ⟨hg b hb', ?_⟩
 rcases ho.2 with ⟨rfl, _⟩ | ⟨g', cap', cur, rfl, h1, _⟩
 ·simp [Res.foot, G4] at hb'
 ·simp [Res.foot, G4] at hb'; subst hb'; exact G3 h1
theorem s6 {A : WP} (e : TypeId) (k : Nat) (h : TW κ S w0 (.own e k (.slice none 0 0) 0 [] :: H) A) : TW κ S w0 H A := fun w hw => by
 refine h w ?_
 have : LW κ [] w [.own e k (.slice none 0 0) 0 []] w := ⟨KS.refl _ _, by simp [Res.holds, M8], by simp [Res.foot, G4], by simp⟩
 simpa using hw.step this (List.Sublist.refl H) (by simp) (by simp)
end
end Go.Proofs.YtpbmephflllolaaGreat
namespace Go.Proofs.YtpbmephflllolaaGreat
open Go
def Rv (w : World) (φ : Value → Prop) : Value → WP := fun v w' => φ v ∧ KS false [] w w'
def Rn {α : Type} (S : List Nat) (w : World) (φ : α → Value → Prop) (Hn : α → List Res) : Value → WP := fun v w' => ∃ a, φ a v ∧ LW false S w (Hn a) w'
section
variable {κ : Bool} {X : Nat → Prop} {S : List Nat} {w0 : World} {H Hk : List Res} {K : Value → WP} {f : FuncId} {args : List Value}
theorem A88 {Hc : List Res} {α : Type} {φ : α → Value → Prop} {Hn : α → List Res} (he : A9 PR f) (hs : H.Perm (Hc ++ Hk))
  (hf : ∀ w, LW κ S w0 H w → Fn PR B5 f args.toArray w (Rn (B3 Hc) w φ Hn)) (hK : ∀ a v, φ a v → TW κ S w0 (Hn a ++ Hk) (K v)) : TW κ S w0 H (B2 PR X f args K) := fun w hw =>
 Or.inl ⟨he, (hf w hw).use fun v w' ⟨a, h1, h2⟩ hsk => hK a v h1 w' ((hw.perm hs).part (h2.high fun _ => hsk))⟩
theorem A9x {φ : Value → Prop} (he : A9 PR f) (hf : ∀ w, LW κ S w0 H w → Fn PR B5 f args.toArray w (fun v w' => φ v ∧ C4 [] w w')) (hK : ∀ v, φ v → TW κ S w0 H (K v)) : TW κ S w0 H (B2 PR X f args K) := fun w hw =>
 Or.inl ⟨he, (hf w hw).use fun v w' ⟨h1, h2⟩ hsk => hK v h1 w' (hw.ext (h2.ks fun _ => hsk))⟩
theorem D2 {u : Value} (he : A9 PR f) (hf : ∀ w, LW κ S w0 H w → Fn PR B5 f args.toArray w (fun v w' => v = u ∧ C4 [] w w')) (hK : TW κ S w0 H (K u)) : TW κ S w0 H (B2 PR X f args K) :=
 A9x he hf fun v hv => hv ▸ hK
theorem N7 {α : Type} {φ : α → Value → Prop} {Hn : α → List Res} (he : A9 PR f) (hf : ∀ w, LW κ S w0 H w → Fn PR B5 f args.toArray w (Rn [] w φ Hn)) (hK : ∀ a v, φ a v → TW κ S w0 (Hn a ++ H) (K v)) : TW κ S w0 H (B2 PR X f args K) :=
 A88 (Hc := []) (Hk := H) he (List.Perm.refl _) hf hK
theorem Fn.pure {args : Array Value} {w : World} {φ : Value → Prop} (h : Fn PR B5 f args w (Rv w φ)) : Fn PR B5 f args w (fun v w' => φ v ∧ C4 [] w w') :=
 Fn.ext (h.mono fun v w' ⟨h1, h2⟩ => ⟨h1, h2.extD⟩)
theorem B0 {φ : Value → Prop} {v : Value} (h : φ v) : TW κ [] w0 H (Rv w0 φ v) := fun w hw => ⟨h, hw.ks.low⟩
theorem W9 {α : Type} {φ : α → Value → Prop} {Hn : α → List Res} {v : Value} (a : α) (h : φ a v) (hs : (Hn a).Sublist H) : TW κ S w0 H (Rn S w0 φ Hn v) := fun w hw => ⟨a, h, hw.low.sub hs⟩
theorem TW.goH {A : WP} {w : World} (h : TW κ S w H A) (hw : LW κ S w H w) : A w := h w hw
theorem TW.eqH {κ : Bool} {H' : List Res} {A : WP} (h : H = H') (hk : TW κ S w0 H' A) : TW κ S w0 H A := h ▸ hk
theorem TW.at {κ' : Bool} {A : WP} {w : World} (h : TW κ (B3 H) w H A) (hw : LW κ' S w0 H w) : A w := h w hw.self
end
theorem B14 {p : Nat → Prop} (h : ∃ n, p n) : ∃ n, p n ∧ ∀ m, p m → n ≤ m := by
 obtain ⟨n, hn⟩ := h
 induction n using Nat.strongRecOn with
 | _ n ih =>
  by_cases hm : ∃ m, m < n ∧ p m
  ·obtain ⟨m, h1, h2⟩ := hm; exact ih m h1 h2
  ·exact ⟨n, hn, fun m h => Nat.le_of_not_lt fun hl => hm ⟨m, hl, h⟩⟩
open Classical in
noncomputable def least (p : Nat → Prop) : Nat := if h : ∃ n, p n ∧ ∀ m, p m → n ≤ m then h.choose else 0
theorem A8Y {p : Nat → Prop} (h : ∃ n, p n) : p (least p) ∧ ∀ m, p m → least p ≤ m := by
 have h' := B14 h
 unfold least; rw [dif_pos h']; exact h'.choose_spec
theorem A8s {n : Nat} {F : VF WP n → VF WP n} {vs : List Value} {w : World} {α : Type} (J : α → List Value → WP) (μ : α → Nat) (hl : vs.length = n) (x0 : α) (h0 : J x0 vs w)
  (hs : ∀ x vs w, vs.length = n → J x vs w → ∀ L : List Value → WP, (∀ x' vs' w', J x' vs' w' → μ x' < μ x → L vs' w') → VF.app E0 n (F (VF.lam n L)) vs w) : VF.app E0 n (lp F) vs w := by
 unfold lp
 rw [VF.app_lam _ _ _ _ hl]
 refine ⟨fun vs w => ∃ x, J x vs w, fun vs w => least fun k => ∃ x, J x vs w ∧ μ x = k, ⟨x0, h0⟩, fun vs w hl ⟨x, hx⟩ => ?_⟩
 obtain ⟨⟨x1, h1, h2⟩, hle⟩ := A8Y (p := fun k => ∃ x, J x vs w ∧ μ x = k) ⟨μ x, x, hx, rfl⟩
 refine hs x1 vs w hl h1 _ fun x' vs' w' hx' hlt => ⟨⟨x', hx'⟩, ?_⟩
 have := (A8Y (p := fun k => ∃ x, J x vs' w' ∧ μ x = k) ⟨μ x', x', hx', rfl⟩).2 (μ x') ⟨x', hx', rfl⟩
 exact Nat.lt_of_le_of_lt this (by rw [h2] at hlt; exact hlt)
section
variable {κ : Bool} {S : List Nat} {w0 : World} {α : Type} (Hh : α → List Res) (φ : α → Prop) (μ : α → Nat) (x0 : α)
theorem C3p {F : WP → WP} (h0 : φ x0)
  (hs : ∀ x, φ x → ∀ L : WP, (∀ x', φ x' → μ x' < μ x → TW κ S w0 (Hh x') L) → TW κ S w0 (Hh x) (F L)) : TW κ S w0 (Hh x0) (lp (n := 0) F) := fun w hw =>
 A8s (n := 0) (F := F) (vs := []) (fun x vs w => vs = [] ∧ φ x ∧ LW κ S w0 (Hh x) w) μ rfl x0 ⟨rfl, h0, hw⟩ fun x vs w hl ⟨he, h1, h2⟩ L hL => by
  subst he; exact hs x h1 (L []) (fun x' h1' hlt w' hw' => hL x' [] w' ⟨rfl, h1', hw'⟩ hlt) w h2
theorem B9v {F : (Value → WP) → Value → WP} (v1 : α → Value) (h0 : φ x0)
  (hs : ∀ x, φ x → ∀ L : Value → WP, (∀ x', φ x' → μ x' < μ x → TW κ S w0 (Hh x') (L (v1 x'))) → TW κ S w0 (Hh x) (F L (v1 x))) : TW κ S w0 (Hh x0) (lp (n := 1) F (v1 x0)) := fun w hw =>
 A8s (n := 1) (F := F) (vs := [v1 x0]) (fun x vs w => vs = [v1 x] ∧ φ x ∧ LW κ S w0 (Hh x) w) μ rfl x0 ⟨rfl, h0, hw⟩ fun x vs w hl ⟨he, h1, h2⟩ L hL => by
  subst he; exact hs x h1 (fun a => L [a]) (fun x' h1' hlt w' hw' => hL x' [v1 x'] w' ⟨rfl, h1', hw'⟩ hlt) w h2
theorem B9y {F : (Value → Value → WP) → Value → Value → WP} (v1 v2 : α → Value) (h0 : φ x0)
  (hs : ∀ x, φ x → ∀ L : Value → Value → WP, (∀ x', φ x' → μ x' < μ x → TW κ S w0 (Hh x') (L (v1 x') (v2 x'))) → TW κ S w0 (Hh x) (F L (v1 x) (v2 x))) : TW κ S w0 (Hh x0) (lp (n := 2) F (v1 x0) (v2 x0)) := fun w hw =>
 A8s (n := 2) (F := F) (vs := [v1 x0, v2 x0]) (fun x vs w => vs = [v1 x, v2 x] ∧ φ x ∧ LW κ S w0 (Hh x) w) μ rfl x0 ⟨rfl, h0, hw⟩ fun x vs w hl ⟨he, h1, h2⟩ L hL => by
  subst he; exact hs x h1 (fun a b => L [a, b]) (fun x' h1' hlt w' hw' => hL x' [v1 x', v2 x'] w' ⟨rfl, h1', hw'⟩ hlt) w h2
theorem C3M {F : (Value → Value → Value → WP) → Value → Value → Value → WP} (v1 v2 v3 : α → Value) (h0 : φ x0)
  (hs : ∀ x, φ x → ∀ L : Value → Value → Value → WP, (∀ x', φ x' → μ x' < μ x → TW κ S w0 (Hh x') (L (v1 x') (v2 x') (v3 x'))) → TW κ S w0 (Hh x) (F L (v1 x) (v2 x) (v3 x))) : TW κ S w0 (Hh x0) (lp (n := 3) F (v1 x0) (v2 x0) (v3 x0)) := fun w hw =>
 A8s (n := 3) (F := F) (vs := [v1 x0, v2 x0, v3 x0]) (fun x vs w => vs = [v1 x, v2 x, v3 x] ∧ φ x ∧ LW κ S w0 (Hh x) w) μ rfl x0 ⟨rfl, h0, hw⟩ fun x vs w hl ⟨he, h1, h2⟩ L hL => by
  subst he; exact hs x h1 (fun a b c => L [a, b, c]) (fun x' h1' hlt w' hw' => hL x' [v1 x', v2 x', v3 x'] w' ⟨rfl, h1', hw'⟩ hlt) w h2
end
section
variable {κ : Bool} {S : List Nat} {w0 : World}
theorem C09 {F : (Value → WP) → Value → WP} {k : IntKind} (n : Nat) (Hh : Nat → List Res)
  (hs : ∀ i, i ≤ n → ∀ L : Value → WP, (i < n → TW κ S w0 (Hh (i + 1)) (L (.int k ((i : Int) + 1)))) → TW κ S w0 (Hh i) (F L (.int k (i : Int)))) {H : List Res} (hH : H = Hh 0 := by rfl) : TW κ S w0 H (lp (n := 1) F (.int k 0)) := hH ▸
 B9v Hh (· ≤ n) (fun i => n - i) 0 (fun i => .int k (i : Int)) (Nat.zero_le _) fun i hi L hL => hs i hi L fun h => by
  have := hL (i + 1) h (by omega); simpa using this
theorem B0D {F : (Value → WP) → Value → WP} {k : IntKind} {α : Type} (n : Nat) (Hh : Nat → α → List Res) (φ : Nat → α → Prop) (x0 : α) (h0 : φ 0 x0)
  (hs : ∀ i x, i ≤ n → φ i x → ∀ L : Value → WP, (i < n → ∀ x', φ (i + 1) x' → TW κ S w0 (Hh (i + 1) x') (L (.int k ((i : Int) + 1)))) → TW κ S w0 (Hh i x) (F L (.int k (i : Int)))) {H : List Res} (hH : H = Hh 0 x0 := by rfl) : TW κ S w0 H (lp (n := 1) F (.int k 0)) := hH ▸
 B9v (fun p : Nat × α => Hh p.1 p.2) (fun p => p.1 ≤ n ∧ φ p.1 p.2) (fun p => n - p.1) (0, x0) (fun p => .int k (p.1 : Int)) ⟨Nat.zero_le _, h0⟩ fun ⟨i, x⟩ ⟨hi, hx⟩ L hL => hs i x hi hx L fun h x' hx' => by
  have := hL (i + 1, x') ⟨h, hx'⟩ (by simp only; omega); simpa using this
theorem r8 {F : (Value → Value → WP) → Value → Value → WP} {k : IntKind} {α : Type} (n : Nat) (val : Nat → α → Value) (Hh : Nat → α → List Res) (φ : Nat → α → Prop) (x0 : α) (h0 : φ 0 x0)
  (hs : ∀ i x, i ≤ n → φ i x → ∀ L : Value → Value → WP, (i < n → ∀ x', φ (i + 1) x' → TW κ S w0 (Hh (i + 1) x') (L (val (i + 1) x') (.int k ((i : Int) + 1)))) → TW κ S w0 (Hh i x) (F L (val i x) (.int k (i : Int)))) {H : List Res} (hH : H = Hh 0 x0 := by rfl) {v1 : Value} (hv : v1 = val 0 x0 := by rfl) : TW κ S w0 H (lp (n := 2) F v1 (.int k 0)) := by
 subst hH hv; exact
 B9y (fun p : Nat × α => Hh p.1 p.2) (fun p => p.1 ≤ n ∧ φ p.1 p.2) (fun p => n - p.1) (0, x0) (fun p => val p.1 p.2) (fun p => .int k (p.1 : Int)) ⟨Nat.zero_le _, h0⟩ fun ⟨i, x⟩ ⟨hi, hx⟩ L hL => hs i x hi hx L fun h x' hx' => by
  have := hL (i + 1, x') ⟨h, hx'⟩ (by simp only; omega); simpa using this
theorem C2G {F : (Value → Value → Value → WP) → Value → Value → Value → WP} {k : IntKind} {α : Type} (n : Nat) (val val2 : Nat → α → Value) (Hh : Nat → α → List Res) (φ : Nat → α → Prop) (x0 : α) (h0 : φ 0 x0)
  (hs : ∀ i x, i ≤ n → φ i x → ∀ L : Value → Value → Value → WP, (i < n → ∀ x', φ (i + 1) x' → TW κ S w0 (Hh (i + 1) x') (L (val (i + 1) x') (val2 (i + 1) x') (.int k ((i : Int) + 1)))) → TW κ S w0 (Hh i x) (F L (val i x) (val2 i x) (.int k (i : Int)))) {H : List Res} (hH : H = Hh 0 x0 := by rfl) {v1 v2 : Value} (hv : v1 = val 0 x0 := by rfl) (hv2 : v2 = val2 0 x0 := by rfl) : TW κ S w0 H (lp (n := 3) F v1 v2 (.int k 0)) := by
 subst hH hv hv2; exact
 C3M (fun p : Nat × α => Hh p.1 p.2) (fun p => p.1 ≤ n ∧ φ p.1 p.2) (fun p => n - p.1) (0, x0) (fun p => val p.1 p.2) (fun p => val2 p.1 p.2) (fun p => .int k (p.1 : Int)) ⟨Nat.zero_le _, h0⟩ fun ⟨i, x⟩ ⟨hi, hx⟩ L hL => hs i x hi hx L fun h x' hx' => by
  have := hL (i + 1, x') ⟨h, hx'⟩ (by simp only; omega); simpa using this
end
theorem LW.cell {κ : Bool} {S : List Nat} {w0 w : World} {H : List Res} (h : LW κ S w0 H w) {b o : Nat} {c : Array Value} {T : TypeId} {f : Nat × Nat} {v : Value} (hm : Res.pt b (.cells c T f) ∈ H) (hv : c[o]? = some v) : w.cell? ⟨b, o, none⟩ = some v := by
 rw [G7 (h.pt hm)]; exact hv
theorem LW.cell1 {κ : Bool} {S : List Nat} {w0 w : World} {H : List Res} (h : LW κ S w0 H w) {b : Nat} {T : TypeId} {f : Nat × Nat} {v : Value} (hm : Res.pt b (.cells #[v] T f) ∈ H) : w.cell? ⟨b, 0, none⟩ = some v := h.cell hm rfl
theorem LW.notin {κ : Bool} {S : List Nat} {w0 w : World} {A F : List Res} (h : LW κ S w0 (A ++ F) w) {r : Res} (hr : r ∈ A) {b : Nat} (hb : b ∈ r.foot) : b ∉ B3 F := fun hf => by
 obtain ⟨s, hs, hbs⟩ := N1.1 hf
 exact (List.pairwise_append.1 h.dis).2.2 r hr s hs b hb hbs
theorem LW.notin_old {κ : Bool} {S : List Nat} {w0 w : World} {A F : List Res} (h : LW κ S w0 (A ++ F) w) {b : Nat} (hb : b < sz w0) (hS : b ∉ S) : b ∉ B3 F := fun hf => by
 obtain ⟨s, hs, hbs⟩ := N1.1 hf
 rcases (h.own s (List.mem_append_right _ hs) b hbs).1 with h1 | h1
 ·exact hS h1
 ·omega
def Re (J : Nat → List Res → WP) (E : List Res → WP) (n : Nat) : Value → WP := fun _ w' => (∃ F, J n F w') ∨ ∃ F, E F w'
def A1u (g : Value) (F0 : List Res) (Rq : List Res → World → Prop) (L : List (List Value)) : Prop :=
 ∃ f first cap, g = .func (.func f) first cap ∧ ∀ (l : Nat) (J : Nat → List Res → WP) (E : List Res → WP),
  (∀ i F a, J i F a → LW true (B3 F) a F a ∧ Rq F a) → (∀ F a, E F a → LW true (B3 F) a F a) →
  (∀ i F F' a b, J i F a → LW true (B3 F) a F' b → J i F' b) →
  (∀ F F' a b, E F a → LW true (B3 F) a F' b → E F' b) →
  (∀ i (hi : i < L.length) F w1, J i F w1 → yie PR (fun r => r = l) l L[i] (fun v w3 => (v = .bool true ∧ J (i + 1) F w3) ∨ (v = .bool false ∧ E F w3)) w1) →
  ∀ w0, J 0 F0 w0 → s7 PR (fun r => r = l) f (first.toList ++ [.func (.yield l) #[] #[]] ++ cap.toList) (Re J E L.length) w0
section
variable {l i : Nat} {X : Nat → Prop} {args : List Value} {K : Value → WP} {J : Nat → List Res → WP} {E : List Res → WP} {F F' : List Res} {a : World} {Rq : List Res → World → Prop}
theorem A3H (hJ : ∀ i F a, J i F a → LW true (B3 F) a F a ∧ Rq F a) (hE : ∀ F a, E F a → LW true (B3 F) a F a) (stJ : ∀ i F F' a b, J i F a → LW true (B3 F) a F' b → J i F' b)
  {Ls : List (List Value)} (hy : ∀ i (hi : i < Ls.length) F w1, J i F w1 → yie PR X l Ls[i] (fun v w3 => (v = .bool true ∧ J (i + 1) F w3) ∨ (v = .bool false ∧ E F w3)) w1) (h0 : J i F a) (hi : i < Ls.length) (ha : Ls[i] = args)
  (h1 : ∀ w3, J (i + 1) F' w3 → TW true (B3 F') w3 F' (K (.bool true))) (h2 : ∀ w3, E F' w3 → TW true (B3 F') w3 F' (K (.bool false))) : TW true (B3 F) a F' (yie PR X l args K) := fun b hb =>
 B2W (ha ▸ hy i hi F' b (stJ i F F' a b h0 hb)) fun v w3 h => by
  rcases h with ⟨rfl, h⟩ | ⟨rfl, h⟩
  ·exact (h1 _ h).at (hJ _ _ _ h).1
  ·exact (h2 _ h).at (hE _ _ h)
theorem A1N {n : Nat} {v : Value} (stJ : ∀ i F F' a b, J i F a → LW true (B3 F) a F' b → J i F' b) (h : J n F a) : TW true (B3 F) a F' (Re J E n v) := fun w hw => Or.inl ⟨F', stJ _ _ _ _ _ h hw⟩
theorem A1B {n : Nat} {v : Value} (stE : ∀ F F' a b, E F a → LW true (B3 F) a F' b → E F' b) (h : E F a) : TW true (B3 F) a F' (Re J E n v) := fun w hw => Or.inr ⟨F', stE _ _ _ _ h hw⟩
theorem B54 {Fb : (Value → WP) → Value → WP} {α : Type} (c : α → Nat) (Fi : α → List Res) (φ : α → Prop) (μ : α → Nat) (v1 : α → Value) (x0 : α) (hJ : ∀ i F a, J i F a → LW true (B3 F) a F a ∧ Rq F a) (stJ : ∀ i F F' a b, J i F a → LW true (B3 F) a F' b → J i F' b)
  (h0 : J (c x0) F a) (hφ : φ x0) (hs : ∀ x a, φ x → J (c x) (Fi x) a → Rq (Fi x) a → ∀ L : Value → WP, (∀ x' w', φ x' → μ x' < μ x → J (c x') (Fi x') w' → L (v1 x') w') → TW true (B3 (Fi x)) a (Fi x) (Fb L (v1 x)))
  (hF : F' = Fi x0 := by rfl) {v : Value} (hv : v = v1 x0 := by rfl) : TW true (B3 F) a F' (lp (n := 1) Fb v) := fun w hw => by
 subst hF hv
 refine A8s (n := 1) (F := Fb) (vs := [v1 x0]) (fun x vs w => vs = [v1 x] ∧ φ x ∧ J (c x) (Fi x) w) μ rfl x0 ⟨rfl, hφ, stJ _ _ _ _ _ h0 hw⟩ ?_
 rintro x vs b hl ⟨rfl, hi, hb⟩ L hL
 refine (hs x b hi hb (hJ _ _ _ hb).2 (fun v => L [v]) fun x' w' h1 h2 h3 => ?_).at (hJ _ _ _ hb).1
 exact hL x' _ w' ⟨rfl, h1, h3⟩ h2
theorem A2c {Fb : (Value → WP) → Value → WP} {k : IntKind} (n : Nat) (c : Nat → Nat) (Fi : Nat → List Res) (hJ : ∀ i F a, J i F a → LW true (B3 F) a F a ∧ Rq F a) (stJ : ∀ i F F' a b, J i F a → LW true (B3 F) a F' b → J i F' b)
  (h0 : J (c 0) F a) (hs : ∀ i a, i ≤ n → J (c i) (Fi i) a → Rq (Fi i) a → ∀ L : Value → WP, (i < n → ∀ w', J (c (i + 1)) (Fi (i + 1)) w' → L (.int k ((i : Int) + 1)) w') → TW true (B3 (Fi i)) a (Fi i) (Fb L (.int k (i : Int))))
  (hF : F' = Fi 0 := by rfl) : TW true (B3 F) a F' (lp (n := 1) Fb (.int k 0)) :=
 B54 c Fi (· ≤ n) (fun i => n - i) (fun i => .int k (i : Int)) 0 hJ stJ h0 (Nat.zero_le _) (fun i a hi hJi hR L hL => hs i a hi hJi hR L fun hlt w' h => by
  have := hL (i + 1) w' hlt (by omega) h; simpa using this) hF rfl
end
theorem y4 {N : Nat} {X : Nat → Prop} {S : List Nat} {w0 : World} {body : VF ((Option Code → WP) → WP) N} {g : Value} {KJ : Option Code → WP} {Rq : List Res → World → Prop} {L : List (List Value)} {F0 : List Res} (hit : A1u g F0 Rq L) (hL : ∀ x ∈ L, x.length = N)
  {α : Type} (ψ : Nat → α → Prop) (Hc : Nat → α → List Res) {ε : Type} (χ : Code → ε → Prop) (He : ε → List Res) (x0 : α) (h0 : ψ 0 x0)
  (hRq : ∀ i x F w, ψ i x → LW false S w0 (Hc i x ++ F) w → Rq F w)
  (hbody : ∀ i (hi : i < L.length) x F, ψ i x → ∀ K' : Option Code → WP, (∀ x', ψ (i + 1) x' → TW false S w0 (Hc (i + 1) x' ++ F) (K' none)) → (∀ c y, χ c y → TW false S w0 (He y ++ F) (K' (some c))) →
   TW false S w0 (Hc i x ++ F) (VF.app (fun _ => E0) N body L[i] K'))
  (hend : ∀ x, ψ L.length x → TW false S w0 (Hc L.length x) (KJ none)) (hexit : ∀ c y, χ c y → TW false S w0 (He y) (KJ (some c))) {H : List Res} (hH : H = F0 ++ Hc 0 x0 := by rfl) : TW false S w0 H (rng PR X body g KJ) := by
 subst hH
 intro w hw
 obtain ⟨f, first, cap, hg, hit⟩ := hit
 refine ⟨f, first, cap, hg, fun l Pd w1 hl hmono hext hpd hyie => ?_⟩
 refine B85 (X := fun r => r = l) ?_ fun r hr => Or.inr hr
 refine B8d (hit l (fun i F a => (∃ x, ψ i x ∧ LW false S w0 (Hc i x ++ F) a) ∧ Pd none a) (fun F a => ∃ c, (∃ y, χ c y ∧ LW false S w0 (He y ++ F) a) ∧ Pd (some c) a) ?_ ?_ ?_ ?_ ?_ w1 ⟨⟨x0, h0, (hw.ext hext.ks).perm List.perm_append_comm⟩, hpd⟩) ?_
 ·rintro i F a ⟨⟨x, h1, h2⟩, _⟩
  exact ⟨(h2.sub (List.sublist_append_right _ _)).self, hRq i x F a h1 h2⟩
 ·rintro F a ⟨c, ⟨y, h1, h2⟩, _⟩
  exact (h2.sub (List.sublist_append_right _ _)).self
 ·rintro i F F' a b ⟨⟨x, h1, h2⟩, h3⟩ hs
  refine ⟨⟨x, h1, ?_⟩, hmono _ _ _ h3 (hs.ks.2.2 rfl)⟩
  exact ((h2.perm (List.perm_append_comm)).part hs.low).perm List.perm_append_comm
 ·rintro F F' a b ⟨c, ⟨y, h1, h2⟩, h3⟩ hs
  refine ⟨c, ⟨y, h1, ?_⟩, hmono _ _ _ h3 (hs.ks.2.2 rfl)⟩
  exact ((h2.perm (List.perm_append_comm)).part hs.low).perm List.perm_append_comm
 ·rintro i hi F w2 ⟨⟨x, h1, h2⟩, h3⟩
  refine B2W (hyie L[i] (fun j w3 => Pd j w3 ∧ match j with | none => ∃ x, ψ (i + 1) x ∧ LW false S w0 (Hc (i + 1) x ++ F) w3 | some c => ∃ y, χ c y ∧ LW false S w0 (He y ++ F) w3) w2 (hL _ (List.getElem_mem hi)) h3 ?_) ?_
  ·exact hbody i hi x F h1 (fun j w2 => ∀ w3, j1 w2 w3 → Pd j w3 → (Pd j w3 ∧ match j with | none => ∃ x, ψ (i + 1) x ∧ LW false S w0 (Hc (i + 1) x ++ F) w3 | some c => ∃ y, χ c y ∧ LW false S w0 (He y ++ F) w3)) (fun x' hx' w3 hw3 w4 h4 hp => ⟨hp, x', hx', hw3.ext h4.ks⟩) (fun c y hc w3 hw3 w4 h4 hp => ⟨hp, y, hc, hw3.ext h4.ks⟩) w2 h2
  ·rintro v w3 ⟨j, hv, hp, hr⟩
   cases j with
   | none => exact Or.inl ⟨hv, hr, hp⟩
   | some c => exact Or.inr ⟨hv, c, hr, hp⟩
 ·rintro v w' (⟨F, ⟨x, h1, h2⟩, h3⟩ | ⟨F, c, ⟨y, h1, h2⟩, h3⟩) _
  ·exact ⟨none, h3, fun w'' h => hend x h1 w'' ((h2.sub (List.sublist_append_left _ _)).ext h.ks)⟩
  ·exact ⟨some c, h3, fun w'' h => hexit c y h1 w'' ((h2.sub (List.sublist_append_left _ _)).ext h.ks)⟩
end Go.Proofs.YtpbmephflllolaaGreat
namespace Go.Proofs.YtpbmephflllolaaGreat
open Go
def A5G (X : Nat → Prop) (t0 : Value) (R : Value → WP) : WP :=
 B1 PR X (Instr.makeMap 151 none) fun t6 =>
 jn (n := 2) (fun t2 t9 =>
 jn (n := 1) (fun t2_1 =>
 R (.int .i64 0)) fun J1 =>
 A0 PR (A8 .len #[32] 0 [t0]) fun t33 =>
 A0 PR (binOp .gtr 3 t33 (.int .i64 32)) fun t34 =>
 C5 t34 (
 R (.int .i64 10)) (
 J1 t2)) fun J2 =>
 A0 PR (A8 .len #[32] 0 [t0]) fun t8 =>
 lp (n := 2) (fun L3 t2_2 t9_1 =>
 A0 PR (binOp .lss 3 t9_1 t8) fun t10 =>
 jn (n := 0) (
 jn (n := 1) (fun t2_3 =>
 A0 PR (binOp .add 3 t9_1 (.int .i64 1)) fun t31 =>
 L3 t2_3 t31) fun J4 =>
 A0 PR (Instr.indexAt 32 t0 t9_1) fun t11 =>
 A6 PR (Instr.loadAt 75 t11) fun t12 =>
 B1 PR X (Instr.alloc 75 true (.tuple #[])) fun t5 =>
 C3 PR X (Instr.storeAt 75 t5 t12) <|
 jn (n := 1) (fun t2_4 =>
 A0 PR (Instr.fieldAt 75 t5 0) fun t29 =>
 A6 PR (Instr.loadAt 3 t29) fun t30 =>
 C3 PR X (Instr.mapUpdate 151 t6 t30 (.bool true)) <|
 J4 t2_4) fun J5 =>
 A0 PR (Instr.fieldAt 75 t5 0) fun t14 =>
 A6 PR (Instr.loadAt 3 t14) fun t15 =>
 A6 PR (Instr.lookup 151 t6 t15 false) fun t16 =>
 gj t16 false (fun J => A0 PR (Instr.fieldAt 75 t5 0) J) fun t18 =>
 gj t16 false (fun J => A6 PR (Instr.loadAt 3 t18) J) fun t19 =>
 gj t16 false (fun J => A0 PR (Instr.build 153 #[(0, t19), (1, (.int .i64 65535))]) J) fun t20 =>
 gj t16 false (fun J => A0 PR (Instr.fieldAt 75 t5 1) J) fun t21 =>
 gj t16 false (fun J => A6 PR (Instr.loadAt 3 t21) J) fun t22 =>
 gj t16 false (fun J => A0 PR (Instr.build 153 #[(0, t22), (1, (.int .i64 16))]) J) fun t23 =>
 gj t16 false (fun J => B1 PR X (Instr.buildSlice 229 2 #[(0, t20), (1, t23)]) J) fun t24 =>
 gj t16 false (fun J => B2 PR X 70 [t24] J) fun t25 =>
 gj t16 false (fun J => A0 PR (Op.unary .not t25) J) fun t26 =>
 A0 PR (do pure (if ← asBool t16 then (.bool true) else t26)) fun t27 =>
 C5 t27 (
 R (.int .i64 10)) (
 J5 t2_2)) fun J6 =>
 C5 t10 (
 J6) (
 J2 t2_2 t9_1)) (.int .i64 0) (.int .i64 0)
theorem A9p : A9 PR 32 := A7 Tryz.func32 (by kernel_rfl) rfl
theorem B02 {X : Nat → Prop} {t0 : Value} {R : Value → WP} {w : World} (h : A5G X t0 R w) : Fn PR X 32 #[t0] w R := D5 (args := [t0]) mixed Tryz.func32 (by kernel_rfl) h
def A4L (X : Nat → Prop) (t0 : Value) (R : Value → WP) : WP :=
 B2 PR X 121 [t0, (.func (.func 122) #[] #[])] fun t4 =>
 A0 PR (Op.unary .not t4) fun t5 =>
 R t5
theorem A80 : A9 PR 70 := A7 Tryz.func70 (by kernel_rfl) rfl
theorem A9Y {X : Nat → Prop} {t0 : Value} {R : Value → WP} {w : World} (h : A4L X t0 R w) : Fn PR X 70 #[t0] w R := D5 (args := [t0]) mixed Tryz.func70 (by kernel_rfl) h
def A1a (X : Nat → Prop) (t0 : Value) (R : Value → WP) : WP :=
 B1 PR X (Instr.box 153 t0) fun t1 =>
 A0 PR (Instr.indexAt 153 t1 (.int .i64 0)) fun t3 =>
 A6 PR (Instr.loadAt 3 t3) fun t4 =>
 A0 PR (binOp .lss 3 t4 (.int .i64 1)) fun t5 =>
 gj t5 false (fun J => A0 PR (Instr.indexAt 153 t1 (.int .i64 0)) J) fun t7 =>
 gj t5 false (fun J => A6 PR (Instr.loadAt 3 t7) J) fun t8 =>
 gj t5 false (fun J => A0 PR (Instr.indexAt 153 t1 (.int .i64 1)) J) fun t9 =>
 gj t5 false (fun J => A6 PR (Instr.loadAt 3 t9) J) fun t10 =>
 gj t5 false (fun J => A0 PR (binOp .gtr 3 t8 t10) J) fun t11 =>
 A0 PR (do pure (if ← asBool t5 then (.bool true) else t11)) fun t12 =>
 R t12
theorem A6V : A9 PR 122 := A7 Tryz.func122 (by kernel_rfl) rfl
theorem A7J {X : Nat → Prop} {t0 : Value} {R : Value → WP} {w : World} (h : A1a X t0 R w) : Fn PR X 122 #[t0] w R := D5 (args := [t0]) mixed Tryz.func122 (by kernel_rfl) h
def A5g (X : Nat → Prop) (t0 t1 : Value) (R : Value → WP) : WP :=
 B2 PR X 223 [t1] fun t7 =>
 B2 PR X 222 [t0, t7] fun t8 =>
 R t8
theorem B0z : A9 PR 199 := A7 Tryz.func199 (by kernel_rfl) rfl
theorem B1s {X : Nat → Prop} {t0 t1 : Value} {R : Value → WP} {w : World} (h : A5g X t0 t1 R w) : Fn PR X 199 #[t0, t1] w R := D5 (args := [t0, t1]) mixed Tryz.func199 (by kernel_rfl) h
def A47 (X : Nat → Prop) (t0 : Value) (R : Value → WP) : WP :=
 B1 PR X (Instr.box 3 t0) fun t1 =>
 A0 PR (Instr.makeFunc (.func 239) #[] #[t1]) fun t3 =>
 R t3
theorem A9k : A9 PR 223 := A7 Tryz.func223 (by kernel_rfl) rfl
theorem B07 {X : Nat → Prop} {t0 : Value} {R : Value → WP} {w : World} (h : A47 X t0 R w) : Fn PR X 223 #[t0] w R := D5 (args := [t0]) mixed Tryz.func223 (by kernel_rfl) h
def A2a (X : Nat → Prop) (t0 t1 : Value) (R : Value → WP) : WP :=
 B1 PR X (Instr.box 75 t0) fun t2 =>
 A0 PR (Instr.fieldAt 75 t2 0) fun t4 =>
 A6 PR (Instr.loadAt 3 t4) fun t5 =>
 A6 PR (Instr.loadAt 3 t1) fun t6 =>
 A0 PR (binOp .eql 3 t5 t6) fun t7 =>
 R t7
theorem A68 : A9 PR 239 := A7 Tryz.func239 (by kernel_rfl) rfl
theorem A7m {X : Nat → Prop} {t0 t1 : Value} {R : Value → WP} {w : World} (h : A2a X t0 t1 R w) : Fn PR X 239 #[t0, t1] w R := D5 (args := [t0, t1]) mixed Tryz.func239 (by kernel_rfl) h
end Go.Proofs.YtpbmephflllolaaGreat
namespace Go.Proofs.YtpbmephflllolaaGreat
open Go
def A5E (X : Nat → Prop) (t0 : Value) (R : Value → WP) : WP :=
 B1 PR X (Instr.box 58 t0) fun t1 =>
 A0 PR (Instr.fieldAt 58 t1 0) fun t7 =>
 A6 PR (Instr.loadAt 56 t7) fun t8 =>
 B1 PR X (Instr.alloc 56 true (.tuple #[])) fun t4 =>
 C3 PR X (Instr.storeAt 56 t4 t8) <|
 jn (n := 2) (fun t2 t3 =>
 A0 PR (Instr.fieldAt 56 t4 5) fun t18 =>
 A6 PR (Instr.loadAt 3 t18) fun t19 =>
 A0 PR (Instr.fieldAt 56 t4 3) fun t20 =>
 A6 PR (Instr.loadAt 3 t20) fun t21 =>
 A0 PR (Instr.fieldAt 56 t4 4) fun t22 =>
 A6 PR (Instr.loadAt 3 t22) fun t23 =>
 A0 PR (Instr.fieldAt 58 t1 1) fun t24 =>
 A6 PR (Instr.loadAt 3 t24) fun t25 =>
 A0 PR (Instr.build 119 #[(0, t21), (1, t23), (2, t25)]) fun t26 =>
 B2 PR X 51 [t19, t26] fun t27 =>
 A0 PR (Instr.extract t27 0) fun t28 =>
 A0 PR (Instr.extract t27 1) fun t29 =>
 jn (n := 2) (fun t2_1 t3_1 =>
 jn (n := 2) (fun t2_2 t3_2 =>
 A0 PR (Instr.fieldAt 56 t4 1) fun t47 =>
 A6 PR (Instr.loadAt 9 t47) fun t48 =>
 A0 PR (Instr.fieldAt 56 t4 2) fun t49 =>
 A6 PR (Instr.loadAt 9 t49) fun t50 =>
 A0 PR (Instr.fieldAt 56 t4 5) fun t51 =>
 A6 PR (Instr.loadAt 3 t51) fun t52 =>
 A0 PR (Instr.build 124 #[(0, t48), (1, t50), (2, t52)]) fun t53 =>
 B2 PR X 53 [t53, t28] fun t55 =>
 A0 PR (Instr.extract t55 0) fun t56 =>
 A0 PR (Instr.extract t55 1) fun t57 =>
 R (.tuple #[t56, t57])) fun J1 =>
 A0 PR (Instr.fieldAt 56 t4 0) fun t33 =>
 A6 PR (Instr.loadAt 3 t33) fun t34 =>
 A0 PR (binOp .eql 3 t34 (.int .i64 6)) fun t35 =>
 C5 t35 (
 A0 PR (Instr.fieldAt 56 t4 1) fun t36 =>
 A6 PR (Instr.loadAt 9 t36) fun t37 =>
 A0 PR (Instr.fieldAt 56 t4 2) fun t38 =>
 A6 PR (Instr.loadAt 9 t38) fun t39 =>
 A0 PR (Instr.fieldAt 56 t4 5) fun t40 =>
 A6 PR (Instr.loadAt 3 t40) fun t41 =>
 A0 PR (Instr.build 122 #[(0, t37), (1, t39), (2, t41)]) fun t42 =>
 B2 PR X 52 [t42, t28] fun t44 =>
 A0 PR (Instr.extract t44 0) fun t45 =>
 A0 PR (Instr.extract t44 1) fun t46 =>
 R (.tuple #[t45, t46])) (
 J1 t2_1 t3_1)) fun J2 =>
 A0 PR (binOp .neq 28 t29 (.int .i64 0)) fun t31 =>
 C5 t31 (
 R (.tuple #[(.string (ByteArray.mk #[])), t29])) (
 J2 t2 t3)) fun J3 =>
 A0 PR (Instr.fieldAt 56 t4 0) fun t9 =>
 A6 PR (Instr.loadAt 3 t9) fun t10 =>
 A0 PR (binOp .neq 3 t10 (.int .i64 4)) fun t11 =>
 gj t11 true (fun J => A0 PR (Instr.fieldAt 56 t4 0) J) fun t13 =>
 gj t11 true (fun J => A6 PR (Instr.loadAt 3 t13) J) fun t14 =>
 gj t11 true (fun J => A0 PR (binOp .neq 3 t14 (.int .i64 6)) J) fun t15 =>
 A0 PR (do pure (if ← asBool t11 then t15 else (.bool false))) fun t16 =>
 C5 t16 (
 R (.tuple #[(.string (ByteArray.mk #[])), (.int .i64 3)])) (
 J3 (.string (ByteArray.mk #[])) (.int .i64 0))
theorem A0n : A9 PR 21 := A7 Tryz.func21 (by kernel_rfl) rfl
theorem B1D {X : Nat → Prop} {t0 : Value} {R : Value → WP} {w : World} (h : A5E X t0 R w) : Fn PR X 21 #[t0] w R := D5 (args := [t0]) mixed Tryz.func21 (by kernel_rfl) h
def A1j (X : Nat → Prop) (t0 : Value) (R : Value → WP) : WP :=
 B1 PR X (Instr.box 58 t0) fun t1 =>
 A0 PR (Instr.fieldAt 58 t1 0) fun t3 =>
 A0 PR (Instr.fieldAt 56 t3 5) fun t4 =>
 A6 PR (Instr.loadAt 3 t4) fun t5 =>
 A0 PR (binOp .eql 3 t5 (.int .i64 6)) fun t6 =>
 gj t6 true (fun J => A0 PR (Instr.fieldAt 58 t1 1) J) fun t8 =>
 gj t6 true (fun J => A6 PR (Instr.loadAt 3 t8) J) fun t9 =>
 gj t6 true (fun J => A0 PR (binOp .and 3 t9 (.int .i64 5)) J) fun t10 =>
 gj t6 true (fun J => A0 PR (binOp .neq 3 t10 (.int .i64 0)) J) fun t11 =>
 A0 PR (do pure (if ← asBool t6 then t11 else (.bool false))) fun t12 =>
 R t12
theorem A00 : A9 PR 22 := A7 Tryz.func22 (by kernel_rfl) rfl
theorem A7C {X : Nat → Prop} {t0 : Value} {R : Value → WP} {w : World} (h : A1j X t0 R w) : Fn PR X 22 #[t0] w R := D5 (args := [t0]) mixed Tryz.func22 (by kernel_rfl) h
def A20 (X : Nat → Prop) (t0 : Value) (R : Value → WP) : WP :=
 B1 PR X (Instr.box 56 t0) fun t1 =>
 A0 PR (Instr.fieldAt 56 t1 0) fun t8 =>
 A6 PR (Instr.loadAt 3 t8) fun t9 =>
 B2 PR X 54 [t9] fun t10 =>
 A0 PR (Instr.fieldAt 56 t1 5) fun t12 =>
 A6 PR (Instr.loadAt 3 t12) fun t13 =>
 A0 PR (Instr.fieldAt 56 t1 3) fun t14 =>
 A6 PR (Instr.loadAt 3 t14) fun t15 =>
 A0 PR (Instr.fieldAt 56 t1 4) fun t16 =>
 A6 PR (Instr.loadAt 3 t16) fun t17 =>
 A0 PR (Instr.build 119 #[(0, t15), (1, t17)]) fun t18 =>
 B2 PR X 51 [t13, t18] fun t19 =>
 A0 PR (Instr.extract t19 0) fun t20 =>
 A0 PR (Instr.extract t19 1) fun t21 =>
 jn (n := 2) (fun t2 t3 =>
 B1 PR X (Instr.alloc 126 true (.tuple #[])) fun t7 =>
 A0 PR (Instr.sliceAt 126 t7 none none none) fun t42 =>
 B1 PR X (A8 .clear #[127] 0 [t42]) fun _ =>
 drw <|
 A0 PR (Instr.sliceAt 126 t7 none none none) fun t43 =>
 A0 PR (Instr.fieldAt 56 t1 0) fun t44 =>
 A6 PR (Instr.loadAt 3 t44) fun t45 =>
 A0 PR (convert 3 129 t45) fun t46 =>
 A0 PR (binOp .shl 129 t46 (.int .u64 8)) fun t47 =>
 A0 PR (Instr.fieldAt 56 t1 5) fun t48 =>
 A6 PR (Instr.loadAt 3 t48) fun t49 =>
 A0 PR (convert 3 129 t49) fun t50 =>
 A0 PR (binOp .or 129 t47 t50) fun t51 =>
 A0 PR (Instr.fieldAt 56 t1 3) fun t53 =>
 A6 PR (Instr.loadAt 3 t53) fun t54 =>
 A0 PR (convert 3 129 t54) fun t55 =>
 A0 PR (Instr.fieldAt 56 t1 4) fun t58 =>
 A6 PR (Instr.loadAt 3 t58) fun t59 =>
 A0 PR (convert 3 129 t59) fun t60 =>
 B2 PR X 55 [t51, (.int .i64 2)] fun t52 =>
 watch PR [(none, (Instr.loadAt 3 t58), t59), (none, (Instr.loadAt 3 t53), t54)] <|
 B2 PR X 55 [t55, (.int .i64 2)] fun t56 =>
 watch PR [(none, (Instr.loadAt 3 t58), t59)] <|
 A0 PR (binOp .add 9 t52 t56) fun t57 =>
 B2 PR X 55 [t60, (.int .i64 2)] fun t61 =>
 A0 PR (binOp .add 9 t57 t61) fun t62 =>
 B1 PR X (A8 .copy #[127, 9] 3 [t43, t62]) fun t63 =>
 drw <|
 A0 PR (Instr.sliceAt 126 t7 (some (.int .i64 6)) none none) fun t64 =>
 A0 PR (Instr.fieldAt 56 t1 1) fun t65 =>
 A6 PR (Instr.loadAt 9 t65) fun t66 =>
 B1 PR X (A8 .copy #[127, 9] 3 [t64, t66]) fun t67 =>
 drw <|
 A0 PR (Instr.sliceAt 126 t7 (some (.int .i64 22)) none none) fun t68 =>
 A0 PR (Instr.fieldAt 56 t1 2) fun t69 =>
 A6 PR (Instr.loadAt 9 t69) fun t70 =>
 B1 PR X (A8 .copy #[127, 9] 3 [t68, t70]) fun t71 =>
 A0 PR (Instr.sliceAt 126 t7 none none none) fun t72 =>
 A6 PR (convert 127 9 t72) fun t73 =>
 R (.tuple #[t73, (.bool true)])) fun J1 =>
 A0 PR (binOp .eql 3 t10 (.int .i64 0)) fun t23 =>
 gj t23 false (fun J => A0 PR (Instr.fieldAt 56 t1 1) J) fun t25 =>
 gj t23 false (fun J => A6 PR (Instr.loadAt 9 t25) J) fun t26 =>
 gj t23 false (fun J => A0 PR (A8 .len #[9] 0 [t26]) J) fun t27 =>
 gj t23 false (fun J => J t10) fun t28 =>
 gj t23 false (fun J => A0 PR (binOp .neq 3 t27 t28) J) fun t29 =>
 A0 PR (do pure (if ← asBool t23 then (.bool true) else t29)) fun t30 =>
 gj t30 false (fun J => A0 PR (Instr.fieldAt 56 t1 2) J) fun t32 =>
 gj t30 false (fun J => A6 PR (Instr.loadAt 9 t32) J) fun t33 =>
 gj t30 false (fun J => A0 PR (A8 .len #[9] 0 [t33]) J) fun t34 =>
 gj t30 false (fun J => J t10) fun t35 =>
 gj t30 false (fun J => A0 PR (binOp .neq 3 t34 t35) J) fun t36 =>
 A0 PR (do pure (if ← asBool t30 then (.bool true) else t36)) fun t37 =>
 gj t37 false (fun J => J t21) fun t39 =>
 gj t37 false (fun J => A0 PR (binOp .neq 28 t39 (.int .i64 0)) J) fun t40 =>
 A0 PR (do pure (if ← asBool t37 then (.bool true) else t40)) fun t41 =>
 C5 t41 (
 R (.tuple #[(.string (ByteArray.mk #[])), (.bool false)])) (
 J1 (.string (ByteArray.mk #[])) (.bool false))
theorem A2Q : A9 PR 23 := A7 Tryz.func23 (by kernel_rfl) rfl
theorem A9G {X : Nat → Prop} {t0 : Value} {R : Value → WP} {w : World} (h : A20 X t0 R w) : Fn PR X 23 #[t0] w R := D5 (args := [t0]) mixed Tryz.func23 (by kernel_rfl) h
def A4M (X : Nat → Prop) (t0 : Value) (R : Value → WP) : WP :=
 jn (n := 1) (fun t2 =>
 R (.int .i64 0)) fun J1 =>
 A0 PR (binOp .eql 3 t0 (.int .i64 4)) fun t5 =>
 C5 t5 (
 R (.int .i64 4)) (
 A0 PR (binOp .eql 3 t0 (.int .i64 6)) fun t7 =>
 C5 t7 (
 R (.int .i64 16)) (
 J1 (.int .i64 0)))
theorem A8p : A9 PR 54 := A7 Tryz.func54 (by kernel_rfl) rfl
theorem A9a {X : Nat → Prop} {t0 : Value} {R : Value → WP} {w : World} (h : A4M X t0 R w) : Fn PR X 54 #[t0] w R := D5 (args := [t0]) mixed Tryz.func54 (by kernel_rfl) h
def A3M (X : Nat → Prop) (t0 : Value) (R : Value → WP) : WP :=
 B1 PR X (Instr.alloc 58 true (.tuple #[])) fun t2 =>
 B2 PR X 100 [t0] fun t10 =>
 A0 PR (Instr.extract t10 0) fun t11 =>
 A0 PR (Instr.extract t10 1) fun t12 =>
 A0 PR (Instr.extract t10 2) fun t13 =>
 B1 PR X (Instr.alloc 56 true (.tuple #[])) fun t4 =>
 C3 PR X (Instr.storeAt 56 t4 t11) <|
 jn (n := 1) (fun t3 =>
 A0 PR (Instr.fieldAt 56 t4 5) fun t19 =>
 A6 PR (Instr.loadAt 3 t19) fun t20 =>
 B2 PR X 101 [t20, t12] fun t22 =>
 A0 PR (Instr.extract t22 0) fun t23 =>
 A0 PR (Instr.extract t22 1) fun t24 =>
 B1 PR X (Instr.alloc 119 true (.tuple #[])) fun t7 =>
 C3 PR X (Instr.storeAt 119 t7 t23) <|
 jn (n := 1) (fun t3_1 =>
 drw <|
 A0 PR (Instr.fieldAt 119 t7 0) fun t29 =>
 A6 PR (Instr.loadAt 3 t29) fun t30 =>
 A0 PR (Instr.fieldAt 119 t7 1) fun t31 =>
 A6 PR (Instr.loadAt 3 t31) fun t32 =>
 A0 PR (Instr.fieldAt 56 t4 3) fun t33 =>
 C3 PR X (Instr.storeAt 3 t33 t30) <|
 watch PR [(none, (Instr.loadAt 3 t31), t32)] <|
 A0 PR (Instr.fieldAt 56 t4 4) fun t34 =>
 C3 PR X (Instr.storeAt 3 t34 t32) <|
 A6 PR (Instr.loadAt 56 t4) fun t35 =>
 A0 PR (Instr.fieldAt 119 t7 2) fun t36 =>
 A6 PR (Instr.loadAt 3 t36) fun t37 =>
 A0 PR (Instr.build 58 #[(0, t35), (1, t37)]) fun t38 =>
 C3 PR X (Instr.storeAt 58 t2 t38) <|
 A6 PR (E3 [.c 58 t2, .v (.int .i64 0)]) R) fun J1 =>
 A0 PR (binOp .neq 28 t24 (.int .i64 0)) fun t26 =>
 C5 t26 (
 A0 PR (Instr.build 58 #[]) fun t27 =>
 C3 PR X (Instr.storeAt 58 t2 t27) <|
 A6 PR (E3 [.c 58 t2, .v t24]) R) (
 J1 t3)) fun J2 =>
 A0 PR (binOp .neq 28 t13 (.int .i64 0)) fun t15 =>
 C5 t15 (
 A0 PR (Instr.build 58 #[]) fun t16 =>
 C3 PR X (Instr.storeAt 58 t2 t16) <|
 A6 PR (E3 [.c 58 t2, .v t13]) R) (
 J2 (.int .i64 0))
theorem A72 : A9 PR 56 := A7 Tryz.func56 (by kernel_rfl) rfl
theorem A8c {X : Nat → Prop} {t0 : Value} {R : Value → WP} {w : World} (h : A3M X t0 R w) : Fn PR X 56 #[t0] w R := D5 (args := [t0]) mixed Tryz.func56 (by kernel_rfl) h
def A2z (X : Nat → Prop) (t0 : Value) (R : Value → WP) : WP :=
 B1 PR X (Instr.alloc 56 true (.tuple #[])) fun t2 =>
 jn (n := 2) (fun t3 t4 =>
 A0 PR (Instr.build 56 #[]) fun t29 =>
 C3 PR X (Instr.storeAt 56 t2 t29) <|
 A6 PR (E3 [.c 56 t2, .v (.string (ByteArray.mk #[])), .v (.int .i64 3)]) R) fun J1 =>
 A0 PR (binOp .eql 9 t0 (.string (ByteArray.mk #[]))) fun t7 =>
 C5 t7 (
 A0 PR (Instr.build 56 #[]) fun t8 =>
 C3 PR X (Instr.storeAt 56 t2 t8) <|
 A6 PR (E3 [.c 56 t2, .v (.string (ByteArray.mk #[])), .v (.int .i64 2)]) R) (
 A0 PR (Instr.index 9 t0 (.int .i64 0)) fun t11 =>
 A0 PR (binOp .shr 5 t11 (.int .u64 4)) fun t12 =>
 A0 PR (binOp .eql 5 t12 (.int .u8 4)) fun t13 =>
 C5 t13 (
 B2 PR X 142 [t0, (.func (.func 143) #[] #[]), (.func (.func 144) #[] #[])] fun t15 =>
 A0 PR (Instr.extract t15 0) fun t16 =>
 A0 PR (Instr.extract t15 1) fun t17 =>
 A0 PR (Instr.extract t15 2) fun t18 =>
 C3 PR X (Instr.storeAt 56 t2 t16) <|
 A6 PR (E3 [.c 56 t2, .v t17, .v t18]) R) (
 A0 PR (Instr.index 9 t0 (.int .i64 0)) fun t21 =>
 A0 PR (binOp .shr 5 t21 (.int .u64 4)) fun t22 =>
 A0 PR (binOp .eql 5 t22 (.int .u8 6)) fun t23 =>
 C5 t23 (
 B2 PR X 145 [t0, (.func (.func 146) #[] #[]), (.func (.func 147) #[] #[])] fun t25 =>
 A0 PR (Instr.extract t25 0) fun t26 =>
 A0 PR (Instr.extract t25 1) fun t27 =>
 A0 PR (Instr.extract t25 2) fun t28 =>
 C3 PR X (Instr.storeAt 56 t2 t26) <|
 A6 PR (E3 [.c 56 t2, .v t27, .v t28]) R) (
 J1 (.string (ByteArray.mk #[])) (.int .i64 0))))
theorem A7u : A9 PR 100 := A7 Tryz.func100 (by kernel_rfl) rfl
theorem A8L {X : Nat → Prop} {t0 : Value} {R : Value → WP} {w : World} (h : A2z X t0 R w) : Fn PR X 100 #[t0] w R := D5 (args := [t0]) mixed Tryz.func100 (by kernel_rfl) h
def p8 (X : Nat → Prop) (t0 t1 t2 : Value) (R : Value → WP) : WP :=
 B1 PR X (Instr.alloc 56 true (.tuple #[])) fun t6 =>
 H3 PR X t1 [t0] fun t15 =>
 A0 PR (Instr.extract t15 0) fun t16 =>
 A0 PR (Instr.extract t15 1) fun t17 =>
 A0 PR (Instr.extract t15 2) fun t18 =>
 B1 PR X (Instr.alloc 124 true (.tuple #[])) fun t9 =>
 C3 PR X (Instr.storeAt 124 t9 t16) <|
 A6 PR (Instr.loadAt 124 t9) fun t20 =>
 H3 PR X t2 [t20] fun t21 =>
 C3 PR X (Instr.storeAt 56 t6 t21) <|
 A6 PR (E3 [.c 56 t6, .v t17, .v t18]) R
theorem A2K : A9 PR 142 := A7 Tryz.func142 (by kernel_rfl) rfl
theorem A2n {X : Nat → Prop} {t0 t1 t2 : Value} {R : Value → WP} {w : World} (h : p8 X t0 t1 t2 R w) : Fn PR X 142 #[t0, t1, t2] w R := D5 (args := [t0, t1, t2]) mixed Tryz.func142 (by kernel_rfl) h
def A1A (X : Nat → Prop) (t0 : Value) (R : Value → WP) : WP :=
 B1 PR X (Instr.box 124 t0) fun t1 =>
 B1 PR X (Instr.alloc 56 true (.tuple #[])) fun t2 =>
 A0 PR (Instr.fieldAt 124 t1 0) fun t3 =>
 A6 PR (Instr.loadAt 9 t3) fun t4 =>
 A0 PR (Instr.fieldAt 124 t1 1) fun t5 =>
 A6 PR (Instr.loadAt 9 t5) fun t6 =>
 A0 PR (Instr.fieldAt 124 t1 2) fun t7 =>
 A6 PR (Instr.loadAt 3 t7) fun t8 =>
 A0 PR (Instr.build 56 #[(0, (.int .i64 4)), (1, t4), (2, t6), (5, t8)]) fun t9 =>
 C3 PR X (Instr.storeAt 56 t2 t9) <|
 A6 PR (E3 [.c 56 t2]) R
theorem A5S : A9 PR 144 := A7 Tryz.func144 (by kernel_rfl) rfl
theorem A6S {X : Nat → Prop} {t0 : Value} {R : Value → WP} {w : World} (h : A1A X t0 R w) : Fn PR X 144 #[t0] w R := D5 (args := [t0]) mixed Tryz.func144 (by kernel_rfl) h
def p5 (X : Nat → Prop) (t0 t1 t2 : Value) (R : Value → WP) : WP :=
 B1 PR X (Instr.alloc 56 true (.tuple #[])) fun t6 =>
 H3 PR X t1 [t0] fun t15 =>
 A0 PR (Instr.extract t15 0) fun t16 =>
 A0 PR (Instr.extract t15 1) fun t17 =>
 A0 PR (Instr.extract t15 2) fun t18 =>
 B1 PR X (Instr.alloc 122 true (.tuple #[])) fun t9 =>
 C3 PR X (Instr.storeAt 122 t9 t16) <|
 A6 PR (Instr.loadAt 122 t9) fun t20 =>
 H3 PR X t2 [t20] fun t21 =>
 C3 PR X (Instr.storeAt 56 t6 t21) <|
 A6 PR (E3 [.c 56 t6, .v t17, .v t18]) R
theorem A2H : A9 PR 145 := A7 Tryz.func145 (by kernel_rfl) rfl
theorem A2q {X : Nat → Prop} {t0 t1 t2 : Value} {R : Value → WP} {w : World} (h : p5 X t0 t1 t2 R w) : Fn PR X 145 #[t0, t1, t2] w R := D5 (args := [t0, t1, t2]) mixed Tryz.func145 (by kernel_rfl) h
def A1H (X : Nat → Prop) (t0 : Value) (R : Value → WP) : WP :=
 B1 PR X (Instr.box 122 t0) fun t1 =>
 B1 PR X (Instr.alloc 56 true (.tuple #[])) fun t2 =>
 A0 PR (Instr.fieldAt 122 t1 0) fun t3 =>
 A6 PR (Instr.loadAt 9 t3) fun t4 =>
 A0 PR (Instr.fieldAt 122 t1 1) fun t5 =>
 A6 PR (Instr.loadAt 9 t5) fun t6 =>
 A0 PR (Instr.fieldAt 122 t1 2) fun t7 =>
 A6 PR (Instr.loadAt 3 t7) fun t8 =>
 A0 PR (Instr.build 56 #[(0, (.int .i64 6)), (1, t4), (2, t6), (5, t8)]) fun t9 =>
 C3 PR X (Instr.storeAt 56 t2 t9) <|
 A6 PR (E3 [.c 56 t2]) R
theorem A5V : A9 PR 147 := A7 Tryz.func147 (by kernel_rfl) rfl
theorem A6e {X : Nat → Prop} {t0 : Value} {R : Value → WP} {w : World} (h : A1H X t0 R w) : Fn PR X 147 #[t0] w R := D5 (args := [t0]) mixed Tryz.func147 (by kernel_rfl) h
end Go.Proofs.YtpbmephflllolaaGreat
namespace Go.Proofs.YtpbmephflllolaaGreat
open Go
def A7L (X : Nat → Prop) (t0 t1 : Value) (R : Value → WP) : WP :=
 B1 PR X (Instr.box 119 t1) fun t3 =>
 B2 PR X 92 [] fun t11 =>
 A6 PR (Instr.lookup 181 t11 t0 false) fun t13 =>
 jn (n := 2) (fun t4 t5 =>
 A6 PR (Instr.loadAt 119 t3) fun t17 =>
 B2 PR X 93 [t17] fun t18 =>
 A0 PR (Instr.extract t18 0) fun t19 =>
 A0 PR (Instr.extract t18 1) fun t20 =>
 A0 PR (Instr.fieldAt 119 t3 2) fun t23 =>
 A6 PR (Instr.loadAt 3 t23) fun t24 =>
 inv PR X t13 "gangplank/port.put" [t24] fun t25 =>
 A0 PR (Instr.extract t25 0) fun t26 =>
 A0 PR (Instr.extract t25 1) fun t27 =>
 jn (n := 2) (fun t4_1 t5_1 =>
 A0 PR (binOp .add 9 t19 t26) fun t36 =>
 R (.tuple #[t36, (.int .i64 0)])) fun J1 =>
 A0 PR (Op.unary .not t20) fun t29 =>
 gj t29 false (fun J => J t27) fun t31 =>
 gj t29 false (fun J => A0 PR (binOp .neq 28 t31 (.int .i64 0)) J) fun t32 =>
 A0 PR (do pure (if ← asBool t29 then (.bool true) else t32)) fun t33 =>
 C5 t33 (
 R (.tuple #[(.string (ByteArray.mk #[])), (.int .i64 1)])) (
 J1 t4 t5)) fun J2 =>
 A6 PR (N4 .eql 180 (.tmp 14) (.const .nilIface) t13 .nilIface) fun t15 =>
 C5 t15 (
 R (.tuple #[(.string (ByteArray.mk #[])), (.int .i64 7)])) (
 J2 (.string (ByteArray.mk #[])) (.int .i64 0))
theorem A2A : A9 PR 51 := A7 Tryz.func51 (by kernel_rfl) rfl
theorem B3j {X : Nat → Prop} {t0 t1 : Value} {R : Value → WP} {w : World} (h : A7L X t0 t1 R w) : Fn PR X 51 #[t0, t1] w R := D5 (args := [t0, t1]) mixed Tryz.func51 (by kernel_rfl) h
def A4T (X : Nat → Prop) (R : Value → WP) : WP :=
 B1 PR X (Instr.makeMap 181 none) fun t1 =>
 A0 PR (Instr.build 246 #[]) fun t2 =>
 A0 PR (Instr.makeInterface 246 t2) fun t3 =>
 C3 PR X (Instr.mapUpdate 181 t1 (.int .i64 6) t3) <|
 A0 PR (Instr.build 247 #[]) fun t4 =>
 A0 PR (Instr.makeInterface 247 t4) fun t5 =>
 C3 PR X (Instr.mapUpdate 181 t1 (.int .i64 17) t5) <|
 R t1
theorem A2x : A9 PR 92 := A7 Tryz.func92 (by kernel_rfl) rfl
theorem A9e {X : Nat → Prop} {R : Value → WP} {w : World} (h : A4T X R w) : Fn PR X 92 #[] w R := D5 (args := []) mixed Tryz.func92 (by kernel_rfl) h
def A5P (X : Nat → Prop) (t0 : Value) (R : Value → WP) : WP :=
 B1 PR X (Instr.box 119 t0) fun t1 =>
 jn (n := 2) (fun t4 t5 =>
 A0 PR (binOp .eql 3 t5 (.int .i64 2)) fun t37 =>
 R (.tuple #[t4, t37])) fun J1 =>
 jn (n := 2) (fun t4_1 t5_1 =>
 jn (n := 2) (fun t4_2 t5_2 =>
 J1 t4_2 t5_2) fun J2 =>
 A0 PR (Instr.fieldAt 119 t1 1) fun t19 =>
 A6 PR (Instr.loadAt 3 t19) fun t20 =>
 A0 PR (binOp .geq 3 t20 (.int .i64 0)) fun t21 =>
 gj t21 true (fun J => A0 PR (Instr.fieldAt 119 t1 1) J) fun t23 =>
 gj t21 true (fun J => A6 PR (Instr.loadAt 3 t23) J) fun t24 =>
 gj t21 true (fun J => A0 PR (binOp .leq 3 t24 (.int .i64 65535)) J) fun t25 =>
 A0 PR (do pure (if ← asBool t21 then t25 else (.bool false))) fun t26 =>
 C5 t26 (
 A0 PR (Instr.fieldAt 119 t1 1) fun t28 =>
 A6 PR (Instr.loadAt 3 t28) fun t29 =>
 A0 PR (convert 3 129 t29) fun t30 =>
 B2 PR X 55 [t30, (.int .i64 2)] fun t31 =>
 A0 PR (binOp .add 9 t4_1 t31) fun t32 =>
 A0 PR (binOp .add 3 t5_1 (.int .i64 1)) fun t34 =>
 J2 t32 t34) (
 J2 t4_1 t5_1)) fun J3 =>
 jn (n := 0) (
 A0 PR (Instr.fieldAt 119 t1 0) fun t15 =>
 A6 PR (Instr.loadAt 3 t15) fun t16 =>
 A0 PR (convert 3 129 t16) fun t17 =>
 B2 PR X 55 [t17, (.int .i64 2)] fun t18 =>
 J3 t18 (.int .i64 1)) fun J4 =>
 jn (n := 0) (
 J3 (.string (ByteArray.mk #[])) (.int .i64 0)) fun J5 =>
 A0 PR (Instr.fieldAt 119 t1 0) fun t7 =>
 A6 PR (Instr.loadAt 3 t7) fun t8 =>
 A0 PR (binOp .geq 3 t8 (.int .i64 0)) fun t9 =>
 gj t9 true (fun J => A0 PR (Instr.fieldAt 119 t1 0) J) fun t11 =>
 gj t9 true (fun J => A6 PR (Instr.loadAt 3 t11) J) fun t12 =>
 gj t9 true (fun J => A0 PR (binOp .leq 3 t12 (.int .i64 65535)) J) fun t13 =>
 A0 PR (do pure (if ← asBool t9 then t13 else (.bool false))) fun t14 =>
 C5 t14 (
 J4) (
 J5)
theorem A3r : A9 PR 93 := A7 Tryz.func93 (by kernel_rfl) rfl
theorem B1Q {X : Nat → Prop} {t0 : Value} {R : Value → WP} {w : World} (h : A5P X t0 R w) : Fn PR X 93 #[t0] w R := D5 (args := [t0]) mixed Tryz.func93 (by kernel_rfl) h
def A5M (X : Nat → Prop) (t0 t1 : Value) (R : Value → WP) : WP :=
 B1 PR X (Instr.alloc 119 true (.tuple #[])) fun t4 =>
 B2 PR X 92 [] fun t13 =>
 A6 PR (Instr.lookup 181 t13 t0 false) fun t15 =>
 jn (n := 1) (fun t5 =>
 inv PR X t15 "gangplank/port.parse" [t1] fun t22 =>
 A0 PR (Instr.extract t22 0) fun t23 =>
 A0 PR (Instr.extract t22 1) fun t24 =>
 jn (n := 1) (fun t5_1 =>
 B2 PR X 148 [t1, (.int .i64 0), (.int .i64 2)] fun t31 =>
 A0 PR (Instr.extract t31 0) fun t32 =>
 A0 PR (Instr.extract t31 1) fun t33 =>
 B2 PR X 148 [t1, (.int .i64 2), (.int .i64 2)] fun t36 =>
 A0 PR (Instr.extract t36 0) fun t37 =>
 A0 PR (Instr.extract t36 1) fun t38 =>
 A0 PR (convert 129 3 t32) fun t40 =>
 A0 PR (convert 129 3 t37) fun t42 =>
 A0 PR (Instr.build 119 #[(0, t40), (1, t42), (2, t23)]) fun t44 =>
 C3 PR X (Instr.storeAt 119 t4 t44) <|
 A6 PR (E3 [.c 119 t4, .v (.int .i64 0)]) R) fun J1 =>
 A0 PR (binOp .neq 28 t24 (.int .i64 0)) fun t26 =>
 C5 t26 (
 A0 PR (Instr.build 119 #[]) fun t27 =>
 C3 PR X (Instr.storeAt 119 t4 t27) <|
 A6 PR (E3 [.c 119 t4, .v t24]) R) (
 J1 t5)) fun J2 =>
 A6 PR (N4 .eql 180 (.tmp 16) (.const .nilIface) t15 .nilIface) fun t17 =>
 C5 t17 (
 A0 PR (Instr.build 119 #[]) fun t18 =>
 C3 PR X (Instr.storeAt 119 t4 t18) <|
 A6 PR (E3 [.c 119 t4, .v (.int .i64 7)]) R) (
 J2 (.int .i64 0))
theorem A9q : A9 PR 101 := A7 Tryz.func101 (by kernel_rfl) rfl
theorem B0w {X : Nat → Prop} {t0 t1 : Value} {R : Value → WP} {w : World} (h : A5M X t0 t1 R w) : Fn PR X 101 #[t0, t1] w R := D5 (args := [t0, t1]) mixed Tryz.func101 (by kernel_rfl) h
def A1b (X : Nat → Prop) (t0 t1 : Value) (R : Value → WP) : WP :=
 B1 PR X (Instr.box 246 t0) fun t2 =>
 jn (n := 2) (fun t4 t5 =>
 jn (n := 2) (fun t4_1 t5_1 =>
 A0 PR (Instr.index 9 t1 (.int .i64 13)) fun t24 =>
 A0 PR (convert 5 3 t24) fun t25 =>
 R (.tuple #[t25, (.int .i64 0)])) fun J1 =>
 A0 PR (Instr.index 9 t1 (.int .i64 12)) fun t11 =>
 A0 PR (binOp .shr 5 t11 (.int .u64 4)) fun t12 =>
 A0 PR (convert 5 3 t12) fun t13 =>
 A0 PR (binOp .mul 3 t13 (.int .i64 4)) fun t14 =>
 A0 PR (binOp .lss 3 t14 (.int .i64 20)) fun t16 =>
 gj t16 false (fun J => J t14) fun t18 =>
 gj t16 false (fun J => J t1) fun t19 =>
 gj t16 false (fun J => A0 PR (A8 .len #[9] 0 [t19]) J) fun t20 =>
 gj t16 false (fun J => A0 PR (binOp .gtr 3 t18 t20) J) fun t21 =>
 A0 PR (do pure (if ← asBool t16 then (.bool true) else t21)) fun t22 =>
 C5 t22 (
 R (.tuple #[(.int .i64 0), (.int .i64 8)])) (
 J1 t4 t5)) fun J2 =>
 A0 PR (A8 .len #[9] 0 [t1]) fun t8 =>
 A0 PR (binOp .lss 3 t8 (.int .i64 20)) fun t9 =>
 C5 t9 (
 R (.tuple #[(.int .i64 0), (.int .i64 2)])) (
 J2 (.int .i64 0) (.int .i64 0))
theorem A7K {X : Nat → Prop} {t0 t1 : Value} {R : Value → WP} {w : World} (h : A1b X t0 t1 R w) : Fn PR X 265 #[t0, t1] w R := D5 (args := [t0, t1]) mixed Tryz.func265 (by kernel_rfl) h
def A26 (X : Nat → Prop) (t0 t1 : Value) (R : Value → WP) : WP :=
 B1 PR X (Instr.box 246 t0) fun t2 =>
 jn (n := 2) (fun t4 t5 =>
 B2 PR X 267 [(.string (ByteArray.mk #[0])), (.int .i64 8)] fun t12 =>
 A0 PR (binOp .add 9 t12 (.string (ByteArray.mk #[80]))) fun t13 =>
 A0 PR (convert 3 129 t1) fun t15 =>
 B2 PR X 55 [t15, (.int .i64 1)] fun t16 =>
 A0 PR (binOp .add 9 t13 t16) fun t17 =>
 B2 PR X 267 [(.string (ByteArray.mk #[0])), (.int .i64 6)] fun t18 =>
 A0 PR (binOp .add 9 t17 t18) fun t19 =>
 R (.tuple #[t19, (.int .i64 0)])) fun J1 =>
 A0 PR (binOp .lss 3 t1 (.int .i64 0)) fun t7 =>
 gj t7 false (fun J => J t1) fun t9 =>
 gj t7 false (fun J => A0 PR (binOp .gtr 3 t9 (.int .i64 255)) J) fun t10 =>
 A0 PR (do pure (if ← asBool t7 then (.bool true) else t10)) fun t11 =>
 C5 t11 (
 R (.tuple #[(.string (ByteArray.mk #[])), (.int .i64 1)])) (
 J1 (.string (ByteArray.mk #[])) (.int .i64 0))
theorem A8f {X : Nat → Prop} {t0 t1 : Value} {R : Value → WP} {w : World} (h : A26 X t0 t1 R w) : Fn PR X 266 #[t0, t1] w R := D5 (args := [t0, t1]) mixed Tryz.func266 (by kernel_rfl) h
def A1c (X : Nat → Prop) (t0 t1 : Value) (R : Value → WP) : WP :=
 B1 PR X (Instr.box 247 t0) fun t2 =>
 jn (n := 2) (fun t4 t5 =>
 jn (n := 2) (fun t4_1 t5_1 =>
 R (.tuple #[(.int .i64 0), (.int .i64 0)])) fun J1 =>
 B2 PR X 148 [t1, (.int .i64 4), (.int .i64 2)] fun t13 =>
 A0 PR (Instr.extract t13 0) fun t14 =>
 A0 PR (Instr.extract t13 1) fun t15 =>
 A0 PR (binOp .lss 129 t14 (.int .u64 8)) fun t17 =>
 gj t17 false (fun J => J t14) fun t19 =>
 gj t17 false (fun J => J t1) fun t20 =>
 gj t17 false (fun J => A0 PR (A8 .len #[9] 0 [t20]) J) fun t21 =>
 gj t17 false (fun J => A0 PR (convert 3 129 t21) J) fun t22 =>
 gj t17 false (fun J => A0 PR (binOp .gtr 129 t19 t22) J) fun t23 =>
 A0 PR (do pure (if ← asBool t17 then (.bool true) else t23)) fun t24 =>
 C5 t24 (
 R (.tuple #[(.int .i64 0), (.int .i64 4)])) (
 J1 t4 t5)) fun J2 =>
 A0 PR (A8 .len #[9] 0 [t1]) fun t9 =>
 A0 PR (binOp .lss 3 t9 (.int .i64 8)) fun t10 =>
 C5 t10 (
 R (.tuple #[(.int .i64 0), (.int .i64 2)])) (
 J2 (.int .i64 0) (.int .i64 0))
theorem A7A {X : Nat → Prop} {t0 t1 : Value} {R : Value → WP} {w : World} (h : A1c X t0 t1 R w) : Fn PR X 277 #[t0, t1] w R := D5 (args := [t0, t1]) mixed Tryz.func277 (by kernel_rfl) h
def A21 (X : Nat → Prop) (t0 t1 : Value) (R : Value → WP) : WP :=
 B1 PR X (Instr.box 247 t0) fun t2 =>
 jn (n := 2) (fun t4 t5 =>
 R (.tuple #[(.string (ByteArray.mk #[0, 8, 0, 0])), (.int .i64 0)])) fun J1 =>
 A0 PR (binOp .neq 3 t1 (.int .i64 0)) fun t7 =>
 C5 t7 (
 R (.tuple #[(.string (ByteArray.mk #[])), (.int .i64 1)])) (
 J1 (.string (ByteArray.mk #[])) (.int .i64 0))
theorem A8T {X : Nat → Prop} {t0 t1 : Value} {R : Value → WP} {w : World} (h : A21 X t0 t1 R w) : Fn PR X 278 #[t0, t1] w R := D5 (args := [t0, t1]) mixed Tryz.func278 (by kernel_rfl) h
end Go.Proofs.YtpbmephflllolaaGreat
