/- The proof of a given statement, a part of it. No condition but what each lemma says. -/
import Derived.Laws.BytesString
import Derived.Test.YtjobgnabneddjaaGreatK6
set_option linter.unusedVariables false
set_option linter.unusedSimpArgs false
namespace Go.Proofs.YtjobgnabneddjaaGreat
open Go
section
variable {P:Program} {t:TypeId} {n m:Nat} {z:Value} {K:Value → WP}
@[simp] theorem D96 (a b:ByteArray):A0 P (binOp .eql t (.string a) (.string b)) K = K (.bool (a == b)):=F9 (fun w=> by simp [binOp,Op.stringOp,beq_toListBytes]) K
theorem S1 {a b:ByteArray} (h:a.size + b.size ≤ 9223372036854775807):A0 P (binOp .add t (.string a) (.string b)) K = K (.string (a ++ b)):=F9 (fun w=> by
 have:¬ (((a.size + b.size:Nat):Int) > IntKind.i64.max):=by simp [IntKind.max,IntKind.bits,IntKind.signed]; omega
 simp only [binOp,Op.stringOp,if_neg this,Sem.run_pure]) K
theorem C9W (h:TI P t .string n m z) {k1 k2:IntKind} {lo hi:Int} {s:ByteArray} (h0:0 ≤ lo) (h1:lo ≤ hi) (h2:hi ≤ s.size) :
  A0 P (Instr.sliceAt t (.string s) (some (.int k1 lo)) (some (.int k2 hi)) none) K = K (.string (s.extract lo.toNat hi.toNat)) :=
 F9 (fun w=> by
  have h3:0 ≤ hi:=by omega
  have h4:lo ≤ (hi.toNat:Int):=by omega
  simp [Instr.sliceAt,h.run_und,Instr.slice,Instr.sliceBounds,Instr.sliceBound,asIntOf,h0,h2,h3,h4]
  intro h5; omega) K
theorem C59 (h:TI P t .string n m z) {k1:IntKind} {lo:Int} {s:ByteArray} (h0:0 ≤ lo) (h1:lo ≤ s.size) :
  A0 P (Instr.sliceAt t (.string s) (some (.int k1 lo)) none none) K = K (.string (s.extract lo.toNat s.size)) :=
 F9 (fun w=> by
  simp [Instr.sliceAt,h.run_und,Instr.slice,Instr.sliceBounds,Instr.sliceBound,asIntOf,h0,h1]) K
theorem C6P (h:TI P t .string n m z) {k1:IntKind} {hi:Int} {s:ByteArray} (h0:0 ≤ hi) (h1:hi ≤ s.size) :
  A0 P (Instr.sliceAt t (.string s) none (some (.int k1 hi)) none) K = K (.string (s.extract 0 hi.toNat)) :=
 F9 (fun w=> by
  simp [Instr.sliceAt,h.run_und,Instr.slice,Instr.sliceBounds,Instr.sliceBound,asIntOf,h0,h1]) K
theorem C8v (h:TI P t .string n m z) {k1:IntKind} {i:Int} {s:ByteArray} {b:UInt8} (h0:0 ≤ i) (h1:s[i.toNat]? = some b) :
  A0 P (Instr.index t (.string s) (.int k1 i)) K = K (.int .u8 b.toNat) :=
 F9 (fun w=> by
  simp [Instr.index,h.run_und,asIntOf,h0,h1]) K
@[simp] theorem E0A {k j:IntKind} {a y:Int} (h:0 ≤ y):A0 P (binOp .shl t (.int k a) (.int j y)) K = K (.int k (k.wrap (a * 2 ^ (min y.toNat k.bits)))):=F9 (fun w=> by
 have:¬ y < 0:=by omega
 simp [binOp,Op.shift,this]) K
@[simp] theorem E0C {k j:IntKind} {a y:Int} (h:0 ≤ y):A0 P (binOp .shr t (.int k a) (.int j y)) K = K (.int k (a.fdiv (2 ^ (min y.toNat k.bits)))):=F9 (fun w=> by
 have:¬ y < 0:=by omega
 simp [binOp,Op.shift,this]) K
@[simp] theorem E0U {k:IntKind} {a b:Int}:A0 P (binOp .or t (.int k a) (.int k b)) K = K (.int k (k.wrap (BitVec.ofInt k.bits a ||| BitVec.ofInt k.bits b).toNat)):=F9 (fun w=> by simp [binOp,Op.intBits]) K
@[simp] theorem E0N {k:IntKind} {a b:Int}:A0 P (binOp .and t (.int k a) (.int k b)) K = K (.int k (k.wrap (BitVec.ofInt k.bits a &&& BitVec.ofInt k.bits b).toNat)):=F9 (fun w=> by simp [binOp,Op.intBits]) K
@[simp] theorem E0P {k:IntKind} {a b:Int}:A0 P (binOp .xor t (.int k a) (.int k b)) K = K (.int k (k.wrap (BitVec.ofInt k.bits a ^^^ BitVec.ofInt k.bits b).toNat)):=F9 (fun w=> by simp [binOp,Op.intBits]) K
end
@[simp] theorem A09 {n:Int} (h1:0 ≤ n) (h2:n < 18446744073709551616):IntKind.u64.wrap n = n:=by
 simp [IntKind.wrap,IntKind.bits,IntKind.signed]; omega
@[simp] theorem D95 {n:Int} (h1:0 ≤ n) (h2:n < 256):IntKind.u8.wrap n = n:=by
 simp [IntKind.wrap,IntKind.bits,IntKind.signed]; omega
theorem D3K {A b e:Nat} (hb:b < 256):(A * 256 ^ (e + 1)) ||| (b * 256 ^ e) = (A * 256 + b) * 256 ^ e:=by
 have h1:(256:Nat) ^ e = 2 ^ (8 * e):=by rw [Nat.pow_mul]
 have h2:(256:Nat) ^ (e + 1) = 2 ^ (8 * e + 8):=by rw [Nat.pow_succ,h1,Nat.pow_add]
 have hlt:b * 256 ^ e < 2 ^ (8 * e + 8):=by
  rw [← h2,Nat.pow_succ,Nat.mul_comm (256 ^ e)]
  exact Nat.mul_lt_mul_of_pos_right hb (Nat.pow_pos (by omega))
 have h3:=Nat.shiftLeft_add_eq_or_of_lt hlt A
 rw [Nat.shiftLeft_eq,← h2] at h3
 rw [← h3,Nat.pow_succ,Nat.add_mul]
 congr 1
 rw [Nat.mul_comm (256 ^ e) 256,Nat.mul_assoc]
theorem D1U {A b e:Nat} (hb:b < 256) (hA:(A * 256 + b) * 256 ^ e < 2 ^ 64) (he:e ≤ 7) :
  IntKind.u64.wrap (((((A:Int) * 256 ^ (e + 1)) % 2 ^ IntKind.u64.bits).toNat ||| (IntKind.u64.wrap ((b:Int) * 2 ^ min (8 * e) IntKind.u64.bits) % 2 ^ IntKind.u64.bits).toNat:Nat):Int) = (((A * 256 + b) * 256 ^ e:Nat):Int):=by
 have h1:A * 256 ^ (e + 1) < 2 ^ 64:=by
  refine Nat.lt_of_le_of_lt ?_ hA
  rw [Nat.pow_succ,Nat.mul_comm (256 ^ e) 256,← Nat.mul_assoc]
  exact Nat.mul_le_mul_right _ (Nat.le_add_right _ _)
 have h2:b * 256 ^ e < 2 ^ 64:=Nat.lt_of_le_of_lt (Nat.mul_le_mul_right _ (Nat.le_add_left _ _)) hA
 have hbits:IntKind.u64.bits = 64:=rfl
 have e1:((A:Int) * 256 ^ (e + 1)) = ((A * 256 ^ (e + 1):Nat):Int):=by simp
 have e2:((b:Int) * 2 ^ min (8 * e) 64) = ((b * 256 ^ e:Nat):Int):=by
  rw [Nat.min_eq_left (by omega),Int.pow_mul]; simp
 have e3:IntKind.u64.wrap ((b * 256 ^ e:Nat):Int) = ((b * 256 ^ e:Nat):Int):=A09 (by omega) (by omega)
 have e4:((A * 256 ^ (e + 1):Nat):Int) % 2 ^ 64 = ((A * 256 ^ (e + 1):Nat):Int):=Int.emod_eq_of_lt (by omega) (by omega)
 have e5:((b * 256 ^ e:Nat):Int) % 2 ^ 64 = ((b * 256 ^ e:Nat):Int):=Int.emod_eq_of_lt (by omega) (by omega)
 rw [hbits,e1,e2,e3,e4,e5,Int.toNat_natCast,Int.toNat_natCast,D3K hb]
 exact A09 (by omega) (by omega)
def V2 (ns:List Int):ByteArray:=ns.foldl (fun r n=> r.push (UInt8.ofNat n.toNat)) ByteArray.empty
theorem D5Y {P:Program} {t u e:TypeId} {n1 m1 n2 m2 n3 m3:Nat} {z1 z2 z3:Value} {K:Value → WP} {w:World} (h:TI P t (.slice e) n1 m1 z1) (he:TI P e (.int .u8) n2 m2 z2) (hd:TI P u .string n3 m3 z3)
  {b o cap:Nat} {ns:List Int} (hr:P3 w b o (ns.map (Value.int .u8))):A6 P (convert t u (.slice (some ⟨b,o,none⟩) ns.length cap)) K w = K (.string (V2 ns)) w:=by
 refine V8 ?_ K
 have h1:(loadCells ⟨b,o,none⟩ ns.length).run P w = .ok (ns.map (Value.int .u8)).toArray w:=by
  have:=run_loadCells_list (P:=P) w ⟨b,o,none⟩ (ns.map (Value.int .u8)) (fun j v hj=> by rw [c9]; exact hr.get hj)
  simpa using this
 simp only [convert,Sem.run_bind,h.run_und,hd.run_und,he.run_und,Result.andThen_ok]
 exact run_bytesToString w ⟨b,o,none⟩ ns.length cap ns h1
def B8L:Obj → Bool
 | .loop _ | .deferred _=> false
 | _=> true
def KS (κ:Bool) (S:List Nat) (a b:World):Prop:=sz a ≤ sz b ∧ (∀ r o,r ∉ S → B8L o = true → bl a r = some o → bl b r = some o) ∧ (κ = true → Sk B8 a b)
section
variable {κ:Bool}
theorem KS.refl (S:List Nat) (w:World):KS κ S w w:=⟨Nat.le_refl _,fun _ _ _ _ h=> h,fun _=> Sk.refl _ _⟩
theorem KS.trans {S:List Nat} {a b c:World} (h:KS κ S a b) (h':KS κ S b c):KS κ S a c:=⟨Nat.le_trans h.1 h'.1,fun r o n hh e=> h'.2.1 r o n hh (h.2.1 r o n hh e),fun k=> (h.2.2 k).trans (h'.2.2 k)⟩
theorem KS.mono {S S':List Nat} {a b:World} (h:KS κ S a b) (hs:∀ x ∈ S,x ∈ S'):KS κ S' a b:=⟨h.1,fun r o n hh e=> h.2.1 r o (fun x=> n (hs r x)) hh e,h.2.2⟩
theorem KS.low {S:List Nat} {a b:World} (h:KS κ S a b):KS false S a b:=⟨h.1,h.2.1,fun k=> by cases k⟩
theorem KS.up {S:List Nat} {a b:World} (h:KS false S a b) (hs:κ = true → Sk B8 a b):KS κ S a b:=⟨h.1,h.2.1,hs⟩
theorem KS.then {S S':List Nat} {a b c:World} (h:KS κ S a b) (h':KS κ S' b c) (hs:∀ x ∈ S',x ∈ S ∨ sz a ≤ x):KS κ S a c :=
 ⟨Nat.le_trans h.1 h'.1,fun r o n hh e=> h'.2.1 r o (fun x=> (hs r x).elim n fun h2=> by have:=M2 e; omega) hh (h.2.1 r o n hh e),fun k=> (h.2.2 k).trans (h'.2.2 k)⟩
theorem C7.ks {S:List Nat} {a b:World} (h:C7 S a b) (hs:κ = true → Sk B8 a b):KS κ S a b:=⟨h.1,fun r o n _ e=> h.2 r o n e,hs⟩
theorem A0H.ks {S:List Nat} {a b:World} (h:A0H a b):KS false S a b:=⟨Nat.le_of_eq h.1.symm,fun r o _ hh e=> by
 have:=h.2 r (by intro lo hl; have e':some o = some (Obj.loop lo):=e.symm.trans hl; cases e'; cases hh)
 exact this.trans e,fun k=> by cases k⟩
theorem m9.ks {S:List Nat} {a b:World} (h:m9 a b):KS false S a b:=⟨Nat.le_of_eq h.1.symm,fun r o _ hh e=> by
 have:=h.2 r (by intro lo hl; have e':some o = some (Obj.deferred lo):=e.symm.trans hl; cases e'; cases hh)
 exact this.trans e,fun k=> by cases k⟩
theorem r5.ks {S:List Nat} {a b:World} (h:r5 a b):KS false S a b:=⟨h.1,fun r o _ _ e=> h.2 r o e,fun k=> by cases k⟩
theorem KS.drew {S:List Nat} (a:World):KS κ S a a.drew:=⟨Nat.le_refl _,fun _ _ _ _ h=> h,fun _=> Sk.drew _ _⟩
theorem KS.alloc {S:List Nat} (a:World) (o:Obj) (ho:soft (some o) = true ∨ ∃ c t,o = .cells c t (0,0)):KS κ S a (a.alloc o):=((C7.refl S a).alloc o).ks fun _=> Sk.alloc _ _ _ ho
theorem KS.putb {S:List Nat} {a:World} {b:Nat} {c c':Array Value} {T T':TypeId} {f:Nat × Nat} (hb:bl a b = some (.cells c T f)) (h:b ∈ S):KS κ S a (World.putb a b (.cells c' T' f)):=((C7.refl S a).putb _ (Or.inl h)).ks fun _=> Sk.putb _ hb
theorem KS.extD {a b:World} (h:KS κ [] a b):A5T a b:=⟨h.1,fun r o e n m=> h.2.1 r o (by simp) (by cases o <;> first | rfl | exact absurd rfl (n _) | exact absurd rfl (m _)) e⟩
theorem KS.cell {S:List Nat} {a b:World} (h:KS κ S a b) {r o:Nat} {v:Value} (n:r ∉ S) (e:a.cell? ⟨r,o,none⟩ = some v):b.cell? ⟨r,o,none⟩ = some v:=by
 obtain ⟨c,t,z,h1,h2⟩:=A0k e
 rw [E8 (h.2.1 _ _ n rfl h1)]; exact h2
theorem KS.row {S:List Nat} {a b:World} (h:KS κ S a b) {r o:Nat} {l:List Value} (n:r ∉ S) (e:P3 a r o l):P3 b r o l:=by
 intro i hi
 have h1:a.cell? ⟨r,o + i,none⟩ = some l[i]:=by rw [e i hi]; exact List.getElem?_eq_getElem hi
 rw [h.cell n h1]; exact (List.getElem?_eq_getElem hi).symm
end
inductive Res where
 | pt (b:Nat) (o:Obj)
 | own (e:TypeId) (k:Nat) (v:Value) (n:Nat) (xs:List Value)
 | ab (f:List Nat) (p:World → Prop) (st:∀ w w',(∀ b ∈ f,∀ o,B8L o = true → bl w b = some o → bl w' b = some o) → p w → p w')
def Res.foot:Res → List Nat
 | .pt b _=> [b]
 | .own _ _ v _ _=> N5 v
 | .ab f _ _=> f
def Res.holds:Res → World → Prop
 | .pt b o,w=> bl w b = some o ∧ B8L o = true
 | .own e k v n xs,w=> U4 w e k v n xs
 | .ab _ p _,w=> p w
theorem Res.stable {r:Res} {w w':World} (hk:∀ b ∈ r.foot,∀ o,B8L o = true → bl w b = some o → bl w' b = some o) (h:r.holds w):r.holds w':=by
 cases r with
 | pt b o=> exact ⟨hk b (by simp [Res.foot]) o h.2 h.1,h.2⟩
 | own e k v n xs=>
  refine ⟨h.1,?_⟩
  rcases h.2 with h | ⟨g,cap,cur,rfl,h2,h3⟩
  ·exact Or.inl h
  ·exact Or.inr ⟨g,cap,cur,rfl,hk g (by simp [Res.foot,N5]) _ rfl h2,h3⟩
 | ab f p st=> exact st _ _ hk h
def C3 (H:List Res):List Nat:=H.flatMap Res.foot
theorem T8 {H:List Res} {b:Nat}:b ∈ C3 H ↔ ∃ r ∈ H,b ∈ r.foot:=by simp [C3]
structure LW (κ:Bool) (S:List Nat) (w0:World) (H:List Res) (w:World):Prop where
 ks:KS κ S w0 w
 hold:∀ r ∈ H,r.holds w
 own:∀ r ∈ H,∀ b ∈ r.foot,(b ∈ S ∨ sz w0 ≤ b) ∧ b < sz w
 dis:H.Pairwise fun r s=> ∀ b ∈ r.foot,b ∉ s.foot
section
variable {κ κ':Bool} {S S':List Nat} {w0 w w':World} {H H' Hn Hk:List Res}
theorem LW.refl (S:List Nat) (w:World):LW κ S w [] w:=⟨KS.refl _ _,by simp,by simp,.nil⟩
theorem LW.low (h:LW κ S w0 H w):LW false S w0 H w:=⟨h.ks.low,h.hold,h.own,h.dis⟩
theorem LW.high (h:LW false S w0 H w) (hs:κ = true → Sk B8 w0 w):LW κ S w0 H w:=⟨h.ks.up hs,h.hold,h.own,h.dis⟩
theorem LW.sub (h:LW κ S w0 H w) (hs:H'.Sublist H):LW κ S w0 H' w:=⟨h.ks,fun r hr=> h.hold r (hs.subset hr),fun r hr=> h.own r (hs.subset hr),h.dis.sublist hs⟩
theorem LW.nil (h:LW κ S w0 H w):LW κ S w0 [] w:=h.sub (List.nil_sublist _)
theorem C9b {r s:Res} (h:∀ b ∈ r.foot,b ∉ s.foot):∀ b ∈ s.foot,b ∉ r.foot:=fun b hb hr=> h b hr hb
theorem LW.perm (h:LW κ S w0 H w) (hp:H.Perm H'):LW κ S w0 H' w :=
 ⟨h.ks,fun r hr=> h.hold r (hp.mem_iff.2 hr),fun r hr=> h.own r (hp.mem_iff.2 hr),(hp.pairwise_iff fun {a b}=> C9b).1 h.dis⟩
theorem LW.self (h:LW κ S w0 H w):LW κ' (C3 H) w H w:=⟨KS.refl _ _,h.hold,fun r hr b hb=> ⟨Or.inl (T8.2 ⟨r,hr,hb⟩),(h.own r hr b hb).2⟩,h.dis⟩
theorem LW.step (h:LW κ S w0 H w) {T:List Nat} (h':LW κ T w Hn w') (hs:Hk.Sublist H) (hd:∀ r ∈ Hk,∀ b ∈ r.foot,b ∉ T) (hT:∀ b ∈ T,b ∈ S ∨ sz w0 ≤ b):LW κ S w0 (Hn ++ Hk) w':=by
 have hk:=h.sub hs
 refine ⟨h.ks.then h'.ks hT,?_,?_,?_⟩
 ·intro r hr
  rcases List.mem_append.1 hr with hr | hr
  ·exact h'.hold r hr
  ·exact Res.stable (fun b hb o ho e=> h'.ks.2.1 b o (hd r hr b hb) ho e) (hk.hold r hr)
 ·intro r hr b hb
  rcases List.mem_append.1 hr with hr | hr
  ·obtain ⟨h1,h2⟩:=h'.own r hr b hb
   refine ⟨?_,h2⟩
   rcases h1 with h1 | h1
   ·exact hT b h1
   ·exact Or.inr (Nat.le_trans h.ks.1 h1)
  ·obtain ⟨h1,h2⟩:=hk.own r hr b hb
   exact ⟨h1,Nat.lt_of_lt_of_le h2 h'.ks.1⟩
 ·refine List.pairwise_append.2 ⟨h'.dis,hk.dis,fun r hr s hs' b hb hb' => ?_⟩
  rcases (h'.own r hr b hb).1 with h1 | h1
  ·exact hd s hs' b hb' h1
  ·have:=(hk.own s hs' b hb').2; omega
theorem LW.ext (h:LW κ S w0 H w) (hk:KS κ [] w w'):LW κ S w0 H w':=by
 have:=h.step (T := []) (Hn := []) (Hk:=H) ⟨hk,by simp,by simp,.nil⟩ (List.Sublist.refl _) (by simp) (by simp)
 simpa using this
theorem LW.part {Hc:List Res} (h:LW κ S w0 (Hc ++ Hk) w) (h':LW κ (C3 Hc) w Hn w'):LW κ S w0 (Hn ++ Hk) w':=by
 refine h.step h' (List.sublist_append_right _ _) ?_ ?_
 ·intro r hr b hb hbc
  obtain ⟨s,hs,hbs⟩:=T8.1 hbc
  exact (List.pairwise_append.1 h.dis).2.2 s hs r hr b hbs hb
 ·intro b hbc
  obtain ⟨s,hs,hbs⟩:=T8.1 hbc
  exact (h.own s (List.mem_append_left _ hs) b hbs).1
theorem LW.new (h:LW κ S w0 H w) {o:Obj} (ho:B8L o = true) (hs:soft (some o) = true ∨ ∃ c t,o = .cells c t (0,0)):LW κ S w0 (.pt (sz w) o :: H) (w.alloc o):=by
 have h1:LW κ [] w [.pt (sz w) o] (w.alloc o):=⟨KS.alloc w o hs,by simp [Res.holds,ho],by simp [Res.foot],by simp⟩
 have:=h.step h1 (List.Sublist.refl H) (by simp) (by simp)
 simpa using this
theorem LW.newOwn (h:LW κ S w0 H w) {e:TypeId} {k n c l:Nat} {cs:Array Value} {xs:List Value} (hx:U4 (w.alloc (.cells cs e)) e k (.slice (some ⟨sz w,0,none⟩) l c) n xs) :
  LW κ S w0 (.own e k (.slice (some ⟨sz w,0,none⟩) l c) n xs :: H) (w.alloc (.cells cs e)):=by
 have h1:LW κ [] w [.own e k (.slice (some ⟨sz w,0,none⟩) l c) n xs] (w.alloc (.cells cs e)):=⟨KS.alloc w _ (Or.inr ⟨_,_,rfl⟩),by simpa [Res.holds] using hx,by simp [Res.foot,N5],by simp⟩
 have:=h.step h1 (List.Sublist.refl H) (by simp) (by simp)
 simpa using this
inductive Up (r r':Res):List Res → List Res → Prop where
 | here {H:List Res}:Up r r' (r :: H) (r' :: H)
 | there {x:Res} {H H':List Res}:Up r r' H H' → Up r r' (x :: H) (x :: H')
theorem Up.parts {r r':Res} (h:Up r r' H H'):∃ A B,H = A ++ r :: B ∧ H' = A ++ r' :: B:=by
 induction h with
 | here=> exact ⟨[],_,rfl,rfl⟩
 | there _ ih=> obtain ⟨A,B,rfl,rfl⟩:=ih; exact ⟨_ :: A,B,rfl,rfl⟩
theorem LW.up {r r':Res} (h:LW κ S w0 H w) (hu:Up r r' H H') (h':LW κ r.foot w [r'] w'):LW κ S w0 H' w':=by
 obtain ⟨A,B,rfl,rfl⟩:=hu.parts
 have hp:(A ++ r :: B).Perm (r :: (A ++ B)):=List.perm_middle
 have h1:=h.perm hp
 have hd:=(List.pairwise_cons.1 h1.dis).1
 have:=h1.step h' (List.sublist_cons_self r (A ++ B)) (fun s hs b hb hr=> hd s hs b hr hb) (fun b hb=> (h1.own r (List.mem_cons_self ..) b hb).1)
 exact this.perm (List.perm_middle (l₁:=A) (l₂:=B) (a:=r')).symm
end
def TW (κ:Bool) (S:List Nat) (w0:World) (H:List Res) (K:WP):Prop := ∀ w,LW κ S w0 H w → K w
section
variable {κ:Bool} {P:Program} {X:Nat → Prop} {S:List Nat} {w0:World} {H H':List Res} {K:Value → WP} {K0:WP} {t:TypeId} {d:TypeDesc} {n m:Nat} {z:Value}
theorem TW.congr {A B:WP} (h:∀ w,LW κ S w0 H w → A w = B w):TW κ S w0 H A = TW κ S w0 H B :=
 propext ⟨fun hA w hw=> (h w hw) ▸ hA w hw,fun hB w hw=> (h w hw).symm ▸ hB w hw⟩
theorem TW.mono {A B:WP} (h:TW κ S w0 H A) (hk:∀ w,A w → B w):TW κ S w0 H B:=fun w hw=> hk w (h w hw)
theorem TW.sub {A:WP} (h:TW κ S w0 H' A) (hs:H'.Sublist H):TW κ S w0 H A:=fun w hw=> h w (hw.sub hs)
theorem TW.perm {A:WP} (h:TW κ S w0 H' A) (hs:H.Perm H'):TW κ S w0 H A:=fun w hw=> h w (hw.perm hs)
theorem TW.go {A:WP} {w:World} (h:TW κ S w [] A):A w:=h w (LW.refl S w)
@[simp] theorem D39:TW false S w0 H (unw K0) = TW false S w0 H K0:=propext ⟨fun h w hw=> h w hw w (m9.refl w),fun h w hw w' hd=> h w' (hw.ext hd.ks)⟩
@[simp] theorem E0H:TW false S w0 H (bgn K0) = TW false S w0 H K0:=propext ⟨fun h w hw=> h w hw w ⟨rfl,fun _ _=> rfl⟩,fun h w hw w' hd=> h w' (hw.ext hd.ks)⟩
theorem A3 (h:TW κ S w0 H K0):TW κ S w0 H (drw K0):=fun w hw=> h _ (hw.ext (KS.drew w))
@[simp] theorem E0G (b:Bool) (A B:WP):TW κ S w0 H (C0 (.bool b) A B) = (if b = true then TW κ S w0 H A else TW κ S w0 H B):=by
 cases b
 ·exact TW.congr fun w _=> by simp
 ·exact TW.congr fun w _=> by simp
@[simp] theorem D7W (b:Bool) (A:(Value → WP) → WP) (F:Value → WP):TW κ S w0 H (gj (.bool b) true A F) = (if b = true then TW κ S w0 H (A F) else TW κ S w0 H (F undef)):=by cases b <;> rfl
@[simp] theorem D5K (b:Bool) (A:(Value → WP) → WP) (F:Value → WP):TW κ S w0 H (gj (.bool b) false A F) = (if b = true then TW κ S w0 H (F undef) else TW κ S w0 H (A F)):=by cases b <;> rfl
@[simp] theorem D6Q (t:Bool) (A:(Value → WP) → WP) (F:Value → WP):TW κ S w0 H (gj undef t A F) = TW κ S w0 H (F undef):=rfl
@[simp] theorem D9z (A B:WP):TW κ S w0 H (both A B) = (TW κ S w0 H A ∧ TW κ S w0 H B):=propext ⟨fun h=> ⟨fun w hw=> (h w hw).1,fun w hw=> (h w hw).2⟩,fun h w hw=> ⟨h.1 w hw,h.2 w hw⟩⟩
theorem B4G {s:Sem Value} {v:Value} {l:List Rd} (h:TW κ S w0 H fun w=> s.run P w = .ok v w):TW κ S w0 H (watch P ((none,s,v) :: l) K0) = TW κ S w0 H (watch P l K0) :=
 propext ⟨fun h w hw=> (h w hw).2,fun h' w hw=> ⟨h w hw,h' w hw⟩⟩
theorem A4z {s:Sem Value} {v:Value} {l:List Rd} {b c:Bool} (h:b = c → TW κ S w0 H fun w=> s.run P w = .ok v w):TW κ S w0 H (watch P ((some (.bool b,c),s,v) :: l) K0) = TW κ S w0 H (watch P l K0) :=
 propext ⟨fun h w hw=> (h w hw).2,fun h' w hw=> ⟨fun e=> h (by simpa using e) w hw,h' w hw⟩⟩
theorem D3E {c:Prop} [Decidable c] {A B:WP} (h1:c → TW κ S w0 H A) (h2:¬ c → TW κ S w0 H B):if c then TW κ S w0 H A else TW κ S w0 H B:=by
 split
 ·exact h1 ‹_›
 ·exact h2 ‹_›
theorem LW.pt {w:World} {b:Nat} {o:Obj} (h:LW κ S w0 H w) (hm:Res.pt b o ∈ H):bl w b = some o:=(h.hold _ hm).1
theorem D1J (h:TI P t d 1 m z) (hd:U2 d = false) {b o:Nat} {c:Array Value} {T:TypeId} {f:Nat × Nat} (hm:Res.pt b (.cells c T f) ∈ H) :
  TW κ S w0 H (A6 P (Instr.loadAt t (.pointer (some ⟨b,o,none⟩))) K) = TW κ S w0 H (rdc c[o]? K (far P t ⟨b,o,none⟩ K)) :=
 TW.congr fun w hw=> by rw [C1x h hd,E8 (hw.pt hm)]
theorem C8Z (h:TI P t d 1 m z) (hd:U2 d = false) {b o:Nat} {v:Value} (hc:w0.cell? ⟨b,o,none⟩ = some v) (hS:b ∉ S) :
  TW κ S w0 H (A6 P (Instr.loadAt t (.pointer (some ⟨b,o,none⟩))) K) = TW κ S w0 H (K v) :=
 TW.congr fun w hw=> by rw [C1x h hd,hw.ks.cell hS hc,B5a]
def W3 (xs:List Value) (o n:Nat):Option (List Value):=if o + n ≤ xs.length then some ((xs.drop o).take n) else none
theorem A08 {w:World} {b o n:Nat} {l xs:List Value} (h:W3 xs o n = some l) (hr:P3 w b 0 xs):v8 w b o n = some l:=by
 unfold W3 at h
 split at h
 ·cases h
  have:((xs.drop o).take n).length = n:=by simp; omega
  have h2:P3 w b o ((xs.drop o).take n):=fun i hi=> by
   rw [this] at hi
   have:=hr (o + i) (by omega)
   rw [Nat.zero_add] at this
   rw [this,List.getElem?_take_of_lt hi,List.getElem?_drop]
  have:=A6B h2
  rwa [‹((xs.drop o).take n).length = n›] at this
 ·cases h
theorem P3.bl {w:World} {b:Nat} {c:Array Value} {T:TypeId} {z:Nat × Nat} (h:Go.Proofs.YtjobgnabneddjaaGreat.bl w b = some (.cells c T z)):P3 w b 0 c.toList:=fun i hi=> by
 rw [Nat.zero_add,E8 h]; simp
theorem C8Y (h:TI P t d n m z) (hd:U2 d = true) {b o:Nat} {c:Array Value} {T:TypeId} {f:Nat × Nat} (hm:Res.pt b (.cells c T f) ∈ H) {l:List Value} (hl:W3 c.toList o n = some l) :
  TW κ S w0 H (A6 P (Instr.loadAt t (.pointer (some ⟨b,o,none⟩))) K) = TW κ S w0 H (K (.agg l.toArray)) :=
 TW.congr fun w hw=> by rw [C34 h hd,A08 hl (P3.bl (hw.pt hm)),B1p]
theorem C50 (h:TI P t d n m z) (hd:U2 d = true) {b o:Nat} {l:List Value} (hc:v8 w0 b o n = some l) (hS:b ∉ S) :
  TW κ S w0 H (A6 P (Instr.loadAt t (.pointer (some ⟨b,o,none⟩))) K) = TW κ S w0 H (K (.agg l.toArray)) :=
 TW.congr fun w hw=> by
  have h2:=A0s hc
  have:=A6B (hw.ks.row hS h2.2)
  rw [h2.1] at this
  rw [C34 h hd,this,B1p]
theorem LW.ownr {w:World} {e:TypeId} {k c q:Nat} {g:Nat} {xs:List Value} (h:LW κ S w0 H w) (hm:Res.own e k (.slice (some ⟨g,0,none⟩) q c) q xs ∈ H):P3 w g 0 xs:=U4.row (h.hold _ hm)
theorem C8e (h:TI P t d 1 m z) (hd:U2 d = false) {g o:Nat} {e:TypeId} {k q c:Nat} {xs:List Value} (hm:Res.own e k (.slice (some ⟨g,0,none⟩) q c) q xs ∈ H) {v:Value} (hv:xs[o]? = some v) :
  TW κ S w0 H (A6 P (Instr.loadAt t (.pointer (some ⟨g,o,none⟩))) K) = TW κ S w0 H (K v) :=
 TW.congr fun w hw=> by
  have:=(hw.ownr hm).get hv
  rw [Nat.zero_add] at this
  rw [C1x h hd,this,B5a]
theorem C6m (h:TI P t d n m z) (hd:U2 d = true) {g o:Nat} {e:TypeId} {k q c:Nat} {xs:List Value} (hm:Res.own e k (.slice (some ⟨g,0,none⟩) q c) q xs ∈ H) {l:List Value} (hl:W3 xs o n = some l) :
  TW κ S w0 H (A6 P (Instr.loadAt t (.pointer (some ⟨g,o,none⟩))) K) = TW κ S w0 H (K (.agg l.toArray)) :=
 TW.congr fun w hw=> by rw [C34 h hd,A08 hl (hw.ownr hm),B1p]
theorem D2G (h:TI P t d 1 m z) (hd:U2 d = false) {b o:Nat} {c:Array Value} {T:TypeId} {f:Nat × Nat} (hm:Res.pt b (.cells c T f) ∈ H) {v:Value} (hv:c[o]? = some v) :
  TW κ S w0 H (A6 P (E1 [.c t (.pointer (some ⟨b,o,none⟩))]) K) = TW κ S w0 H (K v) :=
 TW.congr fun w hw=> by rw [D22 h hd,E8 (hw.pt hm),hv,B5a]
theorem D3J (h:TI P t d n m z) (hd:U2 d = true) {b o:Nat} {c:Array Value} {T:TypeId} {f:Nat × Nat} (hm:Res.pt b (.cells c T f) ∈ H) {l:List Value} (hl:W3 c.toList o n = some l) :
  TW κ S w0 H (A6 P (E1 [.c t (.pointer (some ⟨b,o,none⟩))]) K) = TW κ S w0 H (K (.agg l.toArray)) :=
 TW.congr fun w hw=> by rw [D3N h hd,A08 hl (P3.bl (hw.pt hm)),B1p]
theorem D9H (h:TI P t d n m z) (hK:∀ b,TW κ S w0 (.pt b (.cells z.cells t) :: H) (K (.pointer (some ⟨b,0,none⟩)))):TW κ S w0 H (B5 P X (Instr.alloc t true (.tuple #[])) K) :=
 fun w hw=> by rw [D1x h]; exact hK _ _ (hw.new rfl (Or.inr ⟨_,_,rfl⟩))
theorem A4 {v:Value} (hK:∀ b,TW κ S w0 (.pt b (.cells v.cells t) :: H) (K (.pointer (some ⟨b,0,none⟩)))):TW κ S w0 H (B5 P X (Instr.box t v) K) :=
 fun w hw=> by rw [C4H]; exact hK _ _ (hw.new rfl (Or.inr ⟨_,_,rfl⟩))
theorem D9D {e:TypeId} {k by':Nat} {z':Value} {k1 k2:IntKind} {l c:Int} {d':TypeDesc} {n' m':Nat} {zz:Value} (ht:TI P t (.slice e) n' m' zz) (he:TI P e d' k by' z') (hz:z'.cells.size = k) (hk:0 < k)
  (h0:0 ≤ l) (h1:l = c) (hb:c * by' ≤ 140737488355328) (hc:c ≤ 9223372036854775807)
  (hK:∀ b,TW κ S w0 (.own e k (.slice (some ⟨b,0,none⟩) l.toNat l.toNat) l.toNat (Builtin.zeroCells z'.cells l.toNat).toList :: H) (K (.slice (some ⟨b,0,none⟩) l.toNat l.toNat))) :
  TW κ S w0 H (B5 P X (Instr.makeSlice t (.int k1 l) (.int k2 c)) K):=fun w hw=> by
 subst h1
 rw [D2g ht he hz hk h0 (Int.le_refl _) hb hc]
 refine hK _ _ (hw.newOwn ?_)
 exact U4.made (by simp) (by simp [size_zeroCells,hz])
theorem D8f {len:Nat} {parts:Array (Nat × Value)} {cs:Array Value} {e:TypeId} {d':TypeDesc} {n' m':Nat} {z':Value} (h:TI P t (.slice e) n m z) (he:TI P e d' n' m' z') (hb:len * n' ≤ 2 ^ 24) (h0:len * n' ≠ 0)
  (hf:Instr.fill (fun i=> some (i * n',n')) ((Array.range (len * n')).map (z'.cells[· % z'.cells.size]!)) parts.toList = some cs) (hcs:cs.size = len * n')
  (hK:∀ b,TW κ S w0 (.own e n' (.slice (some ⟨b,0,none⟩) len len) len cs.toList :: H) (K (.slice (some ⟨b,0,none⟩) len len))) :
  TW κ S w0 H (B5 P X (Instr.buildSlice t len parts) K):=fun w hw=> by
 rw [B27 h he hb h0 hf]
 exact hK _ _ (hw.newOwn (U4.made (by simp) (by simp [hcs])))
theorem D41 {e:TypeId} {d':TypeDesc} {n' m':Nat} {z':Value} (h:TI P t (.slice e) n m z) (he:TI P e d' n' m' z')
  (hK:∀ b,TW κ S w0 (.own e n' (.slice (some ⟨b,0,none⟩) 0 0) 0 [] :: H) (K (.slice (some ⟨b,0,none⟩) 0 0))) :
  TW κ S w0 H (B5 P X (Instr.buildSlice t 0 #[]) K):=fun w hw=> by
 rw [D06 h he]
 exact hK _ _ (hw.newOwn U4.empty)
theorem D8n (h:TI P t d n m z) {v:Value} (hv:v.cells.size = n) {b o:Nat} {c:Array Value} {T:TypeId}
  (hu:Up (.pt b (.cells c T (0,0))) (.pt b (.cells (E7 c o v.cells.toList) T (0,0))) H H') (hs:o + n ≤ c.size) (hp:v.cells.toList.all plain = true) :
  TW κ S w0 H (C1 P X (Instr.storeAt t (.pointer (some ⟨b,o,none⟩)) v) K0) = TW κ S w0 H' K0:=by
 have hm:Res.pt b (.cells c T (0,0)) ∈ H:=by obtain ⟨A,B,rfl,_⟩:=hu.parts; simp
 have key:∀ w,LW κ S w0 H w → C1 P X (Instr.storeAt t (.pointer (some ⟨b,o,none⟩)) v) K0 w = K0 (World.putb w b (.cells (E7 c o v.cells.toList) T (0,0))):=fun w hw=> by
  have hb:=hw.pt hm
  rw [D2e h v hv,hb]
  have:o + v.cells.toList.length ≤ c.size:=by simp [hv]; omega
  simp only [stc,if_pos (And.intro this hp)]
 have fwd:∀ w,LW κ S w0 H w → LW κ S w0 H' (World.putb w b (.cells (E7 c o v.cells.toList) T (0,0))):=fun w hw=> by
  have hb:=hw.pt hm
  refine hw.up hu ⟨KS.putb ‹_› (by simp [Res.foot]),?_,?_,by simp⟩
  ·simp only [List.mem_singleton,forall_eq,Res.holds]; exact ⟨W4 (M2 hb),rfl⟩
  ·simp only [List.mem_singleton,forall_eq,Res.foot]; exact ⟨Or.inl (by simp),by have:=M2 hb; simpa using this⟩
 have bwd:∀ w',LW κ S w0 H' w' → ∃ w,LW κ S w0 H w ∧ w' = World.putb w b (.cells (E7 c o v.cells.toList) T (0,0)):=fun w' hw' => by
  have hm':Res.pt b (.cells (E7 c o v.cells.toList) T (0,0)) ∈ H':=by obtain ⟨A,B,_,rfl⟩:=hu.parts; simp
  have hb':=hw'.pt hm'
  have hu':Up (.pt b (.cells (E7 c o v.cells.toList) T (0,0))) (.pt b (.cells c T (0,0))) H' H:=by
   clear key fwd hm hm' hw' hb'
   induction hu with
   | here=> exact .here
   | there _ ih=> exact .there ih
  refine ⟨World.putb w' b (.cells c T (0,0)),hw'.up hu' ⟨KS.putb ‹_› (by simp [Res.foot]),?_,?_,by simp⟩,?_⟩
  ·simp only [List.mem_singleton,forall_eq,Res.holds]; exact ⟨W4 (M2 hb'),rfl⟩
  ·simp only [List.mem_singleton,forall_eq,Res.foot]; exact ⟨Or.inl (by simp),by have:=M2 hb'; simpa using this⟩
  ·have hlt:b < w'.heap.size:=M2 hb'
   have hh:w'.heap[b]? = some (.cells (E7 c o v.cells.toList) T (0,0)):=hb'
   have:(w'.heap.setIfInBounds b (.cells c T (0,0))).setIfInBounds b (.cells (E7 c o v.cells.toList) T (0,0)) = w'.heap:=by
    apply Array.ext_getElem?
    intro r
    by_cases hr:b = r
    ·subst hr; rw [Array.getElem?_setIfInBounds_self_of_lt (by simpa using hlt)]; exact hh.symm
    ·rw [Array.getElem?_setIfInBounds_ne hr,Array.getElem?_setIfInBounds_ne hr]
   simp only [World.putb,this]
 refine propext ⟨fun hA w' hw' => ?_,fun hB w hw=> ?_⟩
 ·obtain ⟨w,hw,rfl⟩:=bwd w' hw'
  have:=hA w hw; rw [key w hw] at this; exact this
 ·rw [key w hw]; exact hB _ (fwd w hw)
def Y8 (xs:List Value) (o:Nat) (l:List Value):List Value:=xs.take o ++ l ++ xs.drop (o + l.length)
theorem C72 {xs l:List Value} {o:Nat} (h:o + l.length ≤ xs.length):(Y8 xs o l).length = xs.length:=by simp [Y8]; omega
theorem C0K {xs:List Value} {o:Nat} {v:Value} (h:o < xs.length):Y8 xs o [v] = xs.set o v:=by
 rw [List.set_eq_take_append_cons_drop]; simp [Y8,h]
theorem take_set (xs r v:List Value) (o:Nat) (h:o + v.length ≤ xs.length):((xs ++ r).take o ++ v ++ (xs ++ r).drop (o + v.length)).take xs.length = Y8 xs o v:=by
 have h1:(xs ++ r).take o = xs.take o:=List.take_append_of_le_length (by omega)
 have h2:(xs ++ r).drop (o + v.length) = xs.drop (o + v.length) ++ r:=List.drop_append_of_le_length h
 rw [h1,h2,← List.append_assoc]
 exact List.take_left' (by simp; omega)
theorem C8K (h:TI P t d n m z) {v:Value} (hv:v.cells.size = n) {g o:Nat} {e:TypeId} {k q c:Nat} {xs:List Value}
  (hu:Up (.own e k (.slice (some ⟨g,0,none⟩) q c) q xs) (.own e k (.slice (some ⟨g,0,none⟩) q c) q (Y8 xs o v.cells.toList)) H H') (hs:o + n ≤ xs.length) (hp:v.cells.toList.all plain = true)
  (hK:TW κ S w0 H' K0):TW κ S w0 H (C1 P X (Instr.storeAt t (.pointer (some ⟨g,o,none⟩)) v) K0):=fun w hw=> by
 have hm:Res.own e k (.slice (some ⟨g,0,none⟩) q c) q xs ∈ H:=by obtain ⟨A,B,rfl,_⟩:=hu.parts; simp
 have ho:U4 w e k (.slice (some ⟨g,0,none⟩) q c) q xs:=hw.hold _ hm
 rcases ho.2 with ⟨h1,_⟩ | ⟨g',cap',cur,h1,hb,hc,hcs,ht⟩
 ·cases h1
 ·cases h1
  have hsz:o + v.cells.toList.length ≤ cur.size:=by
   have hx:xs.length ≤ cur.size:=by rw [← ht]; simp; omega
   simp [hv]; omega
  rw [D2e h v hv,hb]
  simp only [stc,if_pos (And.intro hsz hp)]
  refine hK _ (hw.up hu ⟨KS.putb hb (by simp [Res.foot,N5]),?_,?_,by simp⟩)
  ·simp only [List.mem_singleton,forall_eq,Res.holds]
   have hvl:v.cells.toList.length = n:=by simp [hv]
   refine ⟨by rw [C72 (by omega)]; exact ho.1,Or.inr ⟨g,c,_,rfl,W4 (M2 hb),hc,by rw [B9]; exact hcs,?_⟩⟩
   have hl:xs.length = q * k:=ho.1
   have hx:cur.toList = xs ++ cur.toList.drop (q * k):=by rw [← ht]; exact (List.take_append_drop _ _).symm
   rw [A3p _ _ _ hsz,hx,← hl]
   exact take_set xs _ _ o (by omega)
  ·simp only [List.mem_singleton,forall_eq,Res.foot,N5,List.mem_singleton,forall_eq]
   exact ⟨Or.inl (by simp),by have:=M2 hb; simpa using this⟩
def M0 (κ:Bool) (S:List Nat) (w0:World) (H:List Res) (v:Value) (m:Nat) (xs:List Value):Prop := ∀ w,LW κ S w0 H w → F5 w v m xs
theorem M0.own {e:TypeId} {k q:Nat} {v:Value} {xs:List Value} (hm:Res.own e k v q xs ∈ H):M0 κ S w0 H v q xs:=fun w hw=> U4.rd (hw.hold _ hm)
theorem F5.ks {a b:World} {v:Value} {q:Nat} {xs:List Value} (h:F5 a v q xs) (hk:KS κ S a b) (hS:∀ g ∈ N5 v,g ∉ S):F5 b v q xs:=by
 rcases h with h | ⟨g,o,c,rfl,hr⟩
 ·exact Or.inl h
 ·exact Or.inr ⟨g,o,c,rfl,hk.row (hS g (by simp [N5])) hr⟩
theorem M0.old {q:Nat} {v:Value} {xs:List Value} (h:F5 w0 v q xs) (hS:∀ g ∈ N5 v,g ∉ S):M0 κ S w0 H v q xs:=fun w hw=> h.ks hw.ks hS
theorem M0.old0 {q:Nat} {v:Value} {xs:List Value} (h:F5 w0 v q xs):M0 κ [] w0 H v q xs:=.old h (by simp)
theorem D4U {e:TypeId} {k by':Nat} {ty:TypeId} {v x:Value} {q r:Nat} {xs news:List Value} {n' m':Nat} {z':Value} (ht:TI P t (.slice e) n' m' z') (he:TI P e d k by' z) (hz:z.cells.size = k) (hk:0 < k)
  {H'':Value → List Res} (hu:∀ v',Up (.own e k v q xs) (.own e k v' (q + r) (xs ++ news)) H (H'' v')) (hx:M0 κ S w0 H x r news) (hl:news.length = r * k) (hp:news.all plain = true)
  (h63:q + r ≤ maxLen) (hby:(q + r) * by' ≤ 140737488355328) (hK:∀ v',TW κ S w0 (H'' v') (K v')):TW κ S w0 H (B5 P X (A8 .append #[t,t] ty [v,x]) K):=fun w hw=> by
 have hm:Res.own e k v q xs ∈ H:=by obtain ⟨A,B,rfl,_⟩:=(hu v).parts; simp
 refine C6D ht he hz hk (hw.hold _ hm) (hx w hw) hl hp h63 hby fun v' w' ho hb hsk hg=> ?_
 refine hK v' w' (hw.up (hu v') ⟨hb.ks fun _=> hsk,by simpa [Res.holds] using ho,?_,by simp⟩)
 simp only [List.mem_singleton,forall_eq]
 intro b hb'
 refine ⟨hg b hb',?_⟩
 rcases ho.2 with ⟨rfl,_⟩ | ⟨g',cap',cur,rfl,h1,_⟩
 ·simp [Res.foot,N5] at hb'
 ·simp [Res.foot,N5] at hb'; subst hb'; exact M2 h1
theorem l7 {A:WP} (e:TypeId) (k:Nat) (h:TW κ S w0 (.own e k (.slice none 0 0) 0 [] :: H) A):TW κ S w0 H A:=fun w hw=> by
 refine h w ?_
 have:LW κ [] w [.own e k (.slice none 0 0) 0 []] w:=⟨KS.refl _ _,by simp [Res.holds,U4],by simp [Res.foot,N5],by simp⟩
 simpa using hw.step this (List.Sublist.refl H) (by simp) (by simp)
end
def Rv (w:World) (φ:Value → Prop):Value → WP:=fun v w' => φ v ∧ KS false [] w w'
def Rn {α:Type} (S:List Nat) (w:World) (φ:α → Value → Prop) (Hn:α → List Res):Value → WP:=fun v w' => ∃ a,φ a v ∧ LW false S w (Hn a) w'
section
variable {κ:Bool} {X:Nat → Prop} {S:List Nat} {w0:World} {H Hk:List Res} {K:Value → WP} {f:FuncId} {args:List Value}
theorem B7S {Hc:List Res} {α:Type} {φ:α → Value → Prop} {Hn:α → List Res} (he:B0 PR f) (hs:H.Perm (Hc ++ Hk))
  (hf:∀ w,LW κ S w0 H w → Fn PR B8 f args.toArray w (Rn (C3 Hc) w φ Hn)) (hK:∀ a v,φ a v → TW κ S w0 (Hn a ++ Hk) (K v)):TW κ S w0 H (B3 PR X f args K):=fun w hw=>
 Or.inl ⟨he,(hf w hw).use fun v w' ⟨a,h1,h2⟩ hsk=> hK a v h1 w' ((hw.perm hs).part (h2.high fun _=> hsk))⟩
theorem B8J {φ:Value → Prop} (he:B0 PR f) (hf:∀ w,LW κ S w0 H w → Fn PR B8 f args.toArray w (fun v w' => φ v ∧ C7 [] w w')) (hK:∀ v,φ v → TW κ S w0 H (K v)):TW κ S w0 H (B3 PR X f args K):=fun w hw=>
 Or.inl ⟨he,(hf w hw).use fun v w' ⟨h1,h2⟩ hsk=> hK v h1 w' (hw.ext (h2.ks fun _=> hsk))⟩
theorem B7 {u:Value} (he:B0 PR f) (hf:∀ w,LW κ S w0 H w → Fn PR B8 f args.toArray w (fun v w' => v = u ∧ C7 [] w w')) (hK:TW κ S w0 H (K u)):TW κ S w0 H (B3 PR X f args K) :=
 B8J he hf fun v hv=> hv ▸ hK
theorem H3 {α:Type} {φ:α → Value → Prop} {Hn:α → List Res} (he:B0 PR f) (hf:∀ w,LW κ S w0 H w → Fn PR B8 f args.toArray w (Rn [] w φ Hn)) (hK:∀ a v,φ a v → TW κ S w0 (Hn a ++ H) (K v)):TW κ S w0 H (B3 PR X f args K) :=
 B7S (Hc := []) (Hk:=H) he (List.Perm.refl _) hf hK
theorem Fn.pure {args:Array Value} {w:World} {φ:Value → Prop} (h:Fn PR B8 f args w (Rv w φ)):Fn PR B8 f args w (fun v w' => φ v ∧ C7 [] w w') :=
 Fn.ext (h.mono fun v w' ⟨h1,h2⟩=> ⟨h1,h2.extD⟩)
theorem A9 {φ:Value → Prop} {v:Value} (h:φ v):TW κ [] w0 H (Rv w0 φ v):=fun w hw=> ⟨h,hw.ks.low⟩
theorem u7 {α:Type} {φ:α → Value → Prop} {Hn:α → List Res} {v:Value} (a:α) (h:φ a v) (hs:(Hn a).Sublist H):TW κ S w0 H (Rn S w0 φ Hn v):=fun w hw=> ⟨a,h,hw.low.sub hs⟩
theorem TW.goH {A:WP} {w:World} (h:TW κ S w H A) (hw:LW κ S w H w):A w:=h w hw
theorem TW.eqH {κ:Bool} {H':List Res} {A:WP} (h:H = H') (hk:TW κ S w0 H' A):TW κ S w0 H A:=h ▸ hk
theorem TW.at {κ':Bool} {A:WP} {w:World} (h:TW κ (C3 H) w H A) (hw:LW κ' S w0 H w):A w:=h w hw.self
end
theorem C1T {p:Nat → Prop} (h:∃ n,p n):∃ n,p n ∧ ∀ m,p m → n ≤ m:=by
 obtain ⟨n,hn⟩:=h
 induction n using Nat.strongRecOn with
 | _ n ih=>
  by_cases hm:∃ m,m < n ∧ p m
  ·obtain ⟨m,h1,h2⟩:=hm; exact ih m h1 h2
  ·exact ⟨n,hn,fun m h=> Nat.le_of_not_lt fun hl=> hm ⟨m,hl,h⟩⟩
open Classical in
noncomputable def least (p:Nat → Prop):Nat:=if h:∃ n,p n ∧ ∀ m,p m → n ≤ m then h.choose else 0
theorem B6x {p:Nat → Prop} (h:∃ n,p n):p (least p) ∧ ∀ m,p m → least p ≤ m:=by
 have h':=C1T h
 unfold least; rw [dif_pos h']; exact h'.choose_spec
theorem B6N {n:Nat} {F:VF WP n → VF WP n} {vs:List Value} {w:World} {α:Type} (J:α → List Value → WP) (μ:α → Nat) (hl:vs.length = n) (x0:α) (h0:J x0 vs w)
  (hs:∀ x vs w,vs.length = n → J x vs w → ∀ L:List Value → WP,(∀ x' vs' w',J x' vs' w' → μ x' < μ x → L vs' w') → VF.app K8 n (F (VF.lam n L)) vs w):VF.app K8 n (lp F) vs w:=by
 unfold lp
 rw [VF.app_lam _ _ _ _ hl]
 refine ⟨fun vs w=> ∃ x,J x vs w,fun vs w=> least fun k=> ∃ x,J x vs w ∧ μ x = k,⟨x0,h0⟩,fun vs w hl ⟨x,hx⟩=> ?_⟩
 obtain ⟨⟨x1,h1,h2⟩,hle⟩:=B6x (p:=fun k=> ∃ x,J x vs w ∧ μ x = k) ⟨μ x,x,hx,rfl⟩
 refine hs x1 vs w hl h1 _ fun x' vs' w' hx' hlt=> ⟨⟨x',hx'⟩,?_⟩
 have:=(B6x (p:=fun k=> ∃ x,J x vs' w' ∧ μ x = k) ⟨μ x',x',hx',rfl⟩).2 (μ x') ⟨x',hx',rfl⟩
 exact Nat.lt_of_le_of_lt this (by rw [h2] at hlt; exact hlt)
section
variable {κ:Bool} {S:List Nat} {w0:World} {α:Type} (Hh:α → List Res) (φ:α → Prop) (μ:α → Nat) (x0:α)
theorem D4j {F:WP → WP} (h0:φ x0)
  (hs:∀ x,φ x → ∀ L:WP,(∀ x',φ x' → μ x' < μ x → TW κ S w0 (Hh x') L) → TW κ S w0 (Hh x) (F L)):TW κ S w0 (Hh x0) (lp (n:=0) F):=fun w hw=>
 B6N (n:=0) (F:=F) (vs := []) (fun x vs w=> vs = [] ∧ φ x ∧ LW κ S w0 (Hh x) w) μ rfl x0 ⟨rfl,h0,hw⟩ fun x vs w hl ⟨he,h1,h2⟩ L hL=> by
  subst he; exact hs x h1 (L []) (fun x' h1' hlt w' hw' => hL x' [] w' ⟨rfl,h1',hw'⟩ hlt) w h2
theorem B9y {F:(Value → WP) → Value → WP} (v1:α → Value) (h0:φ x0)
  (hs:∀ x,φ x → ∀ L:Value → WP,(∀ x',φ x' → μ x' < μ x → TW κ S w0 (Hh x') (L (v1 x'))) → TW κ S w0 (Hh x) (F L (v1 x))):TW κ S w0 (Hh x0) (lp (n:=1) F (v1 x0)):=fun w hw=>
 B6N (n:=1) (F:=F) (vs := [v1 x0]) (fun x vs w=> vs = [v1 x] ∧ φ x ∧ LW κ S w0 (Hh x) w) μ rfl x0 ⟨rfl,h0,hw⟩ fun x vs w hl ⟨he,h1,h2⟩ L hL=> by
  subst he; exact hs x h1 (fun a=> L [a]) (fun x' h1' hlt w' hw' => hL x' [v1 x'] w' ⟨rfl,h1',hw'⟩ hlt) w h2
theorem B91 {F:(Value → Value → WP) → Value → Value → WP} (v1 v2:α → Value) (h0:φ x0)
  (hs:∀ x,φ x → ∀ L:Value → Value → WP,(∀ x',φ x' → μ x' < μ x → TW κ S w0 (Hh x') (L (v1 x') (v2 x'))) → TW κ S w0 (Hh x) (F L (v1 x) (v2 x))):TW κ S w0 (Hh x0) (lp (n:=2) F (v1 x0) (v2 x0)):=fun w hw=>
 B6N (n:=2) (F:=F) (vs := [v1 x0,v2 x0]) (fun x vs w=> vs = [v1 x,v2 x] ∧ φ x ∧ LW κ S w0 (Hh x) w) μ rfl x0 ⟨rfl,h0,hw⟩ fun x vs w hl ⟨he,h1,h2⟩ L hL=> by
  subst he; exact hs x h1 (fun a b=> L [a,b]) (fun x' h1' hlt w' hw' => hL x' [v1 x',v2 x'] w' ⟨rfl,h1',hw'⟩ hlt) w h2
theorem D0L {F:(Value → Value → Value → WP) → Value → Value → Value → WP} (v1 v2 v3:α → Value) (h0:φ x0)
  (hs:∀ x,φ x → ∀ L:Value → Value → Value → WP,(∀ x',φ x' → μ x' < μ x → TW κ S w0 (Hh x') (L (v1 x') (v2 x') (v3 x'))) → TW κ S w0 (Hh x) (F L (v1 x) (v2 x) (v3 x))):TW κ S w0 (Hh x0) (lp (n:=3) F (v1 x0) (v2 x0) (v3 x0)):=fun w hw=>
 B6N (n:=3) (F:=F) (vs := [v1 x0,v2 x0,v3 x0]) (fun x vs w=> vs = [v1 x,v2 x,v3 x] ∧ φ x ∧ LW κ S w0 (Hh x) w) μ rfl x0 ⟨rfl,h0,hw⟩ fun x vs w hl ⟨he,h1,h2⟩ L hL=> by
  subst he; exact hs x h1 (fun a b c=> L [a,b,c]) (fun x' h1' hlt w' hw' => hL x' [v1 x',v2 x',v3 x'] w' ⟨rfl,h1',hw'⟩ hlt) w h2
end
section
variable {κ:Bool} {S:List Nat} {w0:World}
theorem D2c {F:(Value → WP) → Value → WP} {k:IntKind} (n:Nat) (Hh:Nat → List Res)
  (hs:∀ i,i ≤ n → ∀ L:Value → WP,(i < n → TW κ S w0 (Hh (i + 1)) (L (.int k ((i:Int) + 1)))) → TW κ S w0 (Hh i) (F L (.int k (i:Int)))) {H:List Res} (hH:H = Hh 0:=by rfl):TW κ S w0 H (lp (n:=1) F (.int k 0)):=hH ▸
 B9y Hh (· ≤ n) (fun i=> n - i) 0 (fun i=> .int k (i:Int)) (Nat.zero_le _) fun i hi L hL=> hs i hi L fun h=> by
  have:=hL (i + 1) h (by omega); simpa using this
theorem B4H {F:(Value → WP) → Value → WP} {k:IntKind} {α:Type} (n:Nat) (Hh:Nat → α → List Res) (φ:Nat → α → Prop) (x0:α) (h0:φ 0 x0)
  (hs:∀ i x,i ≤ n → φ i x → ∀ L:Value → WP,(i < n → ∀ x',φ (i + 1) x' → TW κ S w0 (Hh (i + 1) x') (L (.int k ((i:Int) + 1)))) → TW κ S w0 (Hh i x) (F L (.int k (i:Int)))) {H:List Res} (hH:H = Hh 0 x0:=by rfl):TW κ S w0 H (lp (n:=1) F (.int k 0)):=hH ▸
 B9y (fun p:Nat × α=> Hh p.1 p.2) (fun p=> p.1 ≤ n ∧ φ p.1 p.2) (fun p=> n - p.1) (0,x0) (fun p=> .int k (p.1:Int)) ⟨Nat.zero_le _,h0⟩ fun ⟨i,x⟩ ⟨hi,hx⟩ L hL=> hs i x hi hx L fun h x' hx' => by
  have:=hL (i + 1,x') ⟨h,hx'⟩ (by simp only; omega); simpa using this
theorem P5 {F:(Value → Value → WP) → Value → Value → WP} {k:IntKind} {α:Type} (n:Nat) (val:Nat → α → Value) (Hh:Nat → α → List Res) (φ:Nat → α → Prop) (x0:α) (h0:φ 0 x0)
  (hs:∀ i x,i ≤ n → φ i x → ∀ L:Value → Value → WP,(i < n → ∀ x',φ (i + 1) x' → TW κ S w0 (Hh (i + 1) x') (L (val (i + 1) x') (.int k ((i:Int) + 1)))) → TW κ S w0 (Hh i x) (F L (val i x) (.int k (i:Int)))) {H:List Res} (hH:H = Hh 0 x0:=by rfl) {v1:Value} (hv:v1 = val 0 x0:=by rfl):TW κ S w0 H (lp (n:=2) F v1 (.int k 0)):=by
 subst hH hv; exact
 B91 (fun p:Nat × α=> Hh p.1 p.2) (fun p=> p.1 ≤ n ∧ φ p.1 p.2) (fun p=> n - p.1) (0,x0) (fun p=> val p.1 p.2) (fun p=> .int k (p.1:Int)) ⟨Nat.zero_le _,h0⟩ fun ⟨i,x⟩ ⟨hi,hx⟩ L hL=> hs i x hi hx L fun h x' hx' => by
  have:=hL (i + 1,x') ⟨h,hx'⟩ (by simp only; omega); simpa using this
theorem C54 {F:(Value → Value → Value → WP) → Value → Value → Value → WP} {k:IntKind} {α:Type} (n:Nat) (val val2:Nat → α → Value) (Hh:Nat → α → List Res) (φ:Nat → α → Prop) (x0:α) (h0:φ 0 x0)
  (hs:∀ i x,i ≤ n → φ i x → ∀ L:Value → Value → Value → WP,(i < n → ∀ x',φ (i + 1) x' → TW κ S w0 (Hh (i + 1) x') (L (val (i + 1) x') (val2 (i + 1) x') (.int k ((i:Int) + 1)))) → TW κ S w0 (Hh i x) (F L (val i x) (val2 i x) (.int k (i:Int)))) {H:List Res} (hH:H = Hh 0 x0:=by rfl) {v1 v2:Value} (hv:v1 = val 0 x0:=by rfl) (hv2:v2 = val2 0 x0:=by rfl):TW κ S w0 H (lp (n:=3) F v1 v2 (.int k 0)):=by
 subst hH hv hv2; exact
 D0L (fun p:Nat × α=> Hh p.1 p.2) (fun p=> p.1 ≤ n ∧ φ p.1 p.2) (fun p=> n - p.1) (0,x0) (fun p=> val p.1 p.2) (fun p=> val2 p.1 p.2) (fun p=> .int k (p.1:Int)) ⟨Nat.zero_le _,h0⟩ fun ⟨i,x⟩ ⟨hi,hx⟩ L hL=> hs i x hi hx L fun h x' hx' => by
  have:=hL (i + 1,x') ⟨h,hx'⟩ (by simp only; omega); simpa using this
end
theorem LW.cell {κ:Bool} {S:List Nat} {w0 w:World} {H:List Res} (h:LW κ S w0 H w) {b o:Nat} {c:Array Value} {T:TypeId} {f:Nat × Nat} {v:Value} (hm:Res.pt b (.cells c T f) ∈ H) (hv:c[o]? = some v):w.cell? ⟨b,o,none⟩ = some v:=by
 rw [E8 (h.pt hm)]; exact hv
theorem LW.cell1 {κ:Bool} {S:List Nat} {w0 w:World} {H:List Res} (h:LW κ S w0 H w) {b:Nat} {T:TypeId} {f:Nat × Nat} {v:Value} (hm:Res.pt b (.cells #[v] T f) ∈ H):w.cell? ⟨b,0,none⟩ = some v:=h.cell hm rfl
theorem LW.notin_old {κ:Bool} {S:List Nat} {w0 w:World} {A F:List Res} (h:LW κ S w0 (A ++ F) w) {b:Nat} (hb:b < sz w0) (hS:b ∉ S):b ∉ C3 F:=fun hf=> by
 obtain ⟨s,hs,hbs⟩:=T8.1 hf
 rcases (h.own s (List.mem_append_right _ hs) b hbs).1 with h1 | h1
 ·exact hS h1
 ·omega
def Re (J:Nat → List Res → WP) (E:List Res → WP) (n:Nat):Value → WP:=fun _ w' => (∃ F,J n F w') ∨ ∃ F,E F w'
def B00 (g:Value) (F0:List Res) (Rq:List Res → World → Prop) (L:List (List Value)):Prop :=
 ∃ f first cap,g = .func (.func f) first cap ∧ ∀ (l:Nat) (J:Nat → List Res → WP) (E:List Res → WP),
  (∀ i F a,J i F a → LW true (C3 F) a F a ∧ Rq F a) → (∀ F a,E F a → LW true (C3 F) a F a) →
  (∀ i F F' a b,J i F a → LW true (C3 F) a F' b → J i F' b) →
  (∀ F F' a b,E F a → LW true (C3 F) a F' b → E F' b) →
  (∀ i (hi:i < L.length) F w1,J i F w1 → yie PR (fun r=> r = l) l L[i] (fun v w3=> (v = .bool true ∧ J (i + 1) F w3) ∨ (v = .bool false ∧ E F w3)) w1) →
  ∀ w0,J 0 F0 w0 → A4b PR (fun r=> r = l) f (first.toList ++ [.func (.yield l) #[] #[]] ++ cap.toList) (Re J E L.length) w0
section
variable {l i:Nat} {X:Nat → Prop} {args:List Value} {K:Value → WP} {J:Nat → List Res → WP} {E:List Res → WP} {F F':List Res} {a:World} {Rq:List Res → World → Prop}
theorem B4L (hJ:∀ i F a,J i F a → LW true (C3 F) a F a ∧ Rq F a) (hE:∀ F a,E F a → LW true (C3 F) a F a) (stJ:∀ i F F' a b,J i F a → LW true (C3 F) a F' b → J i F' b)
  {Ls:List (List Value)} (hy:∀ i (hi:i < Ls.length) F w1,J i F w1 → yie PR X l Ls[i] (fun v w3=> (v = .bool true ∧ J (i + 1) F w3) ∨ (v = .bool false ∧ E F w3)) w1) (h0:J i F a) (hi:i < Ls.length) (ha:Ls[i] = args)
  (h1:∀ w3,J (i + 1) F' w3 → TW true (C3 F') w3 F' (K (.bool true))) (h2:∀ w3,E F' w3 → TW true (C3 F') w3 F' (K (.bool false))):TW true (C3 F) a F' (yie PR X l args K):=fun b hb=>
 C0Z (ha ▸ hy i hi F' b (stJ i F F' a b h0 hb)) fun v w3 h=> by
  rcases h with ⟨rfl,h⟩ | ⟨rfl,h⟩
  ·exact (h1 _ h).at (hJ _ _ _ h).1
  ·exact (h2 _ h).at (hE _ _ h)
theorem B0C {n:Nat} {v:Value} (stJ:∀ i F F' a b,J i F a → LW true (C3 F) a F' b → J i F' b) (h:J n F a):TW true (C3 F) a F' (Re J E n v):=fun w hw=> Or.inl ⟨F',stJ _ _ _ _ _ h hw⟩
theorem A91 {n:Nat} {v:Value} (stE:∀ F F' a b,E F a → LW true (C3 F) a F' b → E F' b) (h:E F a):TW true (C3 F) a F' (Re J E n v):=fun w hw=> Or.inr ⟨F',stE _ _ _ _ h hw⟩
theorem D0H {Fb:(Value → WP) → Value → WP} {α:Type} (c:α → Nat) (Fi:α → List Res) (φ:α → Prop) (μ:α → Nat) (v1:α → Value) (x0:α) (hJ:∀ i F a,J i F a → LW true (C3 F) a F a ∧ Rq F a) (stJ:∀ i F F' a b,J i F a → LW true (C3 F) a F' b → J i F' b)
  (h0:J (c x0) F a) (hφ:φ x0) (hs:∀ x a,φ x → J (c x) (Fi x) a → Rq (Fi x) a → ∀ L:Value → WP,(∀ x' w',φ x' → μ x' < μ x → J (c x') (Fi x') w' → L (v1 x') w') → TW true (C3 (Fi x)) a (Fi x) (Fb L (v1 x)))
  (hF:F' = Fi x0:=by rfl) {v:Value} (hv:v = v1 x0:=by rfl):TW true (C3 F) a F' (lp (n:=1) Fb v):=fun w hw=> by
 subst hF hv
 refine B6N (n:=1) (F:=Fb) (vs := [v1 x0]) (fun x vs w=> vs = [v1 x] ∧ φ x ∧ J (c x) (Fi x) w) μ rfl x0 ⟨rfl,hφ,stJ _ _ _ _ _ h0 hw⟩ ?_
 rintro x vs b hl ⟨rfl,hi,hb⟩ L hL
 refine (hs x b hi hb (hJ _ _ _ hb).2 (fun v=> L [v]) fun x' w' h1 h2 h3=> ?_).at (hJ _ _ _ hb).1
 exact hL x' _ w' ⟨rfl,h1,h3⟩ h2
theorem B0G {Fb:(Value → WP) → Value → WP} {k:IntKind} (n:Nat) (c:Nat → Nat) (Fi:Nat → List Res) (hJ:∀ i F a,J i F a → LW true (C3 F) a F a ∧ Rq F a) (stJ:∀ i F F' a b,J i F a → LW true (C3 F) a F' b → J i F' b)
  (h0:J (c 0) F a) (hs:∀ i a,i ≤ n → J (c i) (Fi i) a → Rq (Fi i) a → ∀ L:Value → WP,(i < n → ∀ w',J (c (i + 1)) (Fi (i + 1)) w' → L (.int k ((i:Int) + 1)) w') → TW true (C3 (Fi i)) a (Fi i) (Fb L (.int k (i:Int))))
  (hF:F' = Fi 0:=by rfl):TW true (C3 F) a F' (lp (n:=1) Fb (.int k 0)) :=
 D0H c Fi (· ≤ n) (fun i=> n - i) (fun i=> .int k (i:Int)) 0 hJ stJ h0 (Nat.zero_le _) (fun i a hi hJi hR L hL=> hs i a hi hJi hR L fun hlt w' h=> by
  have:=hL (i + 1) w' hlt (by omega) h; simpa using this) hF rfl
end
theorem A8j {N:Nat} {X:Nat → Prop} {S:List Nat} {w0:World} {body:VF ((Option Code → WP) → WP) N} {g:Value} {KJ:Option Code → WP} {Rq:List Res → World → Prop} {L:List (List Value)} {F0:List Res} (hit:B00 g F0 Rq L) (hL:∀ x ∈ L,x.length = N)
  {α:Type} (ψ:Nat → α → Prop) (Hc:Nat → α → List Res) {ε:Type} (χ:Code → ε → Prop) (He:ε → List Res) (x0:α) (h0:ψ 0 x0)
  (hRq:∀ i x F w,ψ i x → LW false S w0 (Hc i x ++ F) w → Rq F w)
  (hbody:∀ i (hi:i < L.length) x F,ψ i x → ∀ K':Option Code → WP,(∀ x',ψ (i + 1) x' → TW false S w0 (Hc (i + 1) x' ++ F) (K' none)) → (∀ c y,χ c y → TW false S w0 (He y ++ F) (K' (some c))) →
   TW false S w0 (Hc i x ++ F) (VF.app (fun _=> K8) N body L[i] K'))
  (hend:∀ x,ψ L.length x → TW false S w0 (Hc L.length x) (KJ none)) (hexit:∀ c y,χ c y → TW false S w0 (He y) (KJ (some c))) {H:List Res} (hH:H = F0 ++ Hc 0 x0:=by rfl):TW false S w0 H (rng PR X body g KJ):=by
 subst hH
 intro w hw
 obtain ⟨f,first,cap,hg,hit⟩:=hit
 refine ⟨f,first,cap,hg,fun l Pd w1 hl hmono hext hpd hyie=> ?_⟩
 refine C7v (X:=fun r=> r = l) ?_ fun r hr=> Or.inr hr
 refine C89 (hit l (fun i F a=> (∃ x,ψ i x ∧ LW false S w0 (Hc i x ++ F) a) ∧ Pd none a) (fun F a=> ∃ c,(∃ y,χ c y ∧ LW false S w0 (He y ++ F) a) ∧ Pd (some c) a) ?_ ?_ ?_ ?_ ?_ w1 ⟨⟨x0,h0,(hw.ext hext.ks).perm List.perm_append_comm⟩,hpd⟩) ?_
 ·rintro i F a ⟨⟨x,h1,h2⟩,_⟩
  exact ⟨(h2.sub (List.sublist_append_right _ _)).self,hRq i x F a h1 h2⟩
 ·rintro F a ⟨c,⟨y,h1,h2⟩,_⟩
  exact (h2.sub (List.sublist_append_right _ _)).self
 ·rintro i F F' a b ⟨⟨x,h1,h2⟩,h3⟩ hs
  refine ⟨⟨x,h1,?_⟩,hmono _ _ _ h3 (hs.ks.2.2 rfl)⟩
  exact ((h2.perm (List.perm_append_comm)).part hs.low).perm List.perm_append_comm
 ·rintro F F' a b ⟨c,⟨y,h1,h2⟩,h3⟩ hs
  refine ⟨c,⟨y,h1,?_⟩,hmono _ _ _ h3 (hs.ks.2.2 rfl)⟩
  exact ((h2.perm (List.perm_append_comm)).part hs.low).perm List.perm_append_comm
 ·rintro i hi F w2 ⟨⟨x,h1,h2⟩,h3⟩
  refine C0Z (hyie L[i] (fun j w3=> Pd j w3 ∧ match j with | none=> ∃ x,ψ (i + 1) x ∧ LW false S w0 (Hc (i + 1) x ++ F) w3 | some c=> ∃ y,χ c y ∧ LW false S w0 (He y ++ F) w3) w2 (hL _ (List.getElem_mem hi)) h3 ?_) ?_
  ·exact hbody i hi x F h1 (fun j w2=> ∀ w3,A0H w2 w3 → Pd j w3 → (Pd j w3 ∧ match j with | none=> ∃ x,ψ (i + 1) x ∧ LW false S w0 (Hc (i + 1) x ++ F) w3 | some c=> ∃ y,χ c y ∧ LW false S w0 (He y ++ F) w3)) (fun x' hx' w3 hw3 w4 h4 hp=> ⟨hp,x',hx',hw3.ext h4.ks⟩) (fun c y hc w3 hw3 w4 h4 hp=> ⟨hp,y,hc,hw3.ext h4.ks⟩) w2 h2
  ·rintro v w3 ⟨j,hv,hp,hr⟩
   cases j with
   | none=> exact Or.inl ⟨hv,hr,hp⟩
   | some c=> exact Or.inr ⟨hv,c,hr,hp⟩
 ·rintro v w' (⟨F,⟨x,h1,h2⟩,h3⟩ | ⟨F,c,⟨y,h1,h2⟩,h3⟩) _
  ·exact ⟨none,h3,fun w'' h=> hend x h1 w'' ((h2.sub (List.sublist_append_left _ _)).ext h.ks)⟩
  ·exact ⟨some c,h3,fun w'' h=> hexit c y h1 w'' ((h2.sub (List.sublist_append_left _ _)).ext h.ks)⟩
section
open Instr
variable {X:Nat → Prop} {t0 t1 t2 t3 t4 t5 t6 t7:Value} {R:Value → WP} {w:World}
def B2E (X:Nat → Prop) (a:Value) (R:Value → WP):WP :=
 B5 PR X (makeMap 156 none) fun b=>
 jn (n:=2) (fun c d=>
 jn (n:=1) (fun e=>
 R (.int .i64 0)) fun J1=>
 A0 PR (A8 .len #[58] 0 [a]) fun f=>
 A0 PR (binOp .gtr 3 f (.int .i64 32)) fun g=>
 C0 g (
 R (.int .i64 10)) (
 J1 c)) fun J2=>
 A0 PR (A8 .len #[58] 0 [a]) fun h=>
 lp (n:=2) (fun L3 i j=>
 A0 PR (binOp .lss 3 j h) fun k=>
 jn (n:=0) (
 jn (n:=1) (fun l=>
 A0 PR (binOp .add 3 j (.int .i64 1)) fun m=>
 L3 l m) fun J4=>
 A0 PR (indexAt 58 a j) fun o=>
 A6 PR (loadAt 155 o) fun p=>
 B5 PR X (alloc 155 true (.tuple #[])) fun q=>
 C1 PR X (storeAt 155 q p) <|
 jn (n:=1) (fun r=>
 A0 PR (fieldAt 155 q 0) fun s=>
 A6 PR (loadAt 3 s) fun t=>
 C1 PR X (mapUpdate 156 b t (.bool true)) <|
 J4 r) fun J5=>
 A0 PR (fieldAt 155 q 0) fun u=>
 A6 PR (loadAt 3 u) fun v=>
 A6 PR (lookup 156 b v false) fun w=>
 gj w false (fun J=> A0 PR (fieldAt 155 q 0) J) fun x=>
 gj w false (fun J=> A6 PR (loadAt 3 x) J) fun y=>
 gj w false (fun J=> A0 PR (build 158 #[(0,y),(1,(.int .i64 65535))]) J) fun z=>
 gj w false (fun J=> A0 PR (fieldAt 155 q 1) J) fun aa=>
 gj w false (fun J=> A6 PR (loadAt 3 aa) J) fun ab=>
 gj w false (fun J=> A0 PR (build 158 #[(0,ab),(1,(.int .i64 16))]) J) fun ac=>
 gj w false (fun J=> B5 PR X (buildSlice 259 2 #[(0,z),(1,ac)]) J) fun ad=>
 gj w false (fun J=> B3 PR X 89 [ad] J) fun ae=>
 gj w false (fun J=> A0 PR (Op.unary .not ae) J) fun af=>
 A0 PR (do pure (if ← asBool w then (.bool true) else af)) fun ag=>
 C0 ag (
 R (.int .i64 10)) (
 J5 i)) fun J6=>
 C0 k (
 J6) (
 J2 i j)) (.int .i64 0) (.int .i64 0)
theorem B7k:B0 PR 29:=A7 Tryz.func29 (by kernel_rfl) rfl
theorem B9a (h:B2E X t0 R w):Fn PR X 29 #[t0] w R:=C4 (args := [t0]) mixed Tryz.func29 (by kernel_rfl) h
def A9p (X:Nat → Prop) (a:Value) (R:Value → WP):WP :=
 B3 PR X 148 [a,(.func (.func 149) #[] #[])] fun b=>
 A0 PR (Op.unary .not b) fun c=>
 R c
theorem B7V:B0 PR 89:=A7 Tryz.func89 (by kernel_rfl) rfl
theorem B7u (h:A9p X t0 R w):Fn PR X 89 #[t0] w R:=C4 (args := [t0]) mixed Tryz.func89 (by kernel_rfl) h
def A5Z (X:Nat → Prop) (a:Value) (R:Value → WP):WP :=
 B5 PR X (box 158 a) fun b=>
 A0 PR (indexAt 158 b (.int .i64 0)) fun c=>
 A6 PR (loadAt 3 c) fun d=>
 A0 PR (binOp .lss 3 d (.int .i64 1)) fun e=>
 gj e false (fun J=> A0 PR (indexAt 158 b (.int .i64 0)) J) fun f=>
 gj e false (fun J=> A6 PR (loadAt 3 f) J) fun g=>
 gj e false (fun J=> A0 PR (indexAt 158 b (.int .i64 1)) J) fun h=>
 gj e false (fun J=> A6 PR (loadAt 3 h) J) fun i=>
 gj e false (fun J=> A0 PR (binOp .gtr 3 g i) J) fun j=>
 A0 PR (do pure (if ← asBool e then (.bool true) else j)) fun k=>
 R k
theorem B3P:B0 PR 149:=A7 Tryz.func149 (by kernel_rfl) rfl
theorem B4s (h:A5Z X t0 R w):Fn PR X 149 #[t0] w R:=C4 (args := [t0]) mixed Tryz.func149 (by kernel_rfl) h
def B29 (X:Nat → Prop) (a b:Value) (R:Value → WP):WP :=
 B3 PR X 267 [b] fun c=>
 B3 PR X 266 [a,c] fun d=>
 R d
theorem B9F:B0 PR 237:=A7 Tryz.func237 (by kernel_rfl) rfl
theorem C1r (h:B29 X t0 t1 R w):Fn PR X 237 #[t0,t1] w R:=C4 (args := [t0,t1]) mixed Tryz.func237 (by kernel_rfl) h
def B17 (X:Nat → Prop) (a:Value) (R:Value → WP):WP :=
 B5 PR X (box 3 a) fun b=>
 A0 PR (makeFunc (.func 286) #[] #[b]) fun c=>
 R c
theorem B8M:B0 PR 267:=A7 Tryz.func267 (by kernel_rfl) rfl
theorem B9P (h:B17 X t0 R w):Fn PR X 267 #[t0] w R:=C4 (args := [t0]) mixed Tryz.func267 (by kernel_rfl) h
def A66 (X:Nat → Prop) (a b:Value) (R:Value → WP):WP :=
 B5 PR X (box 155 a) fun c=>
 A0 PR (fieldAt 155 c 0) fun d=>
 A6 PR (loadAt 3 d) fun e=>
 A6 PR (loadAt 3 b) fun f=>
 A0 PR (binOp .eql 3 e f) fun g=>
 R g
theorem B4v:B0 PR 286:=A7 Tryz.func286 (by kernel_rfl) rfl
theorem B5k (h:A66 X t0 t1 R w):Fn PR X 286 #[t0,t1] w R:=C4 (args := [t0,t1]) mixed Tryz.func286 (by kernel_rfl) h
def A79 (X:Nat → Prop) (a:Value) (R:Value → WP):WP :=
 B5 PR X (alloc 47 true (.tuple #[])) fun b=>
 B3 PR X 86 [a] fun d=>
 A0 PR (extract d 0) fun e=>
 A0 PR (extract d 1) fun f=>
 A0 PR (extract d 2) fun g=>
 B5 PR X (alloc 45 true (.tuple #[])) fun h=>
 C1 PR X (storeAt 45 h e) <|
 jn (n:=1) (fun i=>
 A0 PR (fieldAt 45 h 5) fun j=>
 A6 PR (loadAt 3 j) fun k=>
 B3 PR X 87 [k,f] fun l=>
 A0 PR (extract l 0) fun m=>
 A0 PR (extract l 1) fun o=>
 B5 PR X (alloc 148 true (.tuple #[])) fun p=>
 C1 PR X (storeAt 148 p m) <|
 jn (n:=1) (fun q=>
 drw <|
 A0 PR (fieldAt 148 p 0) fun r=>
 A6 PR (loadAt 3 r) fun s=>
 A0 PR (fieldAt 148 p 1) fun t=>
 A6 PR (loadAt 3 t) fun u=>
 A0 PR (fieldAt 45 h 3) fun w=>
 C1 PR X (storeAt 3 w s) <|
 watch PR [(none,(loadAt 3 t),u)] <|
 A0 PR (fieldAt 45 h 4) fun x=>
 C1 PR X (storeAt 3 x u) <|
 A6 PR (loadAt 45 h) fun y=>
 A0 PR (fieldAt 148 p 2) fun z=>
 A6 PR (loadAt 3 z) fun aa=>
 A0 PR (build 47 #[(0,y),(1,aa)]) fun ab=>
 C1 PR X (storeAt 47 b ab) <|
 A6 PR (E1 [.c 47 b,.v (.int .i64 0)]) R) fun J1=>
 A0 PR (binOp .neq 27 o (.int .i64 0)) fun ac=>
 C0 ac (
 A0 PR (build 47 #[]) fun ad=>
 C1 PR X (storeAt 47 b ad) <|
 A6 PR (E1 [.c 47 b,.v o]) R) (
 J1 i)) fun J2=>
 A0 PR (binOp .neq 27 g (.int .i64 0)) fun ae=>
 C0 ae (
 A0 PR (build 47 #[]) fun af=>
 C1 PR X (storeAt 47 b af) <|
 A6 PR (E1 [.c 47 b,.v g]) R) (
 J2 (.int .i64 0))
theorem B5m:B0 PR 21:=A7 Tryz.func21 (by kernel_rfl) rfl
theorem B7L (h:A79 X t0 R w):Fn PR X 21 #[t0] w R:=C4 (args := [t0]) mixed Tryz.func21 (by kernel_rfl) h
def A5g (X:Nat → Prop) (a:Value) (R:Value → WP):WP :=
 B5 PR X (box 47 a) fun b=>
 A0 PR (fieldAt 47 b 0) fun c=>
 A0 PR (fieldAt 45 c 5) fun d=>
 A6 PR (loadAt 3 d) fun e=>
 A0 PR (binOp .eql 3 e (.int .i64 6)) fun f=>
 gj f true (fun J=> A0 PR (fieldAt 47 b 1) J) fun g=>
 gj f true (fun J=> A6 PR (loadAt 3 g) J) fun h=>
 gj f true (fun J=> A0 PR (binOp .and 3 h (.int .i64 5)) J) fun i=>
 gj f true (fun J=> A0 PR (binOp .neq 3 i (.int .i64 0)) J) fun j=>
 A0 PR (do pure (if ← asBool f then j else (.bool false))) fun k=>
 R k
theorem B31:B0 PR 58:=A7 Tryz.func58 (by kernel_rfl) rfl
theorem B4y (h:A5g X t0 R w):Fn PR X 58 #[t0] w R:=C4 (args := [t0]) mixed Tryz.func58 (by kernel_rfl) h
def B13 (X:Nat → Prop) (a:Value) (R:Value → WP):WP :=
 B5 PR X (box 47 a) fun b=>
 A0 PR (fieldAt 47 b 0) fun c=>
 A6 PR (loadAt 45 c) fun d=>
 B5 PR X (alloc 45 true (.tuple #[])) fun e=>
 C1 PR X (storeAt 45 e d) <|
 jn (n:=2) (fun f g=>
 A0 PR (fieldAt 45 e 5) fun h=>
 A6 PR (loadAt 3 h) fun i=>
 A0 PR (fieldAt 45 e 3) fun j=>
 A6 PR (loadAt 3 j) fun k=>
 A0 PR (fieldAt 45 e 4) fun l=>
 A6 PR (loadAt 3 l) fun m=>
 A0 PR (fieldAt 47 b 1) fun o=>
 A6 PR (loadAt 3 o) fun p=>
 A0 PR (build 148 #[(0,k),(1,m),(2,p)]) fun q=>
 B3 PR X 124 [i,q] fun r=>
 A0 PR (extract r 0) fun s=>
 A0 PR (extract r 1) fun t=>
 jn (n:=2) (fun u v=>
 jn (n:=2) (fun w x=>
 A0 PR (fieldAt 45 e 1) fun y=>
 A6 PR (loadAt 9 y) fun z=>
 A0 PR (fieldAt 45 e 2) fun aa=>
 A6 PR (loadAt 9 aa) fun ab=>
 A0 PR (fieldAt 45 e 5) fun ac=>
 A6 PR (loadAt 3 ac) fun ad=>
 A0 PR (build 226 #[(0,z),(1,ab),(2,ad)]) fun ae=>
 B3 PR X 126 [ae,s] fun af=>
 A0 PR (extract af 0) fun ag=>
 A0 PR (extract af 1) fun ah=>
 R (.tuple #[ag,ah])) fun J1=>
 A0 PR (fieldAt 45 e 0) fun ai=>
 A6 PR (loadAt 3 ai) fun aj=>
 A0 PR (binOp .eql 3 aj (.int .i64 6)) fun ak=>
 C0 ak (
 A0 PR (fieldAt 45 e 1) fun al=>
 A6 PR (loadAt 9 al) fun am=>
 A0 PR (fieldAt 45 e 2) fun an=>
 A6 PR (loadAt 9 an) fun ao=>
 A0 PR (fieldAt 45 e 5) fun ap=>
 A6 PR (loadAt 3 ap) fun aq=>
 A0 PR (build 224 #[(0,am),(1,ao),(2,aq)]) fun ar=>
 B3 PR X 125 [ar,s] fun au=>
 A0 PR (extract au 0) fun av=>
 A0 PR (extract au 1) fun aw=>
 R (.tuple #[av,aw])) (
 J1 u v)) fun J2=>
 A0 PR (binOp .neq 27 t (.int .i64 0)) fun ax=>
 C0 ax (
 R (.tuple #[(.string (ByteArray.mk #[])),t])) (
 J2 f g)) fun J3=>
 A0 PR (fieldAt 45 e 0) fun ay=>
 A6 PR (loadAt 3 ay) fun az=>
 A0 PR (binOp .neq 3 az (.int .i64 4)) fun a0=>
 gj a0 true (fun J=> A0 PR (fieldAt 45 e 0) J) fun a1=>
 gj a0 true (fun J=> A6 PR (loadAt 3 a1) J) fun a2=>
 gj a0 true (fun J=> A0 PR (binOp .neq 3 a2 (.int .i64 6)) J) fun a3=>
 A0 PR (do pure (if ← asBool a0 then a3 else (.bool false))) fun a4=>
 C0 a4 (
 R (.tuple #[(.string (ByteArray.mk #[])),(.int .i64 3)])) (
 J3 (.string (ByteArray.mk #[])) (.int .i64 0))
theorem B8B:B0 PR 64:=A7 Tryz.func64 (by kernel_rfl) rfl
theorem B9Q (h:B13 X t0 R w):Fn PR X 64 #[t0] w R:=C4 (args := [t0]) mixed Tryz.func64 (by kernel_rfl) h
def A8f (X:Nat → Prop) (a:Value) (R:Value → WP):WP :=
 B5 PR X (alloc 45 true (.tuple #[])) fun b=>
 jn (n:=2) (fun d e=>
 A0 PR (build 45 #[]) fun f=>
 C1 PR X (storeAt 45 b f) <|
 A6 PR (E1 [.c 45 b,.v (.string (ByteArray.mk #[])),.v (.int .i64 3)]) R) fun J1=>
 A0 PR (binOp .eql 9 a (.string (ByteArray.mk #[]))) fun g=>
 C0 g (
 A0 PR (build 45 #[]) fun h=>
 C1 PR X (storeAt 45 b h) <|
 A6 PR (E1 [.c 45 b,.v (.string (ByteArray.mk #[])),.v (.int .i64 2)]) R) (
 A0 PR (index 9 a (.int .i64 0)) fun i=>
 A0 PR (binOp .shr 5 i (.int .u64 4)) fun j=>
 A0 PR (binOp .eql 5 j (.int .u8 4)) fun k=>
 C0 k (
 B3 PR X 138 [a,(.func (.func 139) #[] #[]),(.func (.func 140) #[] #[])] fun l=>
 A0 PR (extract l 0) fun m=>
 A0 PR (extract l 1) fun o=>
 A0 PR (extract l 2) fun p=>
 C1 PR X (storeAt 45 b m) <|
 A6 PR (E1 [.c 45 b,.v o,.v p]) R) (
 A0 PR (index 9 a (.int .i64 0)) fun q=>
 A0 PR (binOp .shr 5 q (.int .u64 4)) fun r=>
 A0 PR (binOp .eql 5 r (.int .u8 6)) fun s=>
 C0 s (
 B3 PR X 141 [a,(.func (.func 142) #[] #[]),(.func (.func 143) #[] #[])] fun t=>
 A0 PR (extract t 0) fun u=>
 A0 PR (extract t 1) fun w=>
 A0 PR (extract t 2) fun x=>
 C1 PR X (storeAt 45 b u) <|
 A6 PR (E1 [.c 45 b,.v w,.v x]) R) (
 J1 (.string (ByteArray.mk #[])) (.int .i64 0))))
theorem B5j:B0 PR 86:=A7 Tryz.func86 (by kernel_rfl) rfl
theorem B7G (h:A8f X t0 R w):Fn PR X 86 #[t0] w R:=C4 (args := [t0]) mixed Tryz.func86 (by kernel_rfl) h
def A1T (X:Nat → Prop) (a b d:Value) (R:Value → WP):WP :=
 B5 PR X (alloc 45 true (.tuple #[])) fun e=>
 N7 PR X b [a] fun f=>
 A0 PR (extract f 0) fun g=>
 A0 PR (extract f 1) fun h=>
 A0 PR (extract f 2) fun i=>
 B5 PR X (alloc 226 true (.tuple #[])) fun j=>
 C1 PR X (storeAt 226 j g) <|
 A6 PR (loadAt 226 j) fun k=>
 N7 PR X d [k] fun l=>
 C1 PR X (storeAt 45 e l) <|
 A6 PR (E1 [.c 45 e,.v h,.v i]) R
theorem A6V:B0 PR 138:=A7 Tryz.func138 (by kernel_rfl) rfl
theorem A7N (h:A1T X t0 t1 t2 R w):Fn PR X 138 #[t0,t1,t2] w R:=C4 (args := [t0,t1,t2]) mixed Tryz.func138 (by kernel_rfl) h
def A49 (X:Nat → Prop) (a:Value) (R:Value → WP):WP :=
 B5 PR X (box 226 a) fun b=>
 B5 PR X (alloc 45 true (.tuple #[])) fun d=>
 A0 PR (fieldAt 226 b 0) fun e=>
 A6 PR (loadAt 9 e) fun f=>
 A0 PR (fieldAt 226 b 1) fun g=>
 A6 PR (loadAt 9 g) fun h=>
 A0 PR (fieldAt 226 b 2) fun i=>
 A6 PR (loadAt 3 i) fun j=>
 A0 PR (build 45 #[(0,(.int .i64 4)),(1,f),(2,h),(5,j)]) fun k=>
 C1 PR X (storeAt 45 d k) <|
 A6 PR (E1 [.c 45 d]) R
theorem B2k:B0 PR 140:=A7 Tryz.func140 (by kernel_rfl) rfl
theorem B33 (h:A49 X t0 R w):Fn PR X 140 #[t0] w R:=C4 (args := [t0]) mixed Tryz.func140 (by kernel_rfl) h
def A1G (X:Nat → Prop) (a b d:Value) (R:Value → WP):WP :=
 B5 PR X (alloc 45 true (.tuple #[])) fun e=>
 N7 PR X b [a] fun f=>
 A0 PR (extract f 0) fun g=>
 A0 PR (extract f 1) fun h=>
 A0 PR (extract f 2) fun i=>
 B5 PR X (alloc 224 true (.tuple #[])) fun j=>
 C1 PR X (storeAt 224 j g) <|
 A6 PR (loadAt 224 j) fun k=>
 N7 PR X d [k] fun l=>
 C1 PR X (storeAt 45 e l) <|
 A6 PR (E1 [.c 45 e,.v h,.v i]) R
theorem A6W:B0 PR 141:=A7 Tryz.func141 (by kernel_rfl) rfl
theorem A7T (h:A1G X t0 t1 t2 R w):Fn PR X 141 #[t0,t1,t2] w R:=C4 (args := [t0,t1,t2]) mixed Tryz.func141 (by kernel_rfl) h
def A5K (X:Nat → Prop) (a:Value) (R:Value → WP):WP :=
 B5 PR X (box 224 a) fun b=>
 B5 PR X (alloc 45 true (.tuple #[])) fun d=>
 A0 PR (fieldAt 224 b 0) fun e=>
 A6 PR (loadAt 9 e) fun f=>
 A0 PR (fieldAt 224 b 1) fun g=>
 A6 PR (loadAt 9 g) fun h=>
 A0 PR (fieldAt 224 b 2) fun i=>
 A6 PR (loadAt 3 i) fun j=>
 A0 PR (build 45 #[(0,(.int .i64 6)),(1,f),(2,h),(5,j)]) fun k=>
 C1 PR X (storeAt 45 d k) <|
 A6 PR (E1 [.c 45 d]) R
theorem B2j:B0 PR 143:=A7 Tryz.func143 (by kernel_rfl) rfl
theorem B3e (h:A5K X t0 R w):Fn PR X 143 #[t0] w R:=C4 (args := [t0]) mixed Tryz.func143 (by kernel_rfl) h
def A8Q (X:Nat → Prop) (a:Value) (R:Value → WP):WP :=
 B5 PR X (box 45 a) fun b=>
 A0 PR (fieldAt 45 b 0) fun c=>
 A6 PR (loadAt 3 c) fun d=>
 B3 PR X 228 [d] fun e=>
 A0 PR (fieldAt 45 b 5) fun f=>
 A6 PR (loadAt 3 f) fun g=>
 A0 PR (fieldAt 45 b 3) fun h=>
 A6 PR (loadAt 3 h) fun i=>
 A0 PR (fieldAt 45 b 4) fun j=>
 A6 PR (loadAt 3 j) fun k=>
 A0 PR (build 148 #[(0,i),(1,k)]) fun l=>
 B3 PR X 124 [g,l] fun m=>
 A0 PR (extract m 0) fun o=>
 A0 PR (extract m 1) fun p=>
 jn (n:=2) (fun q r=>
 B5 PR X (alloc 355 true (.tuple #[])) fun s=>
 A0 PR (sliceAt 355 s none none none) fun t=>
 B5 PR X (A8 .clear #[301] 0 [t]) fun _=>
 drw <|
 A0 PR (sliceAt 355 s none none none) fun u=>
 A0 PR (fieldAt 45 b 0) fun v=>
 A6 PR (loadAt 3 v) fun w=>
 A0 PR (convert 3 89 w) fun x=>
 A0 PR (binOp .shl 89 x (.int .u64 8)) fun y=>
 A0 PR (fieldAt 45 b 5) fun z=>
 A6 PR (loadAt 3 z) fun aa=>
 A0 PR (convert 3 89 aa) fun ab=>
 A0 PR (binOp .or 89 y ab) fun ac=>
 A0 PR (fieldAt 45 b 3) fun ad=>
 A6 PR (loadAt 3 ad) fun ae=>
 A0 PR (convert 3 89 ae) fun af=>
 A0 PR (fieldAt 45 b 4) fun ag=>
 A6 PR (loadAt 3 ag) fun ah=>
 A0 PR (convert 3 89 ah) fun ai=>
 B3 PR X 176 [ac,(.int .i64 2)] fun aj=>
 watch PR [(none,(loadAt 3 ag),ah),(none,(loadAt 3 ad),ae)] <|
 B3 PR X 176 [af,(.int .i64 2)] fun ak=>
 watch PR [(none,(loadAt 3 ag),ah)] <|
 A0 PR (binOp .add 9 aj ak) fun al=>
 B3 PR X 176 [ai,(.int .i64 2)] fun am=>
 A0 PR (binOp .add 9 al am) fun an=>
 B5 PR X (A8 .copy #[301,9] 3 [u,an]) fun ao=>
 drw <|
 A0 PR (sliceAt 355 s (some (.int .i64 6)) none none) fun ap=>
 A0 PR (fieldAt 45 b 1) fun aq=>
 A6 PR (loadAt 9 aq) fun ar=>
 B5 PR X (A8 .copy #[301,9] 3 [ap,ar]) fun au=>
 drw <|
 A0 PR (sliceAt 355 s (some (.int .i64 22)) none none) fun av=>
 A0 PR (fieldAt 45 b 2) fun aw=>
 A6 PR (loadAt 9 aw) fun ax=>
 B5 PR X (A8 .copy #[301,9] 3 [av,ax]) fun ay=>
 A0 PR (sliceAt 355 s none none none) fun az=>
 A6 PR (convert 301 9 az) fun a0=>
 R (.tuple #[a0,(.bool true)])) fun J1=>
 A0 PR (binOp .eql 3 e (.int .i64 0)) fun a1=>
 gj a1 false (fun J=> A0 PR (fieldAt 45 b 1) J) fun a2=>
 gj a1 false (fun J=> A6 PR (loadAt 9 a2) J) fun a3=>
 gj a1 false (fun J=> A0 PR (A8 .len #[9] 0 [a3]) J) fun a4=>
 gj a1 false (fun J=> J e) fun a5=>
 gj a1 false (fun J=> A0 PR (binOp .neq 3 a4 a5) J) fun a6=>
 A0 PR (do pure (if ← asBool a1 then (.bool true) else a6)) fun a7=>
 gj a7 false (fun J=> A0 PR (fieldAt 45 b 2) J) fun a8=>
 gj a7 false (fun J=> A6 PR (loadAt 9 a8) J) fun a9=>
 gj a7 false (fun J=> A0 PR (A8 .len #[9] 0 [a9]) J) fun ba=>
 gj a7 false (fun J=> J e) fun bb=>
 gj a7 false (fun J=> A0 PR (binOp .neq 3 ba bb) J) fun bc=>
 A0 PR (do pure (if ← asBool a7 then (.bool true) else bc)) fun bd=>
 gj bd false (fun J=> J p) fun be=>
 gj bd false (fun J=> A0 PR (binOp .neq 27 be (.int .i64 0)) J) fun bf=>
 A0 PR (do pure (if ← asBool bd then (.bool true) else bf)) fun bg=>
 C0 bg (
 R (.tuple #[(.string (ByteArray.mk #[])),(.bool false)])) (
 J1 (.string (ByteArray.mk #[])) (.bool false))
theorem B5u:B0 PR 166:=A7 Tryz.func166 (by kernel_rfl) rfl
theorem B69 (h:A8Q X t0 R w):Fn PR X 166 #[t0] w R:=C4 (args := [t0]) mixed Tryz.func166 (by kernel_rfl) h
def B0H (X:Nat → Prop) (a:Value) (R:Value → WP):WP :=
 jn (n:=1) (fun b=>
 R (.int .i64 0)) fun J1=>
 A0 PR (binOp .eql 3 a (.int .i64 4)) fun c=>
 C0 c (
 R (.int .i64 4)) (
 A0 PR (binOp .eql 3 a (.int .i64 6)) fun d=>
 C0 d (
 R (.int .i64 16)) (
 J1 (.int .i64 0)))
theorem B6l:B0 PR 228:=A7 Tryz.func228 (by kernel_rfl) rfl
theorem B7s (h:B0H X t0 R w):Fn PR X 228 #[t0] w R:=C4 (args := [t0]) mixed Tryz.func228 (by kernel_rfl) h
def B16 (X:Nat → Prop) (a b:Value) (R:Value → WP):WP :=
 B5 PR X (alloc 148 true (.tuple #[])) fun d=>
 B3 PR X 144 [] fun e=>
 A6 PR (lookup 251 e a false) fun f=>
 jn (n:=1) (fun g=>
 inv PR X f "gangplank/port.parse" [b] fun h=>
 A0 PR (extract h 0) fun i=>
 A0 PR (extract h 1) fun j=>
 jn (n:=1) (fun k=>
 B3 PR X 145 [b,(.int .i64 0),(.int .i64 2)] fun l=>
 A0 PR (extract l 0) fun m=>
 A0 PR (extract l 1) fun o=>
 B3 PR X 145 [b,(.int .i64 2),(.int .i64 2)] fun p=>
 A0 PR (extract p 0) fun q=>
 A0 PR (extract p 1) fun r=>
 A0 PR (convert 89 3 m) fun s=>
 A0 PR (convert 89 3 q) fun t=>
 A0 PR (build 148 #[(0,s),(1,t),(2,i)]) fun u=>
 C1 PR X (storeAt 148 d u) <|
 A6 PR (E1 [.c 148 d,.v (.int .i64 0)]) R) fun J1=>
 A0 PR (binOp .neq 27 j (.int .i64 0)) fun w=>
 C0 w (
 A0 PR (build 148 #[]) fun x=>
 C1 PR X (storeAt 148 d x) <|
 A6 PR (E1 [.c 148 d,.v j]) R) (
 J1 g)) fun J2=>
 A6 PR (H9 .eql 250 (.tmp 16) (.const .nilIface) f .nilIface) fun y=>
 C0 y (
 A0 PR (build 148 #[]) fun z=>
 C1 PR X (storeAt 148 d z) <|
 A6 PR (E1 [.c 148 d,.v (.int .i64 7)]) R) (
 J2 (.int .i64 0))
theorem B8N:B0 PR 87:=A7 Tryz.func87 (by kernel_rfl) rfl
theorem B9G (h:B16 X t0 t1 R w):Fn PR X 87 #[t0,t1] w R:=C4 (args := [t0,t1]) mixed Tryz.func87 (by kernel_rfl) h
def B5F (X:Nat → Prop) (a b:Value) (R:Value → WP):WP :=
 B5 PR X (box 148 b) fun c=>
 B3 PR X 144 [] fun d=>
 A6 PR (lookup 251 d a false) fun e=>
 jn (n:=2) (fun f g=>
 A6 PR (loadAt 148 c) fun h=>
 B3 PR X 171 [h] fun i=>
 A0 PR (extract i 0) fun j=>
 A0 PR (extract i 1) fun k=>
 A0 PR (fieldAt 148 c 2) fun l=>
 A6 PR (loadAt 3 l) fun m=>
 inv PR X e "gangplank/port.put" [m] fun o=>
 A0 PR (extract o 0) fun p=>
 A0 PR (extract o 1) fun q=>
 jn (n:=2) (fun r s=>
 A0 PR (binOp .add 9 j p) fun t=>
 R (.tuple #[t,(.int .i64 0)])) fun J1=>
 A0 PR (Op.unary .not k) fun u=>
 gj u false (fun J=> J q) fun v=>
 gj u false (fun J=> A0 PR (binOp .neq 27 v (.int .i64 0)) J) fun w=>
 A0 PR (do pure (if ← asBool u then (.bool true) else w)) fun x=>
 C0 x (
 R (.tuple #[(.string (ByteArray.mk #[])),(.int .i64 1)])) (
 J1 f g)) fun J2=>
 A6 PR (H9 .eql 250 (.tmp 14) (.const .nilIface) e .nilIface) fun y=>
 C0 y (
 R (.tuple #[(.string (ByteArray.mk #[])),(.int .i64 7)])) (
 J2 (.string (ByteArray.mk #[])) (.int .i64 0))
theorem A6Y:B0 PR 124:=A7 Tryz.func124 (by kernel_rfl) rfl
theorem C15 (h:B5F X t0 t1 R w):Fn PR X 124 #[t0,t1] w R:=C4 (args := [t0,t1]) mixed Tryz.func124 (by kernel_rfl) h
def B0k (X:Nat → Prop) (R:Value → WP):WP :=
 B5 PR X (makeMap 251 none) fun a=>
 A0 PR (build 333 #[]) fun b=>
 A0 PR (makeInterface 333 b) fun c=>
 C1 PR X (mapUpdate 251 a (.int .i64 6) c) <|
 A0 PR (build 334 #[]) fun d=>
 A0 PR (makeInterface 334 d) fun e=>
 C1 PR X (mapUpdate 251 a (.int .i64 17) e) <|
 R a
theorem A8b:B0 PR 144:=A7 Tryz.func144 (by kernel_rfl) rfl
theorem B77 (h:B0k X R w):Fn PR X 144 #[] w R:=C4 (args := []) mixed Tryz.func144 (by kernel_rfl) h
def B18 (X:Nat → Prop) (a:Value) (R:Value → WP):WP :=
 B5 PR X (box 148 a) fun b=>
 jn (n:=2) (fun c d=>
 A0 PR (binOp .eql 3 d (.int .i64 2)) fun e=>
 R (.tuple #[c,e])) fun J1=>
 jn (n:=2) (fun f g=>
 jn (n:=2) (fun h i=>
 J1 h i) fun J2=>
 A0 PR (fieldAt 148 b 1) fun j=>
 A6 PR (loadAt 3 j) fun k=>
 A0 PR (binOp .geq 3 k (.int .i64 0)) fun l=>
 gj l true (fun J=> A0 PR (fieldAt 148 b 1) J) fun m=>
 gj l true (fun J=> A6 PR (loadAt 3 m) J) fun o=>
 gj l true (fun J=> A0 PR (binOp .leq 3 o (.int .i64 65535)) J) fun p=>
 A0 PR (do pure (if ← asBool l then p else (.bool false))) fun q=>
 C0 q (
 A0 PR (fieldAt 148 b 1) fun r=>
 A6 PR (loadAt 3 r) fun s=>
 A0 PR (convert 3 89 s) fun t=>
 B3 PR X 176 [t,(.int .i64 2)] fun u=>
 A0 PR (binOp .add 9 f u) fun v=>
 A0 PR (binOp .add 3 g (.int .i64 1)) fun w=>
 J2 v w) (
 J2 f g)) fun J3=>
 jn (n:=0) (
 A0 PR (fieldAt 148 b 0) fun x=>
 A6 PR (loadAt 3 x) fun y=>
 A0 PR (convert 3 89 y) fun z=>
 B3 PR X 176 [z,(.int .i64 2)] fun aa=>
 J3 aa (.int .i64 1)) fun J4=>
 jn (n:=0) (
 J3 (.string (ByteArray.mk #[])) (.int .i64 0)) fun J5=>
 A0 PR (fieldAt 148 b 0) fun ab=>
 A6 PR (loadAt 3 ab) fun ac=>
 A0 PR (binOp .geq 3 ac (.int .i64 0)) fun ad=>
 gj ad true (fun J=> A0 PR (fieldAt 148 b 0) J) fun ae=>
 gj ad true (fun J=> A6 PR (loadAt 3 ae) J) fun af=>
 gj ad true (fun J=> A0 PR (binOp .leq 3 af (.int .i64 65535)) J) fun ag=>
 A0 PR (do pure (if ← asBool ad then ag else (.bool false))) fun ah=>
 C0 ah (
 J4) (
 J5)
theorem B0b:B0 PR 171:=A7 Tryz.func171 (by kernel_rfl) rfl
theorem B9C (h:B18 X t0 R w):Fn PR X 171 #[t0] w R:=C4 (args := [t0]) mixed Tryz.func171 (by kernel_rfl) h
def A5a (X:Nat → Prop) (a b:Value) (R:Value → WP):WP :=
 B5 PR X (box 333 a) fun c=>
 jn (n:=2) (fun d e=>
 jn (n:=2) (fun f g=>
 A0 PR (index 9 b (.int .i64 13)) fun h=>
 A0 PR (convert 5 3 h) fun i=>
 R (.tuple #[i,(.int .i64 0)])) fun J1=>
 A0 PR (index 9 b (.int .i64 12)) fun j=>
 A0 PR (binOp .shr 5 j (.int .u64 4)) fun k=>
 A0 PR (convert 5 3 k) fun l=>
 A0 PR (binOp .mul 3 l (.int .i64 4)) fun m=>
 A0 PR (binOp .lss 3 m (.int .i64 20)) fun o=>
 gj o false (fun J=> J m) fun p=>
 gj o false (fun J=> J b) fun q=>
 gj o false (fun J=> A0 PR (A8 .len #[9] 0 [q]) J) fun r=>
 gj o false (fun J=> A0 PR (binOp .gtr 3 p r) J) fun s=>
 A0 PR (do pure (if ← asBool o then (.bool true) else s)) fun t=>
 C0 t (
 R (.tuple #[(.int .i64 0),(.int .i64 8)])) (
 J1 d e)) fun J2=>
 A0 PR (A8 .len #[9] 0 [b]) fun u=>
 A0 PR (binOp .lss 3 u (.int .i64 20)) fun v=>
 C0 v (
 R (.tuple #[(.int .i64 0),(.int .i64 2)])) (
 J2 (.int .i64 0) (.int .i64 0))
theorem B4p (h:A5a X t0 t1 R w):Fn PR X 339 #[t0,t1] w R:=C4 (args := [t0,t1]) mixed Tryz.func339 (by kernel_rfl) h
def A74 (X:Nat → Prop) (a b:Value) (R:Value → WP):WP :=
 B5 PR X (box 333 a) fun c=>
 jn (n:=2) (fun d e=>
 B3 PR X 341 [(.string (ByteArray.mk #[0])),(.int .i64 8)] fun f=>
 A0 PR (binOp .add 9 f (.string (ByteArray.mk #[80]))) fun g=>
 A0 PR (convert 3 89 b) fun h=>
 B3 PR X 176 [h,(.int .i64 1)] fun i=>
 A0 PR (binOp .add 9 g i) fun j=>
 B3 PR X 341 [(.string (ByteArray.mk #[0])),(.int .i64 6)] fun k=>
 A0 PR (binOp .add 9 j k) fun l=>
 R (.tuple #[l,(.int .i64 0)])) fun J1=>
 A0 PR (binOp .lss 3 b (.int .i64 0)) fun m=>
 gj m false (fun J=> J b) fun o=>
 gj m false (fun J=> A0 PR (binOp .gtr 3 o (.int .i64 255)) J) fun p=>
 A0 PR (do pure (if ← asBool m then (.bool true) else p)) fun q=>
 C0 q (
 R (.tuple #[(.string (ByteArray.mk #[])),(.int .i64 1)])) (
 J1 (.string (ByteArray.mk #[])) (.int .i64 0))
theorem B61 (h:A74 X t0 t1 R w):Fn PR X 340 #[t0,t1] w R:=C4 (args := [t0,t1]) mixed Tryz.func340 (by kernel_rfl) h
def A5l (X:Nat → Prop) (a b:Value) (R:Value → WP):WP :=
 B5 PR X (box 334 a) fun c=>
 jn (n:=2) (fun d e=>
 jn (n:=2) (fun f g=>
 R (.tuple #[(.int .i64 0),(.int .i64 0)])) fun J1=>
 B3 PR X 145 [b,(.int .i64 4),(.int .i64 2)] fun h=>
 A0 PR (extract h 0) fun i=>
 A0 PR (extract h 1) fun j=>
 A0 PR (binOp .lss 89 i (.int .u64 8)) fun k=>
 gj k false (fun J=> J i) fun l=>
 gj k false (fun J=> J b) fun m=>
 gj k false (fun J=> A0 PR (A8 .len #[9] 0 [m]) J) fun o=>
 gj k false (fun J=> A0 PR (convert 3 89 o) J) fun p=>
 gj k false (fun J=> A0 PR (binOp .gtr 89 l p) J) fun q=>
 A0 PR (do pure (if ← asBool k then (.bool true) else q)) fun r=>
 C0 r (
 R (.tuple #[(.int .i64 0),(.int .i64 4)])) (
 J1 d e)) fun J2=>
 A0 PR (A8 .len #[9] 0 [b]) fun s=>
 A0 PR (binOp .lss 3 s (.int .i64 8)) fun t=>
 C0 t (
 R (.tuple #[(.int .i64 0),(.int .i64 2)])) (
 J2 (.int .i64 0) (.int .i64 0))
theorem B4n (h:A5l X t0 t1 R w):Fn PR X 351 #[t0,t1] w R:=C4 (args := [t0,t1]) mixed Tryz.func351 (by kernel_rfl) h
def A8m (X:Nat → Prop) (a b:Value) (R:Value → WP):WP :=
 B5 PR X (box 334 a) fun c=>
 jn (n:=2) (fun d e=>
 R (.tuple #[(.string (ByteArray.mk #[0,8,0,0])),(.int .i64 0)])) fun J1=>
 A0 PR (binOp .neq 3 b (.int .i64 0)) fun f=>
 C0 f (
 R (.tuple #[(.string (ByteArray.mk #[])),(.int .i64 1)])) (
 J1 (.string (ByteArray.mk #[])) (.int .i64 0))
theorem B6Y (h:A8m X t0 t1 R w):Fn PR X 352 #[t0,t1] w R:=C4 (args := [t0,t1]) mixed Tryz.func352 (by kernel_rfl) h
end
end Go.Proofs.YtjobgnabneddjaaGreat
