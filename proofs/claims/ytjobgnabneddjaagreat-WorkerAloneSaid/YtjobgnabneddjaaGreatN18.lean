/- The proof of a given statement, a part of it (Rf17a ShR07 ShR05 ShR06 ShR03 ShR04 Rf03 Rf04 Rf07 Rf08 ShR13 Rf13 RdN DoT Rf17b Rf17c Rf17d Rw18 Rw16 Hap Hap2 JwG PinL JwS TwoL AlnL ShL19WorkerPinned Few19 ShL20ControlSlots ShL20ControlSame ShL20ControlBusy RunU Works20 BusyW SameW SlotsW PinW AlnW). No condition but what each lemma says. -/
import Derived.Test.YtjobgnabneddjaaGreatN17
set_option linter.unusedVariables false
set_option linter.unusedSimpArgs false
namespace Go.Proofs.YtjobgnabneddjaaGreat
open Go
theorem C2l (w : World) (v : Value) (l : List E9) (id : Int) (hn : l.length ≤ 1000000) (hv : F9 w v l.length (l.flatMap H3)) :
  Fn PR C0 202 #[v, .int .i64 id] w (fun r w' => r = .int .i64 (Q9 l id) ∧ D2 [] w w') := by
 refine Fn.pure (A6a (TW.go (κ := false) (S := []) ?_))
 unfold A0m
 obtain ⟨a, c, rfl, hr⟩ := hv.form
 (have zz:=trivial;repeat((first|clear zz|with_reducible first|refine A3 ?_|refine A5 fun _=>?_|refine A4 fun _=>?_);try simp(disch:=first|omega|assumption|((repeat(first|exact A1|exact uH|apply A2|apply uT));first|done|fail)|(simp;first|done|omega|fail))[]))
 refine w7 (α := Unit) l.length (fun _ _ => .int .i64 0) (fun _ _ => []) (fun i _ => ∀ j y, j < i → l[j]? = some y → decide (y.1 = id) = false) () (by intro j _ hj; omega) ?_
 rintro i _ hi hpre L hL
 by_cases hlt : i < l.length
 ·obtain ⟨b, o, rfl, hrow⟩ := hr (by omega)
  have hx : l[i]? = some l[i] := List.getElem?_eq_getElem hlt
  have h1 := hrow.cellAt (f := H3) (k := 2) (j := 0) (fun _ => rfl) hx rfl
  by_cases c1 : l[i].1 = id
  ·(have zz:=trivial;repeat((first|clear zz|with_reducible first|refine A3 ?_|refine A5 fun _=>?_|refine A4 fun _=>?_);try simp(disch:=first|omega|assumption|((repeat(first|exact A1|exact uH|apply A2|apply uT));first|done|fail)|(simp;first|done|omega|fail))[hlt, h1, c1]))
   exact B0 (by rw [Q9, A5j hx (by simpa using c1) hpre])
  ·(have zz:=trivial;repeat((first|clear zz|with_reducible first|refine A3 ?_|refine A5 fun _=>?_|refine A4 fun _=>?_);try simp(disch:=first|omega|assumption|((repeat(first|exact A1|exact uH|apply A2|apply uT));first|done|fail)|(simp;first|done|omega|fail))[hlt, h1, c1]))
   refine hL hlt () fun j y hj hy => ?_
   by_cases hji : j = i
   ·subst hji; rw [hx] at hy; cases hy; simpa using c1
   ·exact hpre j y (by omega) hy
 ·obtain rfl : i = l.length := by omega
  (have zz:=trivial;repeat((first|clear zz|with_reducible first|refine A3 ?_|refine A5 fun _=>?_|refine A4 fun _=>?_);try simp(disch:=first|omega|assumption|((repeat(first|exact A1|exact uH|apply A2|apply uT));first|done|fail)|(simp;first|done|omega|fail))[]))
  exact B0 (by rw [Q9, B1C fun j y hy => hpre j y (List.getElem?_eq_some_iff.1 hy).1 hy])
end Go.Proofs.YtjobgnabneddjaaGreat
namespace Go.Proofs.YtjobgnabneddjaaGreat
open Go
end Go.Proofs.YtjobgnabneddjaaGreat
namespace Go.Proofs.YtjobgnabneddjaaGreat
open Go
end Go.Proofs.YtjobgnabneddjaaGreat
namespace Go.Proofs.YtjobgnabneddjaaGreat
open Go
end Go.Proofs.YtjobgnabneddjaaGreat
namespace Go.Proofs.YtjobgnabneddjaaGreat
open Go
end Go.Proofs.YtjobgnabneddjaaGreat
namespace Go.Proofs.YtjobgnabneddjaaGreat
open Go
end Go.Proofs.YtjobgnabneddjaaGreat
namespace Go.Proofs.YtjobgnabneddjaaGreat
open Go
end Go.Proofs.YtjobgnabneddjaaGreat
namespace Go.Proofs.YtjobgnabneddjaaGreat
open Go
end Go.Proofs.YtjobgnabneddjaaGreat
namespace Go.Proofs.YtjobgnabneddjaaGreat
open Go
end Go.Proofs.YtjobgnabneddjaaGreat
namespace Go.Proofs.YtjobgnabneddjaaGreat
open Go
theorem B9N {l : List E9} {i : Nat} {x : E9} (hx : l[i]? = some x) (h : ∀ j y, j < i → l[j]? = some y → y.1 ≠ x.1) : Q9 l x.1 = (i : Nat) := by
 rw [Q9, A5j hx (by simp) fun j y hj hy => by simpa using h j y hj hy]
theorem B51 (l : List E9) : m0 l = true ↔ ∀ i x, l[i]? = some x → A1d x = true ∧ Q9 l x.1 = (i : Nat) := by
 rw [A4G]
 constructor
 ·rintro ⟨h1, h2⟩ i x hx
  exact ⟨h1 x (List.mem_of_getElem? hx), B9N hx fun j y hj hy => C6Y h2 hj hy hx⟩
 ·intro h
  refine ⟨fun b hb => ?_, List.pairwise_iff_getElem.2 fun i j hi hj hij e => ?_⟩
  ·obtain ⟨i, hi⟩ := List.getElem?_of_mem hb
   exact (h i b hi).1
  ·have h1 := (h i _ (List.getElem?_eq_getElem hi)).2
   have h2 := (h j _ (List.getElem?_eq_getElem hj)).2
   rw [e, h2] at h1
   omega
theorem C2x (w : World) (v : Value) (l : List E9) (hn : l.length ≤ 1000000) (hv : F9 w v l.length (l.flatMap H3)) :
  Fn PR C0 153 #[v] w (fun r w' => r = .int .i64 (L5 l) ∧ D2 [] w w') := by
 refine Fn.pure (A5V (TW.go (κ := false) (S := []) ?_))
 unfold A0D
 obtain ⟨a, c, rfl, hr⟩ := hv.form
 by_cases c0 : 32 < l.length
 ·have c0' : (32 : Int) < l.length := by omega
  (have zz:=trivial;repeat((first|clear zz|with_reducible first|refine A3 ?_|refine A5 fun _=>?_|refine A4 fun _=>?_);try simp(disch:=first|omega|assumption|((repeat(first|exact A1|exact uH|apply A2|apply uT));first|done|fail)|(simp;first|done|omega|fail))[c0, c0']))
  exact B0 (by simp [L5]; omega)
 have c0' : ¬ (32 : Int) < l.length := by omega
 (have zz:=trivial;repeat((first|clear zz|with_reducible first|refine A3 ?_|refine A5 fun _=>?_|refine A4 fun _=>?_);try simp(disch:=first|omega|assumption|((repeat(first|exact A1|exact uH|apply A2|apply uT));first|done|fail)|(simp;first|done|omega|fail))[c0, c0']))
 refine w7 (α := Unit) l.length (fun _ _ => .int .i64 0) (fun _ _ => []) (fun i _ => ∀ j x, j < i → l[j]? = some x → A1d x = true ∧ Q9 l x.1 = (j : Nat)) () (by intro j x hj; omega) ?_
 rintro i _ hi hpre L hL
 by_cases hlt : i < l.length
 ·obtain ⟨b, o, rfl, hrow⟩ := hr (by omega)
  have hx : l[i]? = some l[i] := List.getElem?_eq_getElem hlt
  generalize l[i] = x at hx
  have h1 := hrow.at (f := H3) (k := 2) (fun _ => rfl) hx
  rw [H3] at h1
  have bad : ¬ (A1d x = true ∧ Q9 l x.1 = (i : Nat)) → L5 l = 10 := fun h => by
   have : m0 l = false := by
    rw [← Bool.not_eq_true, B51]
    exact fun hh => h (hh i x hx)
   simp [L5, this]
  by_cases c1 : x.1 < 1
  ·rw [bad fun h => by have := h.1; simp [A1d] at this; omega]
   (have zz:=trivial;repeat((first|clear zz|with_reducible first|refine A3 ?_|refine A5 fun _=>?_|refine A4 fun _=>?_);try simp(disch:=first|omega|assumption|((repeat(first|exact A1|exact uH|apply A2|apply uT));first|done|fail)|(simp;first|done|omega|fail))[hlt, h1, c1]))
   exact B0 rfl
  by_cases c2 : 65535 < x.1
  ·rw [bad fun h => by have := h.1; simp [A1d] at this; omega]
   (have zz:=trivial;repeat((first|clear zz|with_reducible first|refine A3 ?_|refine A5 fun _=>?_|refine A4 fun _=>?_);try simp(disch:=first|omega|assumption|((repeat(first|exact A1|exact uH|apply A2|apply uT));first|done|fail)|(simp;first|done|omega|fail))[hlt, h1, c1, c2]))
   exact B0 rfl
  by_cases c3 : x.2 < 1
  ·rw [bad fun h => by have := h.1; simp [A1d] at this; omega]
   (have zz:=trivial;repeat((first|clear zz|with_reducible first|refine A3 ?_|refine A5 fun _=>?_|refine A4 fun _=>?_);try simp(disch:=first|omega|assumption|((repeat(first|exact A1|exact uH|apply A2|apply uT));first|done|fail)|(simp;first|done|omega|fail))[hlt, h1, c1, c2, c3]))
   exact B0 rfl
  by_cases c4 : 16 < x.2
  ·rw [bad fun h => by have := h.1; simp [A1d] at this; omega]
   (have zz:=trivial;repeat((first|clear zz|with_reducible first|refine A3 ?_|refine A5 fun _=>?_|refine A4 fun _=>?_);try simp(disch:=first|omega|assumption|((repeat(first|exact A1|exact uH|apply A2|apply uT));first|done|fail)|(simp;first|done|omega|fail))[hlt, h1, c1, c2, c3, c4]))
   exact B0 rfl
  (have zz:=trivial;repeat((first|clear zz|with_reducible first|refine A3 ?_|refine A5 fun _=>?_|refine A4 fun _=>?_);try simp(disch:=first|omega|assumption|((repeat(first|exact A1|exact uH|apply A2|apply uT));first|done|fail)|(simp;first|done|omega|fail))[hlt, h1, c1, c2, c3, c4]))
  refine C4 A5E (fun w' hw' => C2l w' _ l _ hn (hv.ks hw'.ks (by simp))) ?_
  by_cases c5 : Q9 l x.1 = (i : Nat)
  case neg =>
   rw [bad fun h => c5 h.2]
   (have zz:=trivial;repeat((first|clear zz|with_reducible first|refine A3 ?_|refine A5 fun _=>?_|refine A4 fun _=>?_);try simp(disch:=first|omega|assumption|((repeat(first|exact A1|exact uH|apply A2|apply uT));first|done|fail)|(simp;first|done|omega|fail))[c5]))
   exact B0 rfl
  ·(have zz:=trivial;repeat((first|clear zz|with_reducible first|refine A3 ?_|refine A5 fun _=>?_|refine A4 fun _=>?_);try simp(disch:=first|omega|assumption|((repeat(first|exact A1|exact uH|apply A2|apply uT));first|done|fail)|(simp;first|done|omega|fail))[c5]))
   refine Sels.tw .nil (hL hlt () ?_)
   intro j y hj hy
   by_cases hji : j = i
   ·subst hji
    rw [hx] at hy
    cases hy
    exact ⟨by simp [A1d]; omega, c5⟩
   ·exact hpre j y (by omega) hy
 ·obtain rfl : i = l.length := by omega
  have hok : m0 l = true := (B51 l).2 fun j x hx => hpre j x (List.getElem?_eq_some_iff.1 hx).1 hx
  have hv : L5 l = 0 := by simp [L5, hok]; omega
  rw [hv]
  (have zz:=trivial;repeat((first|clear zz|with_reducible first|refine A3 ?_|refine A5 fun _=>?_|refine A4 fun _=>?_);try simp(disch:=first|omega|assumption|((repeat(first|exact A1|exact uH|apply A2|apply uT));first|done|fail)|(simp;first|done|omega|fail))[]))
  exact B0 rfl
end Go.Proofs.YtjobgnabneddjaaGreat
namespace Go.Proofs.YtjobgnabneddjaaGreat
open Go
end Go.Proofs.YtjobgnabneddjaaGreat
namespace Go.Proofs.YtjobgnabneddjaaGreat
open Go
theorem N9.slice {κ : Bool} {S : List Nat} {w0 : World} {H : List Res} {v : Value} {n : Nat} {xs : List Value} {K0 : WP} (h : N9 κ S w0 H v n xs) (hK : ∀ a c, v = .slice a n c → TW κ S w0 H K0) : TW κ S w0 H K0 := fun w hw => by
 obtain ⟨a, c, e, _⟩ := (h w hw).form
 exact hK a c e w hw
end Go.Proofs.YtjobgnabneddjaaGreat
namespace Go.Proofs.YtjobgnabneddjaaGreat
open Go
theorem C4W {w : World} {v : Value} {n : Nat} {xs : List Value} (h : F9 w v n xs) (hn : 0 < n → 0 < xs.length) : 0 < n → ∀ g ∈ M2 v, g < sz w := fun h0 g hg => by
 obtain ⟨a, c, rfl, hr⟩ := h.form
 obtain ⟨b, o, rfl, hrow⟩ := hr h0
 simp only [M2, List.mem_cons, List.not_mem_nil, or_false] at hg
 subst hg
 have h1 := hrow 0 (hn h0)
 rw [List.getElem?_eq_getElem (hn h0)] at h1
 obtain ⟨c', t', z', h1, h2⟩ := n4 h1
 exact L0 h1
structure RdN (bad : List Nat) (w : World) (v : Value) (n : Nat) (xs : List Value) : Prop where
 rd : F9 w v n xs
 off : 0 < n → ∀ g ∈ M2 v, g ∉ bad
 nil : n = 0 → xs = []
theorem RdN.ks {κ : Bool} {S bad : List Nat} {w w' : World} {v : Value} {n : Nat} {xs : List Value} (h : RdN bad w v n xs) (hk : KS κ S w w') (hs : ∀ s ∈ S, s ∈ bad) : RdN bad w' v n xs :=
 ⟨h.rd.ks0 h.nil hk fun h0 g hg hgS => h.off h0 g hg (hs g hgS), h.off, h.nil⟩
theorem RdN.sub {bad bad' : List Nat} {w : World} {v : Value} {n : Nat} {xs : List Value} (h : RdN bad w v n xs) (hs : ∀ s ∈ bad', s ∈ bad) : RdN bad' w v n xs := ⟨h.rd, fun h0 g hg hb => h.off h0 g hg (hs g hb), h.nil⟩
theorem RdN.open {bad : List Nat} {w : World} {v : Value} {n : Nat} {xs : List Value} (h : RdN bad w v n xs) : ∃ a c, v = .slice a n c ∧ (0 < n → ∃ b o, a = some ⟨b, o, none⟩ ∧ N8 w b o xs ∧ b ∉ bad) := by
 obtain ⟨a, c, e, hr⟩ := h.rd.form
 refine ⟨a, c, e, fun h0 => ?_⟩
 obtain ⟨b, o, ea, hrow⟩ := hr h0
 refine ⟨b, o, ea, hrow, h.off h0 b ?_⟩
 rw [e, ea]; simp [M2]
end Go.Proofs.YtjobgnabneddjaaGreat
namespace Go.Proofs.YtjobgnabneddjaaGreat
open Go
section
variable {κ : Bool} {S : List Nat} {w0 w : World} {H Hk : List Res} {K : Value → WP}
theorem A8y {A B : List Res} : Part A (A ++ B) B := by
 induction A with
 | nil => exact Part.nil
 | cons r A ih => exact Part.cons Sel.here ih
theorem Part.skip {x : Res} {Hc : List Res} (h : Part Hc H Hk) : Part Hc (x :: H) (x :: Hk) := by
 induction h with
 | nil => exact Part.nil
 | cons h1 _ ih => exact Part.cons (Sel.there h1) ih
theorem C7l (s : MoS) (o : OpV) (now : Int) (h : o.kind = 0) : doV s o now = U6 s o.packet now := by unfold doV; rw [if_pos h]
theorem C8x (s : MoS) (o : OpV) (now : Int) (h : o.kind = 1) : doV s o now = B0l s o.pool := by unfold doV; rw [if_neg (by omega), if_pos h]
theorem B4P {m : MoH} : PoolAt w m (.slice none 0 0) [] := ⟨Or.inl ⟨rfl, rfl, none, 0, rfl⟩, fun h => by simp at h, by simp, rfl, rfl⟩
theorem C14 {m : MoH} {v : Value} {p : List E9} (hw : LW κ [] w0 (D7 m ++ Hk) w) (h : F9 w0 v p.length (p.flatMap H3)) (hl : p.length ≤ 1000) : PoolAt w m v p := by
 refine ⟨h.ks hw.ks (by simp), fun h0 g hg hf => ?_, hl, by obtain ⟨a, c, e, _⟩ := h.form; rw [e]; exact ⟨rfl, rfl⟩⟩
 have h1 := C4W h (by rw [L4 (k := 2) fun _ => rfl]; omega) h0 g hg
 obtain ⟨s, hs, hbs⟩ := M7.1 hf
 rcases (hw.own s (List.mem_append_left _ hs) g hbs).1 with h2 | h2
 ·cases h2
 ·omega
theorem C4d {m : MoH} {o : OpV} {v : Value} {now : Int} {c : CfgV} (r : MoS × AnsV) (hi : Inv c m.st) (hp : Part (D7 m) H Hk) (hpa : ∀ w, LW false S w0 (D7 m ++ Hk) w → PoolAt w m v o.pool) (hpk : o.packet.size < 2 ^ 40) (hr : doV m.st o now = r)
  (hK : ∀ m' : MoH, m'.b = m.b → m'.st = r.1 → Inv c m'.st → TW false S w0 (D7 m' ++ Hk) (K r.2.val)) : TW false S w0 H (B5 PR C0 60 [.pointer (some ⟨m.b, 0, none⟩), o.val v, .int .i64 now] K) := by
 subst hr
 refine D0 (Hc := D7 m) B0a (fun w' hw hs => D1Z w' m o v now (hpa w' hw) hpk hi.ok2 hs) hp ?_
 rintro m' _ ⟨rfl, hb, hst⟩
 exact hK m' hb hst (by rw [hst]; exact hi.do' o now)
theorem Inv.tabs {c : CfgV} {m : MoH} (hi : Inv c m.st) : ∀ t ∈ m.ts, TabOk c.cp.toNat t.1.2 := fun t ht => hi.tab (t.1.2, t.2) (List.mem_map.2 ⟨t, ht, rfl⟩)
theorem C73 {m : MoH} : N4 (m.ts.map (·.1)) ∈ D7 m := by simp [D7]
theorem C9T (hw : LW κ S w0 H w) {m : MoH} (hm : ∀ r ∈ D7 m, r ∈ H) : ∀ t ∈ m.ts, F9 w t.1.1 t.1.2.length (t.1.2.flatMap F6) := fun t ht =>
 Z7 hw (hm _ C73) (List.mem_map.2 ⟨t, ht, rfl⟩)
theorem D2N {m : MoH} : Res.pt m.b (.cells #[.int .i64 m.c.wk, .int .i64 m.c.sh, .int .i64 m.c.cp, .int .i64 m.c.idle, .int .i64 m.c.sl, m.pv, m.sv] 210) ∈ D7 m := A1
theorem D2B (hw : LW κ S w0 H w) {m : MoH} (hm : ∀ r ∈ D7 m, r ∈ H) : w.cell? ⟨m.b, 6, none⟩ = some m.sv := hw.cell (hm _ D2N) rfl
theorem D2M (hw : LW κ S w0 H w) {m : MoH} (hm : ∀ r ∈ D7 m, r ∈ H) : F9 w m.sv m.ts.length (m.ts.flatMap H6) := Q2.rd (hw.hold _ (hm _ (A2 (A2 A1))))
theorem C7A {m : MoH} {i : Int} {c : CfgV} (hi : Inv c m.st) (hp : Part (D7 m) H Hk) (hK : ∀ r, TW false S w0 (G7 r (A3b m.ts i) :: (D7 m ++ Hk)) (K r)) : TW false S w0 H (B5 PR C0 62 [.pointer (some ⟨m.b, 0, none⟩), .int .i64 i] K) := by
 have hb := A4L hi.ok
 have hsh := hi.sh
 have hl : m.st.tabs.length = m.ts.length := by simp [MoH.st]
 refine TW.perm ?_ hp.perm
 refine G4 A6w (fun w' hw' => C2q w' m.b m.sv m.ts i (by omega) (D2B hw' fun r hr => List.mem_append_left _ hr) (D2M hw' fun r hr => List.mem_append_left _ hr) (C9T hw' fun r hr => List.mem_append_left _ hr)
  fun t ht => by rw [(hi.tabs t ht).len]; omega) ?_
 intro r v hv
 subst hv
 exact hK _
theorem C6W {c : CfgV} (h0 : M1 c = false → TW false S w0 H (K (.tuple #[.pointer none, .int .i64 1])))
  (h1 : ∀ m : MoH, M1 c = true → m.st = ⟨c, [], A22 c⟩ → Inv c m.st → TW false S w0 (D7 m ++ H) (K (.tuple #[.pointer (some ⟨m.b, 0, none⟩), .int .i64 0]))) : TW false S w0 H (B5 PR C0 59 [c.val] K) := by
 refine G4 B6j (fun w' _ => C78 w' c) ?_
 rintro m u hm
 cases hc : M1 c with
 | false =>
  simp only [hc, Bool.false_eq_true, if_false] at hm ⊢
  subst hm
  exact h0 hc
 | true =>
  simp only [hc, if_true] at hm ⊢
  obtain ⟨rfl, hmc, hmp, hmt⟩ := hm
  have e : m.st = ⟨c, [], A22 c⟩ := by unfold MoH.st; rw [hmc, hmp, hmt]
  exact h1 m hc e (by rw [e]; exact Inv.new hc)
end
end Go.Proofs.YtjobgnabneddjaaGreat
namespace Go.Proofs.YtjobgnabneddjaaGreat
open Go
structure RmH where
 pv : Value
 tv : Value
 lv : Value
 c : CfgV
 pool : List E9
 ts : List (Value × List EnV)
 pl : List Nat
def RmH.cs (r : RmH) : Array Value := #[.int .i64 r.c.wk, .int .i64 r.c.sh, .int .i64 r.c.cp, .int .i64 r.c.idle, .int .i64 r.c.sl, r.pv, r.tv, r.lv]
def C2D (l : List Nat) : List Value := l.map fun n : Nat => .int .i64 (n : Int)
end Go.Proofs.YtjobgnabneddjaaGreat
namespace Go.Proofs.YtjobgnabneddjaaGreat
open Go
def RmH.val (r : RmH) : Value := .agg r.cs
def RmH.st (r : RmH) : MoS := ⟨r.c, r.pool, (r.ts.map (·.2)).zip r.pl⟩
section
variable (w : World) (r : RmH) (o : OpV) (v : Value) (now : Int)
end
end Go.Proofs.YtjobgnabneddjaaGreat
namespace Go.Proofs.YtjobgnabneddjaaGreat
open Go
theorem C0M (n : Nat) : (Builtin.zeroCells (Value.int .i64 0).cells n).toList = C2D (List.replicate n 0) := by
 have hz : (Builtin.zeroCells (Value.int .i64 0).cells n).toList.length = n := by simp [size_zeroCells]
 apply List.ext_getElem (by rw [hz]; simp [C2D])
 intro i h1 h2
 simp [Builtin.zeroCells, C2D, Nat.mod_one]
end Go.Proofs.YtjobgnabneddjaaGreat
namespace Go.Proofs.YtjobgnabneddjaaGreat
open Go
abbrev Y9 := SlV × Option Addr × Nat × Nat
def rsP (x : Y9) : Value := .slice x.2.1 x.2.2.1 x.2.2.2
def Z6 (x : Y9) : List Value := match x.1 with
 | .no => [.int .i64 0, .slice none 0 0]
 | .bld => [.int .i64 1, .slice none 0 0]
 | .rdy _ => [.int .i64 2, rsP x]
theorem y4 (x : Y9) : (Z6 x).length = 2 := by unfold Z6; split <;> rfl
def noR : Y9 := (.no, none, 0, 0)
def kpC (x : Int × Int) : List Value := [.int .i64 x.1, .int .i64 x.2]
structure XH where
 b : Nat
 piv : Value
 lov : Value
 slv : Value
 kev : Value
 tav : Value
 plv : Value
 c : CfgV
 ep : Int
 cur : Int
 pins : List Int
 locks : List Int
 sl : List Y9
 keep : List (Int × Int)
 ts : List (Value × List EnV)
 pl : List Nat
 now : Int
def q6 (c : CfgV) (ep cur : Int) (piv lov slv kev tav plv : Value) (now : Int) : Array Value := #[.int .i64 c.wk, .int .i64 c.sh, .int .i64 c.cp, .int .i64 c.idle, .int .i64 c.sl, .int .i64 ep, .int .i64 cur, piv, lov, slv, kev, tav, plv, .int .i64 now]
def k9 (b : Nat) (c : CfgV) (ep cur : Int) (piv lov slv kev tav plv : Value) (now : Int) : Res := .pt b (.cells (q6 c ep cur piv lov slv kev tav plv now) 106)
def W3 (x : XH) : List Res := [k9 x.b x.c x.ep x.cur x.piv x.lov x.slv x.kev x.tav x.plv x.now, .own 3 1 x.piv x.pins.length (G5 x.pins), .own 3 1 x.lov x.locks.length (G5 x.locks),
 .own 270 2 x.slv x.sl.length (x.sl.flatMap Z6), .own 277 2 x.kev x.keep.length (x.keep.flatMap kpC), .own 84 1 x.tav x.ts.length (x.ts.map (·.1)), .own 3 1 x.plv x.pl.length (A3l x.pl)]
theorem C6e {α : Type} (v : Value) (a b : Value) (x : α) (f : α → List Value) (hv : v.cells = #[a, b]) (hf : f x = [a, b]) (hl : ∀ y, (f y).length = 2) (n : Nat) : (Builtin.zeroCells v.cells n).toList = (List.replicate n x).flatMap f := by
 have h2 : v.cells.size = 2 := by rw [hv]; rfl
 have hz : (Builtin.zeroCells v.cells n).toList.length = n * 2 := by simp [size_zeroCells, h2]
 have hr : ((List.replicate n x).flatMap f).length = n * 2 := by rw [L4 (k := 2) hl]; simp
 apply List.ext_getElem (by rw [hz, hr])
 intro i h1 h3
 rw [hz] at h1
 have hg := P6 (f := f) (k := 2) hl (List.replicate n x) (i / 2) (i % 2) (by omega)
 rw [show i / 2 * 2 + i % 2 = i by omega, List.getElem?_eq_getElem h3, List.getElem?_replicate_of_lt (by omega)] at hg
 have e : (Builtin.zeroCells v.cells n).toList[i]'(by rw [hz]; exact h1) = v.cells[i % 2]! := by
  simp [Builtin.zeroCells, h2]
 rw [e, hv]
 have h4 : i % 2 = 0 ∨ i % 2 = 1 := by omega
 rcases h4 with h4 | h4 <;> (rw [h4] at hg ⊢; simp [hf] at hg ⊢; exact hg.symm)
theorem C79 (n : Nat) : (Builtin.zeroCells (Value.agg #[.int .i64 0, .slice none 0 0]).cells n).toList = (List.replicate n noR).flatMap Z6 := C6e _ _ _ noR Z6 rfl rfl y4 n
theorem C8L (n : Nat) : (Builtin.zeroCells (Value.agg #[.int .i64 0, .int .i64 0]).cells n).toList = (List.replicate n ((0, 0) : Int × Int)).flatMap kpC := C6e _ _ _ _ kpC rfl rfl (fun _ => rfl) n
theorem C4s (w : World) (n : Nat) (hn : n ≤ 8) : Fn PR C0 91 #[.int .i64 (n : Int)] w (Rn [] w (fun r u => u = r) fun r => [.own 270 2 r (List.replicate n noR).length ((List.replicate n noR).flatMap Z6)]) := by
 refine A67 (TW.go (κ := false) (S := []) ?_)
 unfold A1L
 have e : max 0 (min (n : Int) 8) = (n : Int) := by omega
 (have zz:=trivial;repeat((first|clear zz|with_reducible first|refine A3 ?_|refine A5 fun _=>?_|refine A4 fun _=>?_);try simp(disch:=first|omega|assumption|((repeat(first|exact A1|exact uH|apply A2|apply uT));first|done|fail)|(simp;first|done|omega|fail))[]))
 rw [e]
 refine u6 (by omega) (by omega) (by omega) (by omega) fun b => ?_
 rw [Int.toNat_natCast, C79]
 refine B1 _ rfl ?_
 simp only [List.length_replicate]
 (repeat' constructor)
theorem C4r (w : World) (n : Nat) (hn : n ≤ 8) : Fn PR C0 92 #[.int .i64 (n : Int)] w (Rn [] w (fun r u => u = r) fun r => [.own 277 2 r (List.replicate n ((0, 0) : Int × Int)).length ((List.replicate n ((0, 0) : Int × Int)).flatMap kpC)]) := by
 refine A7J (TW.go (κ := false) (S := []) ?_)
 unfold A05
 have e : max 0 (min (n : Int) 8) = (n : Int) := by omega
 (have zz:=trivial;repeat((first|clear zz|with_reducible first|refine A3 ?_|refine A5 fun _=>?_|refine A4 fun _=>?_);try simp(disch:=first|omega|assumption|((repeat(first|exact A1|exact uH|apply A2|apply uT));first|done|fail)|(simp;first|done|omega|fail))[]))
 rw [e]
 refine u6 (by omega) (by omega) (by omega) (by omega) fun b => ?_
 rw [Int.toNat_natCast, C8L]
 refine B1 _ rfl ?_
 simp only [List.length_replicate]
 (repeat' constructor)
theorem B7k (n : Nat) : (Builtin.zeroCells (Value.int .i64 0).cells n).toList = G5 (List.replicate n 0) := by
 rw [C0M]; simp [C2D, G5]
theorem B8K (n : Nat) : (Builtin.zeroCells (Value.int .i64 0).cells n).toList = A3l (List.replicate n 0) := C0M n
def C2C (b b1 bp bs wn n k sn : Nat) (idle : Int) (lov tav : Value) : List Res := [.pt b (.cells #[.int .i64 wn, .int .i64 n, .int .i64 k, .int .i64 idle, .int .i64 sn, .int .i64 0, .int .i64 0, .slice (some ⟨bp, 0, none⟩) (wn + 1) (wn + 1), lov, .slice none 0 0, .slice none 0 0, tav, .slice (some ⟨bs, 0, none⟩) n n, .int .i64 0] 106),
 .own 3 1 (.slice (some ⟨bp, 0, none⟩) (wn + 1) (wn + 1)) (wn + 1) (G5 (List.replicate (wn + 1) 0)), .own 3 1 (.slice (some ⟨bs, 0, none⟩) n n) n (A3l (List.replicate n 0)),
 .pt b1 (.cells #[.int .i64 wn, .int .i64 n, .int .i64 k, .int .i64 idle, .int .i64 sn] 23)]
set_option maxHeartbeats 1000000 in
theorem C51 (w : World) (c : CfgV) (hok : M1 c = true) : Fn PR C0 42 #[c.val] w (Rn [] w (fun (x : XH) u => u = .pointer (some ⟨x.b, 0, none⟩) ∧ x.c = c ∧ x.ep = 0 ∧ x.cur = 0 ∧ x.pins = List.replicate (c.wk.toNat + 1) 0 ∧ x.locks = List.replicate c.sh.toNat (-1) ∧ x.sl = List.replicate c.sl.toNat noR ∧ x.keep = List.replicate c.sl.toNat (0, 0) ∧ x.ts.map (·.2) = List.replicate c.sh.toNat (newE c.cp.toNat) ∧ x.pl = List.replicate c.sh.toNat 0 ∧ x.now = 0)
  fun x => N4 x.ts :: W3 x) := by
 refine A7D (TW.go (κ := false) (S := []) ?_)
 unfold A1P
 simp only [CfgV.val]
 obtain ⟨cwk, csh, ccp, cid, csl⟩ := c
 have hb : (1 ≤ cwk ∧ cwk ≤ 64) ∧ (1 ≤ csh ∧ csh ≤ 16) ∧ (1 ≤ ccp ∧ ccp ≤ 64) ∧ 0 ≤ csl ∧ csl ≤ 8 := by
  simp [M1, Y7] at hok; omega
 simp only
 obtain ⟨wn, rfl⟩ : ∃ n : Nat, cwk = n := ⟨cwk.toNat, by omega⟩
 obtain ⟨n, rfl⟩ : ∃ n : Nat, csh = n := ⟨csh.toNat, by omega⟩
 obtain ⟨k, rfl⟩ : ∃ n : Nat, ccp = n := ⟨ccp.toNat, by omega⟩
 obtain ⟨sn, rfl⟩ : ∃ n : Nat, csl = n := ⟨csl.toNat, by omega⟩
 have e1 : ((wn : Nat) : Int) + 1 = ((wn + 1 : Nat) : Int) := by omega
 (have zz:=trivial;repeat((first|clear zz|with_reducible first|refine A3 ?_|refine A5 fun _=>?_|refine A4 fun _=>?_);try simp(disch:=first|omega|assumption|((repeat(first|exact A1|exact uH|apply A2|apply uT));first|done|fail)|(simp;first|done|omega|fail))[]))
 rename_i b1
 refine C0b (α := Nat × Nat × Nat) (fun _ => True) (fun y => C2C y.1 b1 y.2.1 y.2.2 wn n k sn cid (.slice none 0 0) (.slice none 0 0)) (fun y => .pointer (some ⟨y.1, 0, none⟩)) ?_ ?_
 ·rintro ⟨bm, bp, bs⟩ _
  simp only [C2C]
  (have zz:=trivial;repeat((first|clear zz|with_reducible first|refine A3 ?_|refine A5 fun _=>?_|refine A4 fun _=>?_);try simp(disch:=first|omega|assumption|((repeat(first|exact A1|exact uH|apply A2|apply uT));first|done|fail)|(simp;first|done|omega|fail))[]))
  refine l3 3 1 ?_
  refine B2d ?_
  refine l3 84 1 ?_
  refine A7B n (fun i (y : (List (Value × List EnV) × Option Addr × Nat) × Option Addr × Nat) => [.own 84 1 (.slice y.1.2.1 i y.1.2.2) i (y.1.1.map (·.1)), N4 y.1.1, .own 3 1 (.slice y.2.1 i y.2.2) i (G5 (List.replicate i (-1))),
   .pt bm (.cells #[.int .i64 wn, .int .i64 n, .int .i64 k, .int .i64 cid, .int .i64 sn, .int .i64 0, .int .i64 0, .slice (some ⟨bp, 0, none⟩) (wn + 1) (wn + 1), .slice y.2.1 i y.2.2, .slice none 0 0, .slice none 0 0, .slice y.1.2.1 i y.1.2.2, .slice (some ⟨bs, 0, none⟩) n n, .int .i64 0] 106),
   .own 3 1 (.slice (some ⟨bp, 0, none⟩) (wn + 1) (wn + 1)) (wn + 1) (G5 (List.replicate (wn + 1) 0)), .own 3 1 (.slice (some ⟨bs, 0, none⟩) n n) n (A3l (List.replicate n 0)),
   .pt b1 (.cells #[.int .i64 wn, .int .i64 n, .int .i64 k, .int .i64 cid, .int .i64 sn] 23)]) (fun i y => y.1.1.length = i ∧ y.1.1.map (·.2) = List.replicate i (newE k)) (([], none, 0), none, 0) ⟨rfl, rfl⟩ ?_
  ·rintro i ⟨⟨ts, ya, yc⟩, la, lc⟩ hi ⟨hlen, hmap⟩ L hL
   simp only at hlen hmap ⊢
   obtain ⟨lz, hlz⟩ : ∃ z, z = G5 (List.replicate i (-1)) := ⟨_, rfl⟩
   rw [← hlz]
   by_cases hlt : i < n
   ·have hlt' : ((i : Nat) : Int) < (n : Nat) := by omega
    (have zz:=trivial;repeat((first|clear zz|with_reducible first|refine A3 ?_|refine A5 fun _=>?_|refine A4 fun _=>?_|refine E2 fun _=>?_|refine D9 (hK:=fun _=>?_)|refine E4 (hK:=fun _=>?_)|refine E1 (hK:=fun _=>?_)|refine E0 (hK:=fun _=>?_)|refine E3 (hK:=fun _=>?_));try simp(disch:=first|omega|assumption|((repeat(first|exact A1|exact uH|apply A2|apply uT));first|done|fail)|(simp;first|done|omega|fail))[hlt, hlt']))
    refine A1W (e := 3) (k := 1) (q := i) (r := 1) (xs := lz) (news := [.int .i64 (-1)]) (by (repeat constructor)) (N9.own (by (repeat constructor))) (by decide) (by simp) (by simp) (by simp only [maxLen]; omega) (by omega) fun a1 c1 => ?_
    (have zz:=trivial;repeat((first|clear zz|with_reducible first|refine A3 ?_|refine A5 fun _=>?_|refine A4 fun _=>?_);try simp(disch:=first|omega|assumption|((repeat(first|exact A1|exact uH|apply A2|apply uT));first|done|fail)|(simp;first|done|omega|fail))[]))
    refine G4 A6S (fun w' _ => C42 w' k (by omega)) ?_
    intro y u hu
    subst hu
    refine T8 (e := 218) (k := 4) (v := u) (q := (newE k).length) (xs := (newE k).flatMap F6) (by (repeat constructor)) fun ua uc hu => ?_
    subst hu
    (have zz:=trivial;repeat((first|clear zz|with_reducible first|refine A3 ?_|refine A5 fun _=>?_|refine A4 fun _=>?_|refine E2 fun _=>?_|refine D9 (hK:=fun _=>?_)|refine E4 (hK:=fun _=>?_)|refine E1 (hK:=fun _=>?_)|refine E0 (hK:=fun _=>?_)|refine E3 (hK:=fun _=>?_));try simp(disch:=first|omega|assumption|((repeat(first|exact A1|exact uH|apply A2|apply uT));first|done|fail)|(simp;first|done|omega|fail))[]))
    refine A1W (e := 84) (k := 1) (q := i) (r := 1) (xs := ts.map (·.1)) (news := [.slice ua (newE k).length uc]) (by (repeat constructor)) (N9.own (by (repeat constructor))) (by decide) rfl (by simp) (by simp only [maxLen]; omega) (by omega) fun a' c' => ?_
    (have zz:=trivial;repeat((first|clear zz|with_reducible first|refine A3 ?_|refine A5 fun _=>?_|refine A4 fun _=>?_);try simp(disch:=first|omega|assumption|((repeat(first|exact A1|exact uH|apply A2|apply uT));first|done|fail)|(simp;first|done|omega|fail))[]))
    refine Y8 (r := .slice ua (newE k).length uc) (l := newE k) (ts := ts) (by (repeat' constructor)) ?_
    have h := hL hlt ((ts ++ [(.slice ua (newE k).length uc, newE k)], a', c'), a1, c1) ⟨by simp [hlen], by rw [List.map_append, hmap, List.replicate_succ']; rfl⟩
    have hz : lz ++ [Value.int .i64 (-1)] = G5 (List.replicate (i + 1) (-1)) := by rw [hlz, List.replicate_succ']; simp [G5]
    simp only [List.map_append, List.map_cons, List.map_nil] at h
    rw [← hz] at h
    exact Sels.tw (by (repeat' constructor)) h
   ·obtain rfl : i = n := by omega
    (have zz:=trivial;repeat((first|clear zz|with_reducible first|refine A3 ?_|refine A5 fun _=>?_|refine A4 fun _=>?_);try simp(disch:=first|omega|assumption|((repeat(first|exact A1|exact uH|apply A2|apply uT));first|done|fail)|(simp;first|done|omega|fail))[Int.lt_irrefl]))
    refine G4 A6Z (fun w' _ => C4s w' sn (by omega)) ?_
    rintro _ slv rfl
    refine T8 (e := 270) (k := 2) (v := slv) (q := (List.replicate sn noR).length) (xs := (List.replicate sn noR).flatMap Z6) (by (repeat constructor)) fun sa sc hu => ?_
    subst hu
    (have zz:=trivial;repeat((first|clear zz|with_reducible first|refine A3 ?_|refine A5 fun _=>?_|refine A4 fun _=>?_);try simp(disch:=first|omega|assumption|((repeat(first|exact A1|exact uH|apply A2|apply uT));first|done|fail)|(simp;first|done|omega|fail))[]))
    refine G4 A6F (fun w' _ => C4r w' sn (by omega)) ?_
    rintro _ kev rfl
    refine T8 (e := 277) (k := 2) (v := kev) (q := (List.replicate sn ((0, 0) : Int × Int)).length) (xs := (List.replicate sn ((0, 0) : Int × Int)).flatMap kpC) (by (repeat constructor)) fun ka kc hu => ?_
    subst hu
    (have zz:=trivial;repeat((first|clear zz|with_reducible first|refine A3 ?_|refine A5 fun _=>?_|refine A4 fun _=>?_);try simp(disch:=first|omega|assumption|((repeat(first|exact A1|exact uH|apply A2|apply uT));first|done|fail)|(simp;first|done|omega|fail))[]))
    refine B1 ⟨bm, .slice (some ⟨bp, 0, none⟩) (wn + 1) (wn + 1), .slice la i lc, .slice sa (List.replicate sn noR).length sc, .slice ka (List.replicate sn ((0, 0) : Int × Int)).length kc, .slice ya i yc, .slice (some ⟨bs, 0, none⟩) i i, ⟨wn, i, k, cid, sn⟩, 0, 0, List.replicate (wn + 1) 0, List.replicate i (-1), List.replicate sn noR, List.replicate sn (0, 0), ts, List.replicate i 0, 0⟩ ⟨rfl, rfl, rfl, rfl, rfl, rfl, rfl, rfl, hmap, rfl, rfl⟩ ?_
    simp only [W3, k9, q6, hlen, List.length_replicate, ← hlz]
    (repeat' constructor)
 ·intro J hJ
  have e2 : Int.toNat ((wn : Nat) + 1 : Int) = wn + 1 := by omega
  (have zz:=trivial;repeat((first|clear zz|with_reducible first|refine A3 ?_|refine A5 fun _=>?_|refine A4 fun _=>?_);try simp(disch:=first|omega|assumption|((repeat(first|exact A1|exact uH|apply A2|apply uT));first|done|fail)|(simp;first|done|omega|fail))[]))
  refine ⟨?_, ?_, fun _ _ => trivial⟩
  ·refine u6 (by omega) (by omega) (by omega) (by omega) fun bp => ?_
   rw [e2, B7k]
   (have zz:=trivial;repeat((first|clear zz|with_reducible first|refine A3 ?_|refine A5 fun _=>?_|refine A4 fun _=>?_);try simp(disch:=first|omega|assumption|((repeat(first|exact A1|exact uH|apply A2|apply uT));first|done|fail)|(simp;first|done|omega|fail))[]))
   rw [x7 (by (repeat constructor)) (by rfl)]
   refine u6 (by omega) (by omega) (by omega) (by omega) fun bs => ?_
   rw [Int.toNat_natCast, B8K, x7 (by (repeat constructor)) (by rfl)]
   (have zz:=trivial;repeat((first|clear zz|with_reducible first|refine A3 ?_|refine A5 fun _=>?_|refine A4 fun _=>?_);try simp(disch:=first|omega|assumption|((repeat(first|exact A1|exact uH|apply A2|apply uT));first|done|fail)|(simp;first|done|omega|fail))[]))
   rename_i bm
   exact Sels.tw (by simp only [C2C]; (repeat' constructor)) (hJ (bm, bp, bs) trivial)
  ·refine u6 (by omega) (by omega) (by omega) (by omega) fun bs => ?_
   rw [Int.toNat_natCast, B8K]
   (have zz:=trivial;repeat((first|clear zz|with_reducible first|refine A3 ?_|refine A5 fun _=>?_|refine A4 fun _=>?_);try simp(disch:=first|omega|assumption|((repeat(first|exact A1|exact uH|apply A2|apply uT));first|done|fail)|(simp;first|done|omega|fail))[]))
   rw [x7 (by (repeat constructor)) (by rfl)]
   rw [d9 (by omega) (by omega)]
   refine u6 (by omega) (by omega) (by omega) (by omega) fun bp => ?_
   rw [e2, B7k, x7 (by (repeat constructor)) (by rfl)]
   (have zz:=trivial;repeat((first|clear zz|with_reducible first|refine A3 ?_|refine A5 fun _=>?_|refine A4 fun _=>?_);try simp(disch:=first|omega|assumption|((repeat(first|exact A1|exact uH|apply A2|apply uT));first|done|fail)|(simp;first|done|omega|fail))[]))
   rename_i bm
   exact Sels.tw (by simp only [C2C]; (repeat' constructor)) (hJ (bm, bp, bs) trivial)
end Go.Proofs.YtjobgnabneddjaaGreat
namespace Go.Proofs.YtjobgnabneddjaaGreat
open Go
abbrev rsV (l : List Y9) : List SlV := l.map (·.1)
def v6 (n : Nat) (i : Int) : Bool := decide (0 ≤ i) && decide (i < n)
def A4J (l : List Y9) (i : Int) (x : Y9) : List Y9 := if 0 ≤ i ∧ i < l.length then l.set i.toNat x else l
theorem A51 (l : List Y9) (i : Int) (x : Y9) : (A4J l i x).length = l.length := by unfold A4J; split <;> simp
def rsA (x : Y9) : Value := match x.1 with
 | .no => .agg #[.int .i64 0, .slice none 0 0]
 | .bld => .agg #[.int .i64 1, .slice none 0 0]
 | .rdy _ => .agg #[.int .i64 2, rsP x]
theorem B4s (w : World) (a : Option Addr) (n c : Nat) (i : Int) : Fn PR C0 151 #[.slice a n c, .int .i64 i] w (fun u w' => u = .bool (v6 n i) ∧ D2 [] w w') := by
 refine Fn.pure (A8C (TW.go (κ := false) (S := []) ?_))
 unfold A1k
 by_cases c1 : 0 ≤ i
 ·(have zz:=trivial;repeat((first|clear zz|with_reducible first|refine A3 ?_|refine A5 fun _=>?_|refine A4 fun _=>?_);try simp(disch:=first|omega|assumption|((repeat(first|exact A1|exact uH|apply A2|apply uT));first|done|fail)|(simp;first|done|omega|fail))[c1]))
  exact B0 (by simp [v6, c1])
 ·(have zz:=trivial;repeat((first|clear zz|with_reducible first|refine A3 ?_|refine A5 fun _=>?_|refine A4 fun _=>?_);try simp(disch:=first|omega|assumption|((repeat(first|exact A1|exact uH|apply A2|apply uT));first|done|fail)|(simp;first|done|omega|fail))[c1]))
  exact B0 (by simp [v6, c1])
theorem C5z (l : List Y9) : (l.flatMap Z6).all plain = true := by
 rw [List.all_flatMap, List.all_eq_true]
 rintro ⟨y1, y2⟩ hy
 cases y1 <;> rfl
theorem B0Y (w : World) (v : Value) (l : List Y9) (i : Nat) (x : Y9) (hn : l.length ≤ 8) (hi : i < l.length) (hv : F9 w v l.length (l.flatMap Z6)) :
  Fn PR C0 152 #[v, .int .i64 (i : Nat), rsA x] w (Rn [] w (fun r u => u = r) fun r => [.own 270 2 r (l.set i x).length ((l.set i x).flatMap Z6)]) := by
 refine A6M (TW.go (κ := false) (S := []) ?_)
 unfold A0a
 obtain ⟨a, c, rfl, _⟩ := hv.form
 obtain ⟨s, pa, pn, pc, hs⟩ : ∃ s a n c, rsA x = .agg #[.int .i64 s, .slice a n c] ∧ Z6 x = [.int .i64 s, .slice a n c] := by
  obtain ⟨x1, x2⟩ := x
  cases x1
  ·exact ⟨0, _, _, _, rfl, rfl⟩
  ·exact ⟨1, _, _, _, rfl, rfl⟩
  ·exact ⟨2, _, _, _, rfl, rfl⟩
 rw [hs.1]
 (have zz:=trivial;repeat((first|clear zz|with_reducible first|refine A3 ?_|refine A5 fun _=>?_|refine A4 fun _=>?_|refine E2 fun _=>?_|refine D9 (hK:=fun _=>?_)|refine E4 (hK:=fun _=>?_)|refine E1 (hK:=fun _=>?_)|refine E0 (hK:=fun _=>?_)|refine E3 (hK:=fun _=>?_));try simp(disch:=first|omega|assumption|((repeat(first|exact A1|exact uH|apply A2|apply uT));first|done|fail)|(simp;first|done|omega|fail))[]))
 refine A1W (e := 270) (k := 2) (q := 0) (r := l.length) (xs := []) (news := l.flatMap Z6) (by (repeat constructor)) (fun w' hw' => hv.ks hw'.ks (by simp)) (by decide) (L4 y4 l) (C5z l) (by simp only [maxLen]; omega) (by omega) fun a' c' => ?_
 rw [List.nil_append, Nat.zero_add]
 refine g4 (e := 270) (k := 2) (v := .slice a' l.length c') (q := l.length) (xs := l.flatMap Z6) (by (repeat constructor)) (by omega) fun g gc hg => ?_
 cases hg
 (have zz:=trivial;repeat((first|clear zz|with_reducible first|refine A3 ?_|refine A5 fun _=>?_|refine A4 fun _=>?_);try simp(disch:=first|omega|assumption|((repeat(first|exact A1|exact uH|apply A2|apply uT));first|done|fail)|(simp;first|done|omega|fail))[hi]))
 refine N3 (by (repeat constructor)) (by simp) (by rw [L4 y4]; show i * 2 + 2 ≤ _; omega) (by simp) ?_
 refine B1 _ rfl ?_
 have := A1J (f := Z6) (k := 2) y4 l i x hi
 rw [List.length_set, ← this, hs.2]
 (repeat' constructor)
theorem Y9.cell {w : World} {a : Option Addr} {c : Nat} {l : List Y9} (hv : F9 w (.slice a l.length c) l.length (l.flatMap Z6)) {i : Nat} (hi : i < l.length) : ∃ b o, a = some ⟨b, o, none⟩ ∧ w.cell? ⟨b, o + i * 2, none⟩ = (Z6 l[i])[0]? ∧ w.cell? ⟨b, o + i * 2 + 1, none⟩ = (Z6 l[i])[1]? := by
 rcases hv with ⟨h0, _⟩ | ⟨b, o, c', e, hr⟩
 ·omega
 cases e
 have h0 := P6 y4 l i 0 (by omega)
 have h1 := P6 y4 l i 1 (by omega)
 rw [List.getElem?_eq_getElem hi] at h0 h1
 have hc := y4 l[i]
 simp only [Option.bind_some] at h0 h1
 refine ⟨b, o, rfl, ?_, ?_⟩
 ·obtain ⟨v, hv⟩ : ∃ v, (Z6 l[i])[0]? = some v := ⟨_, List.getElem?_eq_getElem (show _ < (Z6 l[i]).length by rw [y4]; omega)⟩
  rw [hv] at h0 ⊢
  exact hr.get h0
 ·obtain ⟨v, hv⟩ : ∃ v, (Z6 l[i])[1]? = some v := ⟨_, List.getElem?_eq_getElem (show _ < (Z6 l[i]).length by rw [y4]; omega)⟩
  rw [hv] at h1 ⊢
  have := hr.get h1
  rwa [← Nat.add_assoc] at this
def U2 (l : List Y9) (i : Int) : List Y9 := A4J l i (.bld, none, 0, 0)
def r9 (l : List Y9) (i : Int) : List Y9 := A4J l i noR
def B5b (l : List Y9) (i : Int) : Bool := match K8 (rsV l) i with | .bld => true | _ => false
def flR (l : List Y9) (i : Int) (p : List E9) : Bool := B5b l i && decide (L5 p = 0)
def A0n (l : List Y9) (i : Int) (p : List E9) (x : Option Addr × Nat × Nat) : List Y9 := if flR l i p then A4J l i (.rdy p, x) else l
theorem C8p {l : List Y9} {k : Nat} (h : k < l.length) : K8 (rsV l) (k : Nat) = l[k].1 := by
 unfold K8 rsV
 rw [if_pos (by simp only [List.length_map]; omega), Int.toNat_natCast, List.getD_eq_getElem?_getD, List.getElem?_map, List.getElem?_eq_getElem h]; rfl
theorem C2E (w : World) (v : Value) (l : List Y9) (i : Int) (hn : l.length ≤ 8) (hv : F9 w v l.length (l.flatMap Z6)) :
  Fn PR C0 96 #[v, .int .i64 i] w (Rn [] w (fun r u => u = .tuple #[if v6 l.length i then r else v, .bool (v6 l.length i)]) fun r => if v6 l.length i then [.own 270 2 r (U2 l i).length ((U2 l i).flatMap Z6)] else []) := by
 refine A5Q (TW.go (κ := false) (S := []) ?_)
 unfold A0H
 obtain ⟨a, c, rfl, _⟩ := hv.form
 (have zz:=trivial;repeat((first|clear zz|with_reducible first|refine A3 ?_|refine A5 fun _=>?_|refine A4 fun _=>?_);try simp(disch:=first|omega|assumption|((repeat(first|exact A1|exact uH|apply A2|apply uT));first|done|fail)|(simp;first|done|omega|fail))[]))
 refine C4 m4 (fun w' _ => B4s w' a l.length c i) ?_
 cases hi : v6 l.length i with
 | false =>
  (have zz:=trivial;repeat((first|clear zz|with_reducible first|refine A3 ?_|refine A5 fun _=>?_|refine A4 fun _=>?_);try simp(disch:=first|omega|assumption|((repeat(first|exact A1|exact uH|apply A2|apply uT));first|done|fail)|(simp;first|done|omega|fail))[]))
  exact B1 (.slice a l.length c) (by simp) Sels.nil
 | true =>
  obtain ⟨k, rfl⟩ : ∃ k : Nat, i = k := ⟨i.toNat, by simp [v6] at hi; omega⟩
  have hk : k < l.length := by simp [v6] at hi; exact hi
  have e : U2 l k = l.set k (.bld, none, 0, 0) := by unfold U2 A4J; rw [if_pos (by omega)]; rfl
  rw [e]
  (have zz:=trivial;repeat((first|clear zz|with_reducible first|refine A3 ?_|refine A5 fun _=>?_|refine A4 fun _=>?_);try simp(disch:=first|omega|assumption|((repeat(first|exact A1|exact uH|apply A2|apply uT));first|done|fail)|(simp;first|done|omega|fail))[]))
  refine G4 b9 (fun w' hw' => B0Y w' _ l k (.bld, none, 0, 0) hn hk (hv.ks hw'.ks (by simp))) ?_
  rintro _ r rfl
  (have zz:=trivial;repeat((first|clear zz|with_reducible first|refine A3 ?_|refine A5 fun _=>?_|refine A4 fun _=>?_);try simp(disch:=first|omega|assumption|((repeat(first|exact A1|exact uH|apply A2|apply uT));first|done|fail)|(simp;first|done|omega|fail))[]))
  exact B1 r (by simp) (Sels.cons Sel.here Sels.nil)
theorem C0g (w : World) (v : Value) (l : List Y9) (i : Int) (hn : l.length ≤ 8) (hv : F9 w v l.length (l.flatMap Z6)) :
  Fn PR C0 99 #[v, .int .i64 i] w (Rn [] w (fun r u => u = .tuple #[if v6 l.length i then r else v, .bool (v6 l.length i)]) fun r => if v6 l.length i then [.own 270 2 r (r9 l i).length ((r9 l i).flatMap Z6)] else []) := by
 refine A5F (TW.go (κ := false) (S := []) ?_)
 unfold A0M
 obtain ⟨a, c, rfl, _⟩ := hv.form
 (have zz:=trivial;repeat((first|clear zz|with_reducible first|refine A3 ?_|refine A5 fun _=>?_|refine A4 fun _=>?_);try simp(disch:=first|omega|assumption|((repeat(first|exact A1|exact uH|apply A2|apply uT));first|done|fail)|(simp;first|done|omega|fail))[]))
 refine C4 m4 (fun w' _ => B4s w' a l.length c i) ?_
 cases hi : v6 l.length i with
 | false =>
  (have zz:=trivial;repeat((first|clear zz|with_reducible first|refine A3 ?_|refine A5 fun _=>?_|refine A4 fun _=>?_);try simp(disch:=first|omega|assumption|((repeat(first|exact A1|exact uH|apply A2|apply uT));first|done|fail)|(simp;first|done|omega|fail))[]))
  exact B1 (.slice a l.length c) (by simp) Sels.nil
 | true =>
  obtain ⟨k, rfl⟩ : ∃ k : Nat, i = k := ⟨i.toNat, by simp [v6] at hi; omega⟩
  have hk : k < l.length := by simp [v6] at hi; exact hi
  have e : r9 l k = l.set k noR := by unfold r9 A4J; rw [if_pos (by omega)]; rfl
  rw [e]
  (have zz:=trivial;repeat((first|clear zz|with_reducible first|refine A3 ?_|refine A5 fun _=>?_|refine A4 fun _=>?_);try simp(disch:=first|omega|assumption|((repeat(first|exact A1|exact uH|apply A2|apply uT));first|done|fail)|(simp;first|done|omega|fail))[]))
  refine G4 b9 (fun w' hw' => B0Y w' _ l k noR hn hk (hv.ks hw'.ks (by simp))) ?_
  rintro _ r rfl
  (have zz:=trivial;repeat((first|clear zz|with_reducible first|refine A3 ?_|refine A5 fun _=>?_|refine A4 fun _=>?_);try simp(disch:=first|omega|assumption|((repeat(first|exact A1|exact uH|apply A2|apply uT));first|done|fail)|(simp;first|done|omega|fail))[]))
  exact B1 r (by simp) (Sels.cons Sel.here Sels.nil)
theorem C2z (w : World) (v : Value) (l : List Y9) (i : Int) (p : List E9) (pa : Option Addr) (pc : Nat) (hn : l.length ≤ 8) (hp : p.length ≤ 1000000) (hv : F9 w v l.length (l.flatMap Z6)) (hpv : F9 w (.slice pa p.length pc) p.length (p.flatMap H3)) :
  Fn PR C0 97 #[v, .int .i64 i, .slice pa p.length pc] w (Rn [] w (fun r u => u = .tuple #[if flR l i p then r else v, .bool (flR l i p)]) fun r => if flR l i p then [.own 270 2 r (A0n l i p (pa, p.length, pc)).length ((A0n l i p (pa, p.length, pc)).flatMap Z6)] else []) := by
 refine A6p (TW.go (κ := false) (S := []) ?_)
 unfold A0Y
 obtain ⟨a, c, rfl, _⟩ := hv.form
 (have zz:=trivial;repeat((first|clear zz|with_reducible first|refine A3 ?_|refine A5 fun _=>?_|refine A4 fun _=>?_);try simp(disch:=first|omega|assumption|((repeat(first|exact A1|exact uH|apply A2|apply uT));first|done|fail)|(simp;first|done|omega|fail))[]))
 refine C4 m4 (fun w' _ => B4s w' a l.length c i) ?_
 cases hi : v6 l.length i with
 | false =>
  have hb : flR l i p = false := by unfold flR B5b K8; rw [if_neg (by simp [v6] at hi; simp; omega)]; rfl
  rw [hb]
  (have zz:=trivial;repeat((first|clear zz|with_reducible first|refine A3 ?_|refine A5 fun _=>?_|refine A4 fun _=>?_);try simp(disch:=first|omega|assumption|((repeat(first|exact A1|exact uH|apply A2|apply uT));first|done|fail)|(simp;first|done|omega|fail))[]))
  exact B1 (.slice a l.length c) rfl Sels.nil
 | true =>
  obtain ⟨k, rfl⟩ : ∃ k : Nat, i = k := ⟨i.toNat, by simp [v6] at hi; omega⟩
  have hk : k < l.length := by simp [v6] at hi; exact hi
  have hk' : ¬ l.length ≤ k := by omega
  obtain ⟨b, o, rfl, h0, _⟩ := Y9.cell hv hk
  have hgs := C8p hk
  obtain ⟨⟨x1, x2⟩, hlk⟩ : ∃ x, x = l[k] := ⟨_, rfl⟩
  rw [← hlk] at h0 hgs
  cases x1 with
  | no =>
   have hb : flR l k p = false := by unfold flR B5b; rw [hgs]; rfl
   have h0' : w.cell? ⟨b, o + k * 2, none⟩ = some (.int .i64 0) := h0
   rw [hb]
   (have zz:=trivial;repeat((first|clear zz|with_reducible first|refine A3 ?_|refine A5 fun _=>?_|refine A4 fun _=>?_);try simp(disch:=first|omega|assumption|((repeat(first|exact A1|exact uH|apply A2|apply uT));first|done|fail)|(simp;first|done|omega|fail))[h0', hk, hk']))
   exact B1 (.slice none 0 0) rfl Sels.nil
  | rdy q =>
   have hb : flR l k p = false := by unfold flR B5b; rw [hgs]; rfl
   have h0' : w.cell? ⟨b, o + k * 2, none⟩ = some (.int .i64 2) := h0
   rw [hb]
   (have zz:=trivial;repeat((first|clear zz|with_reducible first|refine A3 ?_|refine A5 fun _=>?_|refine A4 fun _=>?_);try simp(disch:=first|omega|assumption|((repeat(first|exact A1|exact uH|apply A2|apply uT));first|done|fail)|(simp;first|done|omega|fail))[h0', hk, hk']))
   exact B1 (.slice none 0 0) rfl Sels.nil
  | bld =>
   have h0' : w.cell? ⟨b, o + k * 2, none⟩ = some (.int .i64 1) := h0
   (have zz:=trivial;repeat((first|clear zz|with_reducible first|refine A3 ?_|refine A5 fun _=>?_|refine A4 fun _=>?_);try simp(disch:=first|omega|assumption|((repeat(first|exact A1|exact uH|apply A2|apply uT));first|done|fail)|(simp;first|done|omega|fail))[h0', hk, hk']))
   refine C4 A41 (fun w' hw' => C2x w' _ p hp (hpv.ks hw'.ks (by simp))) ?_
   by_cases hc : L5 p = 0
   ·have hb : flR l k p = true := by unfold flR B5b; rw [hgs, decide_eq_true hc]; rfl
    have e : A0n l k p (pa, p.length, pc) = l.set k (.rdy p, pa, p.length, pc) := by unfold A0n A4J; rw [hb, if_pos rfl, if_pos (by omega)]; rfl
    rw [hb, e, hc]
    (have zz:=trivial;repeat((first|clear zz|with_reducible first|refine A3 ?_|refine A5 fun _=>?_|refine A4 fun _=>?_);try simp(disch:=first|omega|assumption|((repeat(first|exact A1|exact uH|apply A2|apply uT));first|done|fail)|(simp;first|done|omega|fail))[]))
    refine G4 b9 (fun w' hw' => B0Y w' _ l k (.rdy p, pa, p.length, pc) hn hk (hv.ks hw'.ks (by simp))) ?_
    rintro _ r rfl
    (have zz:=trivial;repeat((first|clear zz|with_reducible first|refine A3 ?_|refine A5 fun _=>?_|refine A4 fun _=>?_);try simp(disch:=first|omega|assumption|((repeat(first|exact A1|exact uH|apply A2|apply uT));first|done|fail)|(simp;first|done|omega|fail))[]))
    exact B1 r rfl (Sels.cons Sel.here Sels.nil)
   ·have hb : flR l k p = false := by unfold flR B5b; rw [hgs, decide_eq_false hc]; rfl
    rw [hb]
    (have zz:=trivial;repeat((first|clear zz|with_reducible first|refine A3 ?_|refine A5 fun _=>?_|refine A4 fun _=>?_);try simp(disch:=first|omega|assumption|((repeat(first|exact A1|exact uH|apply A2|apply uT));first|done|fail)|(simp;first|done|omega|fail))[hc]))
    exact B1 (.slice none 0 0) rfl Sels.nil
end Go.Proofs.YtjobgnabneddjaaGreat
namespace Go.Proofs.YtjobgnabneddjaaGreat
open Go
def U7 (now d : Int) : Int := if 0 ≤ d ∧ d ≤ 1000000 ∧ now + d ≤ 1000000000 then now + d else now
theorem B81 {now d : Int} (h : 0 ≤ now ∧ now ≤ 1000000000) : 0 ≤ U7 now d ∧ U7 now d ≤ 1000000000 := by unfold U7; split <;> omega
theorem C5A (w : World) (b : Nat) (c : CfgV) (pc ps pk tv pv : Value) (now d : Int) (hn : 0 ≤ now ∧ now ≤ 1000000000) (hw : LW false [b] w [D8 b c pc ps pk tv pv (.int .i64 now)] w) :
  Fn PR C0 100 #[.pointer (some ⟨b, 0, none⟩), .int .i64 d] w (Rn [b] w (fun (_ : Unit) u => u = .tuple #[]) fun _ => [D8 b c pc ps pk tv pv (.int .i64 (U7 now d))]) := by
 refine A9w (TW.goH (κ := false) (S := [b]) ?_ hw)
 unfold A19
 simp only [D8, E5]
 by_cases c1 : 0 ≤ d
 case neg =>
  (have zz:=trivial;repeat((first|clear zz|with_reducible first|refine A3 ?_|refine A5 fun _=>?_|refine A4 fun _=>?_);try simp(disch:=first|omega|assumption|((repeat(first|exact A1|exact uH|apply A2|apply uT));first|done|fail)|(simp;first|done|omega|fail))[c1]))
  refine B1 () rfl ?_
  simp only [U7, if_neg (show ¬ (0 ≤ d ∧ d ≤ 1000000 ∧ now + d ≤ 1000000000) by omega)]
  (repeat' constructor)
 by_cases c2 : d ≤ 1000000
 case neg =>
  have c2' : 1000000 < d := by omega
  (have zz:=trivial;repeat((first|clear zz|with_reducible first|refine A3 ?_|refine A5 fun _=>?_|refine A4 fun _=>?_);try simp(disch:=first|omega|assumption|((repeat(first|exact A1|exact uH|apply A2|apply uT));first|done|fail)|(simp;first|done|omega|fail))[c1, c2, c2']))
  refine B1 () rfl ?_
  simp only [U7, if_neg (show ¬ (0 ≤ d ∧ d ≤ 1000000 ∧ now + d ≤ 1000000000) by omega)]
  (repeat' constructor)
 have c2' : ¬ 1000000 < d := by omega
 by_cases c3 : now ≤ 1000000000 - d
 case neg =>
  (have zz:=trivial;repeat((first|clear zz|with_reducible first|refine A3 ?_|refine A5 fun _=>?_|refine A4 fun _=>?_);try simp(disch:=first|omega|assumption|((repeat(first|exact A1|exact uH|apply A2|apply uT));first|done|fail)|(simp;first|done|omega|fail))[c1, c2, c2', c3]))
  refine B1 () rfl ?_
  simp only [U7, if_neg (show ¬ (0 ≤ d ∧ d ≤ 1000000 ∧ now + d ≤ 1000000000) by omega)]
  (repeat' constructor)
 ·(have zz:=trivial;repeat((first|clear zz|with_reducible first|refine A3 ?_|refine A5 fun _=>?_|refine A4 fun _=>?_);try simp(disch:=first|omega|assumption|((repeat(first|exact A1|exact uH|apply A2|apply uT));first|done|fail)|(simp;first|done|omega|fail))[c1, c2, c2', c3]))
  refine B1 () rfl ?_
  simp only [U7, if_pos (show (0 ≤ d ∧ d ≤ 1000000 ∧ now + d ≤ 1000000000) by omega)]
  (repeat' constructor)
theorem C2P (w : World) (b : Nat) (c : CfgV) (ep cur : Int) (piv lov slv kev tav plv : Value) (now d : Int) (hn : 0 ≤ now ∧ now ≤ 1000000000) (hw : LW false [b] w [k9 b c ep cur piv lov slv kev tav plv now] w) :
  Fn PR C0 101 #[.pointer (some ⟨b, 0, none⟩), .int .i64 d] w (Rn [b] w (fun (_ : Unit) u => u = .tuple #[]) fun _ => [k9 b c ep cur piv lov slv kev tav plv (U7 now d)]) := by
 refine A2n (TW.goH (κ := false) (S := [b]) ?_ hw)
 unfold l8
 simp only [k9, q6]
 by_cases c1 : 0 ≤ d
 case neg =>
  (have zz:=trivial;repeat((first|clear zz|with_reducible first|refine A3 ?_|refine A5 fun _=>?_|refine A4 fun _=>?_);try simp(disch:=first|omega|assumption|((repeat(first|exact A1|exact uH|apply A2|apply uT));first|done|fail)|(simp;first|done|omega|fail))[c1]))
  refine B1 () rfl ?_
  simp only [U7, if_neg (show ¬ (0 ≤ d ∧ d ≤ 1000000 ∧ now + d ≤ 1000000000) by omega)]
  (repeat' constructor)
 by_cases c2 : d ≤ 1000000
 case neg =>
  have c2' : 1000000 < d := by omega
  (have zz:=trivial;repeat((first|clear zz|with_reducible first|refine A3 ?_|refine A5 fun _=>?_|refine A4 fun _=>?_);try simp(disch:=first|omega|assumption|((repeat(first|exact A1|exact uH|apply A2|apply uT));first|done|fail)|(simp;first|done|omega|fail))[c1, c2, c2']))
  refine B1 () rfl ?_
  simp only [U7, if_neg (show ¬ (0 ≤ d ∧ d ≤ 1000000 ∧ now + d ≤ 1000000000) by omega)]
  (repeat' constructor)
 have c2' : ¬ 1000000 < d := by omega
 by_cases c3 : now + d ≤ 1000000000
 case neg =>
  (have zz:=trivial;repeat((first|clear zz|with_reducible first|refine A3 ?_|refine A5 fun _=>?_|refine A4 fun _=>?_);try simp(disch:=first|omega|assumption|((repeat(first|exact A1|exact uH|apply A2|apply uT));first|done|fail)|(simp;first|done|omega|fail))[c1, c2, c2', c3]))
  refine B1 () rfl ?_
  simp only [U7, if_neg (show ¬ (0 ≤ d ∧ d ≤ 1000000 ∧ now + d ≤ 1000000000) by omega)]
  (repeat' constructor)
 ·(have zz:=trivial;repeat((first|clear zz|with_reducible first|refine A3 ?_|refine A5 fun _=>?_|refine A4 fun _=>?_);try simp(disch:=first|omega|assumption|((repeat(first|exact A1|exact uH|apply A2|apply uT));first|done|fail)|(simp;first|done|omega|fail))[c1, c2, c2', c3]))
  refine B1 () rfl ?_
  simp only [U7, if_pos (show (0 ≤ d ∧ d ≤ 1000000 ∧ now + d ≤ 1000000000) by omega)]
  (repeat' constructor)
end Go.Proofs.YtjobgnabneddjaaGreat
namespace Go.Proofs.YtjobgnabneddjaaGreat
open Go
structure ActV where
 k : Int
 n : Int
 pool : List E9
 pa : Option Addr
 pc : Nat
def ActV.pv (a : ActV) : Value := .slice a.pa a.pool.length a.pc
def ActV.val (a : ActV) : Value := .agg #[.int .i64 a.k, .int .i64 a.n, a.pv]
structure WoG where
 cn : Int
 cells : List Int
 own : List Int
 tv : Value
 pv : Value
 ls : List SlH
 keep : List (Int × Int)
 ts : List (Value × List EnV)
 pl : List Nat
 now : Int
def WoH.ug (m : WoH) (d : WoG) : WoH := { m with cn := d.cn, cells := d.cells, own := d.own, tv := d.tv, pv := d.pv, ls := d.ls, keep := d.keep, ts := d.ts, pl := d.pl, now := d.now }
def WoH.dg (m : WoH) : WoG := ⟨m.cn, m.cells, m.own, m.tv, m.pv, m.ls, m.keep, m.ts, m.pl, m.now⟩
structure XS where
 c : CfgV
 ep : Int
 cur : Int
 pins : List Int
 locks : List Int
 sl : List Y9
 keep : List (Int × Int)
 tabs : List (List EnV)
 pl : List Nat
 now : Int
def XH.xs (x : XH) : XS := ⟨x.c, x.ep, x.cur, x.pins, x.locks, x.sl, x.keep, x.ts.map (·.2), x.pl, x.now⟩
def Q6 (a : ActV) (x : WS) (y : XS) : WS :=
 if a.k = 1 then { x with cells := H7 x.cells 0 (IntKind.i64.wrap (D3 x.cells 0 + 1)) }
 else if a.k = 2 then if (0 ≤ a.n ∧ a.n < y.c.sh) ∧ y.locks.getD a.n.toNat 0 < 0 then { x with own := U8 x.own a.n 99 } else x
 else if a.k = 3 then if (0 ≤ a.n ∧ a.n < y.c.sh) ∧ y.locks.getD a.n.toNat 0 = 99 then { x with own := M8 x.own a.n 99 } else x
 else if a.k = 4 then { x with sl := A0C (p5 x.sl a.n .bld) a.n a.pool }
 else if a.k = 5 then { x with sl := p5 x.sl a.n .no }
 else if a.k = 6 then if -1 ≤ a.n ∧ a.n < y.c.sl then { x with cells := H7 x.cells 1 (a.n + 1) } else x
 else if a.k = 7 then { x with now := U7 x.now a.n }
 else x
def T7 (a : ActV) (y : XS) : XS :=
 if a.k = 1 then { y with ep := y.ep + 1 }
 else if a.k = 2 then if (0 ≤ a.n ∧ a.n < y.c.sh) ∧ y.locks.getD a.n.toNat 0 < 0 then { y with locks := y.locks.set a.n.toNat 99 } else y
 else if a.k = 3 then if (0 ≤ a.n ∧ a.n < y.c.sh) ∧ y.locks.getD a.n.toNat 0 = 99 then { y with locks := y.locks.set a.n.toNat (-1) } else y
 else if a.k = 4 then { y with sl := if v6 y.sl.length a.n then A0n (U2 y.sl a.n) a.n a.pool (a.pa, a.pool.length, a.pc) else y.sl }
 else if a.k = 5 then { y with sl := r9 y.sl a.n }
 else if a.k = 6 then if -1 ≤ a.n ∧ a.n < y.c.sl then { y with cur := a.n + 1 } else y
 else if a.k = 7 then { y with now := U7 y.now a.n }
 else y
structure HapOk (m : WoH) (x : XH) (a : ActV) : Prop where
 cells : 2 ≤ m.cells.length ∧ m.cells.length ≤ 1024
 own : m.own.length ≤ 1024
 ls : m.ls.length ≤ 8
 now : 0 ≤ m.now ∧ m.now ≤ 1000000000
 xnow : 0 ≤ x.now ∧ x.now ≤ 1000000000
 locks : x.locks.length = x.c.sh
 sh : x.c.sh ≤ 16
 csl : x.c.sl ≤ 8
 sl : x.sl.length ≤ 8
 ep : 0 ≤ x.ep ∧ x.ep ≤ 1000000
 pool : a.pool.length ≤ 1000
theorem C0W {S : List Nat} {w0 w' : World} {Hc Hk : List Res} {P : World → Prop} (h : ∀ w1, KS false S w0 w1 → P w1) (hw' : LW false S w0 (Hc ++ Hk) w') : ∀ w'', KS false (B6 Hc) w' w'' → P w'' := fun w'' hk => by
 refine h _ (hw'.ks.then hk fun x hx => ?_)
 obtain ⟨r, hr, hxr⟩ := M7.1 hx
 exact (hw'.own r (List.mem_append_left _ hr) x hxr).1
def D5P (m : WoH) (x : XH) (a : ActV) (y : WoG × XH) : Prop := (m.ug y.1).ws = Q6 a m.ws x.xs ∧ y.2.b = x.b ∧ y.2.xs = T7 a x.xs ∧ y.1.ts = m.ts ∧ y.2.ts = x.ts
set_option maxHeartbeats 2000000 in
theorem C25 (w : World) (m : WoH) (x : XH) (a : ActV) (h : HapOk m x a) (hv : ∀ w', KS false (B6 (C7 m ++ W3 x)) w w' → F9 w' a.pv a.pool.length (a.pool.flatMap H3)) (hw : LW false (B6 (C7 m ++ W3 x)) w (C7 m ++ W3 x) w) :
  Fn PR C0 44 #[.pointer (some ⟨m.b, 0, none⟩), .pointer (some ⟨x.b, 0, none⟩), a.val] w (Rn (B6 (C7 m ++ W3 x)) w (fun (y : WoG × XH) u => u = .tuple #[] ∧ D5P m x a y) fun y => C7 (m.ug y.1) ++ W3 y.2) := by
 refine A4k (TW.goH (κ := false) ?_ hw)
 unfold x9
 obtain ⟨hcl, how, hls, hnow, hxnow, hlo, hsh, hcsl, hsl, hep, hpl⟩ := h
 obtain ⟨k, n, p, pa, pc⟩ := a
 simp only [ActV.pv] at hv
 simp only at hpl
 generalize hS : B6 (C7 m ++ W3 x) = S at *
 simp only [C7, W3, D8, E5, k9, q6, ActV.val, ActV.pv, List.cons_append, List.nil_append]
 (have zz:=trivial;repeat((first|clear zz|with_reducible first|refine A3 ?_|refine A5 fun _=>?_|refine A4 fun _=>?_);try simp(disch:=first|omega|assumption|((repeat(first|exact A1|exact uH|apply A2|apply uT));first|done|fail)|(simp;first|done|omega|fail))[]))
 rename_i ba
 by_cases k1 : k = 1
 ·subst k1
  (have zz:=trivial;repeat((first|clear zz|with_reducible first|refine A3 ?_|refine A5 fun _=>?_|refine A4 fun _=>?_);try simp(disch:=first|omega|assumption|((repeat(first|exact A1|exact uH|apply A2|apply uT));first|done|fail)|(simp;first|done|omega|fail))[]))
  refine D0 (Hc := D5 m.bc m.cn m.cv m.ov m.cells m.own) A90 (fun w' _ hs => C8K w' m.bc m.cn m.cv m.ov m.cells m.own 0 1 hcl.2 (by omega) hs) (by unfold D5; (repeat' constructor)) ?_
  rintro n1 v rfl
  simp only [D5, List.cons_append, List.nil_append]
  (have zz:=trivial;repeat((first|clear zz|with_reducible first|refine A3 ?_|refine A5 fun _=>?_|refine A4 fun _=>?_);try simp(disch:=first|omega|assumption|((repeat(first|exact A1|exact uH|apply A2|apply uT));first|done|fail)|(simp;first|done|omega|fail))[]))
  refine B1 ({ m.dg with cn := n1, cells := H7 m.cells 0 (IntKind.i64.wrap (D3 m.cells 0 + 1)) }, { x with ep := x.ep + 1 }) ⟨rfl, rfl, rfl, rfl, rfl, rfl⟩ ?_
  simp only [C7, W3, D8, E5, k9, q6, WoH.ug, WoH.dg, List.cons_append, List.nil_append]
  (repeat' constructor)
 by_cases k2 : k = 2
 ·subst k2
  by_cases g1 : 0 ≤ n
  case neg =>
   (have zz:=trivial;repeat((first|clear zz|with_reducible first|refine A3 ?_|refine A5 fun _=>?_|refine A4 fun _=>?_);try simp(disch:=first|omega|assumption|((repeat(first|exact A1|exact uH|apply A2|apply uT));first|done|fail)|(simp;first|done|omega|fail))[g1]))
   refine B1 (m.dg, x) ⟨rfl, by unfold Q6; simp [g1]; rfl, rfl, by unfold T7; simp [g1], rfl, rfl⟩ ?_
   simp only [C7, W3, D8, E5, k9, q6, WoH.ug, WoH.dg, List.cons_append, List.nil_append]
   (repeat' constructor)
  by_cases g2 : n < x.c.sh
  case neg =>
   (have zz:=trivial;repeat((first|clear zz|with_reducible first|refine A3 ?_|refine A5 fun _=>?_|refine A4 fun _=>?_);try simp(disch:=first|omega|assumption|((repeat(first|exact A1|exact uH|apply A2|apply uT));first|done|fail)|(simp;first|done|omega|fail))[g1, g2]))
   refine B1 (m.dg, x) ⟨rfl, by unfold Q6; simp [XH.xs, g2]; rfl, rfl, by unfold T7; simp [XH.xs, g2], rfl, rfl⟩ ?_
   simp only [C7, W3, D8, E5, k9, q6, WoH.ug, WoH.dg, List.cons_append, List.nil_append]
   (repeat' constructor)
  obtain ⟨i, rfl⟩ : ∃ i : Nat, n = i := ⟨n.toNat, by omega⟩
  have hi : i < x.locks.length := by omega
  have hi' : ¬ x.locks.length ≤ i := by omega
  have hg := A2q hi
  refine g4 (e := 3) (k := 1) (v := x.lov) (q := x.locks.length) (xs := G5 x.locks) (by (repeat constructor)) (by omega) fun g gc hgl => ?_
  rw [hgl]
  obtain ⟨z, hz⟩ : ∃ z, z = x.locks.getD i 0 := ⟨_, rfl⟩
  rw [← hz] at hg
  have hgg := (List.getElem?_eq_some_iff.1 hg).2
  by_cases g3 : z < 0
  case neg =>
   (have zz:=trivial;repeat((first|clear zz|with_reducible first|refine A3 ?_|refine A5 fun _=>?_|refine A4 fun _=>?_);try simp(disch:=first|omega|assumption|((repeat(first|exact A1|exact uH|apply A2|apply uT));first|done|fail)|(simp;first|done|omega|fail))[g1, g2, g3, hg, hgg, hi, hi']))
   refine B1 (m.dg, { x with lov := .slice (some ⟨g, 0, none⟩) x.locks.length gc }) ⟨rfl, ?_, rfl, ?_, rfl, rfl⟩ ?_
   ·unfold Q6; simp only [XH.xs, Int.toNat_natCast, ← hz]; simp [g3]; rfl
   ·unfold T7; simp only [XH.xs, Int.toNat_natCast, ← hz]; simp [g3]
   simp only [C7, W3, D8, E5, k9, q6, WoH.ug, WoH.dg, List.cons_append, List.nil_append]
   (repeat' constructor)
  (have zz:=trivial;repeat((first|clear zz|with_reducible first|refine A3 ?_|refine A5 fun _=>?_|refine A4 fun _=>?_);try simp(disch:=first|omega|assumption|((repeat(first|exact A1|exact uH|apply A2|apply uT));first|done|fail)|(simp;first|done|omega|fail))[g1, g2, g3, hg, hgg, hi, hi']))
  refine D0 (Hc := D5 m.bc m.cn m.cv m.ov m.cells m.own) A1x (fun w' _ hs => B8G w' m.bc m.cn m.cv m.ov m.cells m.own (i : Nat) 99 how hs) (by unfold D5; (repeat' constructor)) ?_
  rintro n1 v ⟨r, rfl⟩
  simp only [D5, List.cons_append, List.nil_append]
  (have zz:=trivial;repeat((first|clear zz|with_reducible first|refine A3 ?_|refine A5 fun _=>?_|refine A4 fun _=>?_);try simp(disch:=first|omega|assumption|((repeat(first|exact A1|exact uH|apply A2|apply uT));first|done|fail)|(simp;first|done|omega|fail))[g1, hi, hi']))
  refine N3 (by (repeat constructor)) (by simp) (by simp; omega) (by simp) ?_
  have e : U4 (G5 x.locks) i (Value.int .i64 (99)).cells.toList = G5 (x.locks.set i (99)) := A2w hi _
  rw [e]
  refine B1 ({ m.dg with cn := n1, own := U8 m.own (i : Nat) 99 }, { x with lov := .slice (some ⟨g, 0, none⟩) x.locks.length gc, locks := x.locks.set i (99) }) ⟨rfl, ?_, rfl, ?_, rfl, rfl⟩ ?_
  ·unfold Q6; simp only [XH.xs, Int.toNat_natCast, ← hz]; simp [g2, g3]; rfl
  ·unfold T7; simp only [XH.xs, Int.toNat_natCast, ← hz]; simp [g2, g3]
  simp only [C7, W3, D8, E5, k9, q6, WoH.ug, WoH.dg, List.cons_append, List.nil_append, List.length_set]
  (repeat' constructor)
 by_cases k3 : k = 3
 ·subst k3
  by_cases g1 : 0 ≤ n
  case neg =>
   (have zz:=trivial;repeat((first|clear zz|with_reducible first|refine A3 ?_|refine A5 fun _=>?_|refine A4 fun _=>?_);try simp(disch:=first|omega|assumption|((repeat(first|exact A1|exact uH|apply A2|apply uT));first|done|fail)|(simp;first|done|omega|fail))[g1]))
   refine B1 (m.dg, x) ⟨rfl, by unfold Q6; simp [g1]; rfl, rfl, by unfold T7; simp [g1], rfl, rfl⟩ ?_
   simp only [C7, W3, D8, E5, k9, q6, WoH.ug, WoH.dg, List.cons_append, List.nil_append]
   (repeat' constructor)
  by_cases g2 : n < x.c.sh
  case neg =>
   (have zz:=trivial;repeat((first|clear zz|with_reducible first|refine A3 ?_|refine A5 fun _=>?_|refine A4 fun _=>?_);try simp(disch:=first|omega|assumption|((repeat(first|exact A1|exact uH|apply A2|apply uT));first|done|fail)|(simp;first|done|omega|fail))[g1, g2]))
   refine B1 (m.dg, x) ⟨rfl, by unfold Q6; simp [XH.xs, g2]; rfl, rfl, by unfold T7; simp [XH.xs, g2], rfl, rfl⟩ ?_
   simp only [C7, W3, D8, E5, k9, q6, WoH.ug, WoH.dg, List.cons_append, List.nil_append]
   (repeat' constructor)
  obtain ⟨i, rfl⟩ : ∃ i : Nat, n = i := ⟨n.toNat, by omega⟩
  have hi : i < x.locks.length := by omega
  have hi' : ¬ x.locks.length ≤ i := by omega
  have hg := A2q hi
  refine g4 (e := 3) (k := 1) (v := x.lov) (q := x.locks.length) (xs := G5 x.locks) (by (repeat constructor)) (by omega) fun g gc hgl => ?_
  rw [hgl]
  obtain ⟨z, hz⟩ : ∃ z, z = x.locks.getD i 0 := ⟨_, rfl⟩
  rw [← hz] at hg
  have hgg := (List.getElem?_eq_some_iff.1 hg).2
  by_cases g3 : z = 99
  case neg =>
   (have zz:=trivial;repeat((first|clear zz|with_reducible first|refine A3 ?_|refine A5 fun _=>?_|refine A4 fun _=>?_);try simp(disch:=first|omega|assumption|((repeat(first|exact A1|exact uH|apply A2|apply uT));first|done|fail)|(simp;first|done|omega|fail))[g1, g2, g3, hg, hgg, hi, hi']))
   refine B1 (m.dg, { x with lov := .slice (some ⟨g, 0, none⟩) x.locks.length gc }) ⟨rfl, ?_, rfl, ?_, rfl, rfl⟩ ?_
   ·unfold Q6; simp only [XH.xs, Int.toNat_natCast, ← hz]; simp [g3]; rfl
   ·unfold T7; simp only [XH.xs, Int.toNat_natCast, ← hz]; simp [g3]
   simp only [C7, W3, D8, E5, k9, q6, WoH.ug, WoH.dg, List.cons_append, List.nil_append]
   (repeat' constructor)
  (have zz:=trivial;repeat((first|clear zz|with_reducible first|refine A3 ?_|refine A5 fun _=>?_|refine A4 fun _=>?_);try simp(disch:=first|omega|assumption|((repeat(first|exact A1|exact uH|apply A2|apply uT));first|done|fail)|(simp;first|done|omega|fail))[g1, g2, g3, hg, hgg, hi, hi']))
  refine D0 (Hc := D5 m.bc m.cn m.cv m.ov m.cells m.own) A0b (fun w' _ hs => B31 w' m.bc m.cn m.cv m.ov m.cells m.own (i : Nat) 99 how hs) (by unfold D5; (repeat' constructor)) ?_
  rintro n1 v ⟨r, rfl⟩
  simp only [D5, List.cons_append, List.nil_append]
  (have zz:=trivial;repeat((first|clear zz|with_reducible first|refine A3 ?_|refine A5 fun _=>?_|refine A4 fun _=>?_);try simp(disch:=first|omega|assumption|((repeat(first|exact A1|exact uH|apply A2|apply uT));first|done|fail)|(simp;first|done|omega|fail))[g1, hi, hi']))
  refine N3 (by (repeat constructor)) (by simp) (by simp; omega) (by simp) ?_
  have e : U4 (G5 x.locks) i (Value.int .i64 (-1)).cells.toList = G5 (x.locks.set i (-1)) := A2w hi _
  rw [e]
  refine B1 ({ m.dg with cn := n1, own := M8 m.own (i : Nat) 99 }, { x with lov := .slice (some ⟨g, 0, none⟩) x.locks.length gc, locks := x.locks.set i (-1) }) ⟨rfl, ?_, rfl, ?_, rfl, rfl⟩ ?_
  ·unfold Q6; simp only [XH.xs, Int.toNat_natCast, ← hz]; simp [g2, g3]; rfl
  ·unfold T7; simp only [XH.xs, Int.toNat_natCast, ← hz]; simp [g2, g3]
  simp only [C7, W3, D8, E5, k9, q6, WoH.ug, WoH.dg, List.cons_append, List.nil_append, List.length_set]
  (repeat' constructor)
 by_cases k4 : k = 4
 ·subst k4
  (have zz:=trivial;repeat((first|clear zz|with_reducible first|refine A3 ?_|refine A5 fun _=>?_|refine A4 fun _=>?_);try simp(disch:=first|omega|assumption|((repeat(first|exact A1|exact uH|apply A2|apply uT));first|done|fail)|(simp;first|done|omega|fail))[]))
  refine D0 (Hc := H2 m.bs m.sv m.ls) A7b (fun w' _ hs => C23 w' m.bs m.sv m.ls n hls hs) (by unfold H2; (repeat' constructor)) ?_
  rintro _ v hv'
  simp only [H2, List.cons_append, List.nil_append]
  (have zz:=trivial;repeat((first|clear zz|with_reducible first|refine A3 ?_|refine A5 fun _=>?_|refine A4 fun _=>?_);try simp(disch:=first|omega|assumption|((repeat(first|exact A1|exact uH|apply A2|apply uT));first|done|fail)|(simp;first|done|omega|fail))[]))
  refine D0 (Hc := H2 m.bs m.sv (U5 m.ls n .bld)) A79 (fun w' hw' hs => C6F w' m.bs m.sv (U5 m.ls n .bld) n (.slice pa p.length pc) p (by rw [B2g]; exact hls) hpl (C0W hv hw') hs) (by unfold H2; (repeat' constructor)) ?_
  rintro ls2 v2 ⟨hv2, hl2, hsp⟩
  rw [B1j] at hsp
  simp only [H2, List.cons_append, List.nil_append]
  (have zz:=trivial;repeat((first|clear zz|with_reducible first|refine A3 ?_|refine A5 fun _=>?_|refine A4 fun _=>?_);try simp(disch:=first|omega|assumption|((repeat(first|exact A1|exact uH|apply A2|apply uT));first|done|fail)|(simp;first|done|omega|fail))[]))
  refine G4 A4f (fun w' hw' => C2E w' x.slv x.sl n hsl (N9.own (e := 270) (k := 2) (by (repeat constructor)) w' hw')) ?_
  rintro r1 v3 rfl
  cases hi : v6 x.sl.length n with
  | false =>
   (have zz:=trivial;repeat((first|clear zz|with_reducible first|refine A3 ?_|refine A5 fun _=>?_|refine A4 fun _=>?_);try simp(disch:=first|omega|assumption|((repeat(first|exact A1|exact uH|apply A2|apply uT));first|done|fail)|(simp;first|done|omega|fail))[]))
   refine B1 ({ m.dg with ls := ls2 }, x) ⟨rfl, ?_, rfl, ?_, rfl, rfl⟩ ?_
   ·unfold Q6; simp [WoH.ws, WoH.ug, WoH.dg, hsp]; rfl
   ·unfold T7; simp [XH.xs, hi]
   simp only [C7, W3, D8, E5, k9, q6, WoH.ug, WoH.dg, List.cons_append, List.nil_append]
   (repeat' constructor)
  | true =>
   simp only [if_true]
   have hbl : (U2 x.sl n).length = x.sl.length := A51 _ _ _
   refine T8 (e := 270) (k := 2) (v := r1) (q := (U2 x.sl n).length) (xs := (U2 x.sl n).flatMap Z6) (by (repeat constructor)) fun sa sc hu => ?_
   subst hu
   (have zz:=trivial;repeat((first|clear zz|with_reducible first|refine A3 ?_|refine A5 fun _=>?_|refine A4 fun _=>?_);try simp(disch:=first|omega|assumption|((repeat(first|exact A1|exact uH|apply A2|apply uT));first|done|fail)|(simp;first|done|omega|fail))[]))
   refine G4 A5K (fun w' hw' => C2z w' (.slice sa (U2 x.sl n).length sc) (U2 x.sl n) n p pa pc (by omega) (by omega) (N9.own (e := 270) (k := 2) (by (repeat constructor)) w' hw') (hv w' hw'.ks)) ?_
   rintro r2 v4 rfl
   cases hfl : flR (U2 x.sl n) n p with
   | false =>
    (have zz:=trivial;repeat((first|clear zz|with_reducible first|refine A3 ?_|refine A5 fun _=>?_|refine A4 fun _=>?_);try simp(disch:=first|omega|assumption|((repeat(first|exact A1|exact uH|apply A2|apply uT));first|done|fail)|(simp;first|done|omega|fail))[]))
    refine B1 ({ m.dg with ls := ls2 }, { x with slv := .slice sa (U2 x.sl n).length sc, sl := U2 x.sl n }) ⟨rfl, ?_, rfl, ?_, rfl, rfl⟩ ?_
    ·unfold Q6; simp [WoH.ws, WoH.ug, WoH.dg, hsp]; rfl
    ·unfold T7; simp [XH.xs, hi, A0n, hfl]
    simp only [C7, W3, D8, E5, k9, q6, WoH.ug, WoH.dg, List.cons_append, List.nil_append]
    (repeat' constructor)
   | true =>
    simp only [if_true]
    refine T8 (e := 270) (k := 2) (v := r2) (q := (A0n (U2 x.sl n) n p (pa, p.length, pc)).length) (xs := (A0n (U2 x.sl n) n p (pa, p.length, pc)).flatMap Z6) (by (repeat constructor)) fun ra rc hu => ?_
    subst hu
    (have zz:=trivial;repeat((first|clear zz|with_reducible first|refine A3 ?_|refine A5 fun _=>?_|refine A4 fun _=>?_);try simp(disch:=first|omega|assumption|((repeat(first|exact A1|exact uH|apply A2|apply uT));first|done|fail)|(simp;first|done|omega|fail))[]))
    refine B1 ({ m.dg with ls := ls2 }, { x with slv := .slice ra (A0n (U2 x.sl n) n p (pa, p.length, pc)).length rc, sl := A0n (U2 x.sl n) n p (pa, p.length, pc) }) ⟨rfl, ?_, rfl, ?_, rfl, rfl⟩ ?_
    ·unfold Q6; simp [WoH.ws, WoH.ug, WoH.dg, hsp]; rfl
    ·unfold T7; simp [XH.xs, hi]
    simp only [C7, W3, D8, E5, k9, q6, WoH.ug, WoH.dg, List.cons_append, List.nil_append]
    (repeat' constructor)
 by_cases k5 : k = 5
 ·subst k5
  (have zz:=trivial;repeat((first|clear zz|with_reducible first|refine A3 ?_|refine A5 fun _=>?_|refine A4 fun _=>?_);try simp(disch:=first|omega|assumption|((repeat(first|exact A1|exact uH|apply A2|apply uT));first|done|fail)|(simp;first|done|omega|fail))[]))
  refine D0 (Hc := H2 m.bs m.sv m.ls) A7N (fun w' _ hs => C3L w' m.bs m.sv m.ls n hls hs) (by unfold H2; (repeat' constructor)) ?_
  rintro _ v hv'
  simp only [H2, List.cons_append, List.nil_append]
  (have zz:=trivial;repeat((first|clear zz|with_reducible first|refine A3 ?_|refine A5 fun _=>?_|refine A4 fun _=>?_);try simp(disch:=first|omega|assumption|((repeat(first|exact A1|exact uH|apply A2|apply uT));first|done|fail)|(simp;first|done|omega|fail))[]))
  refine G4 A4Y (fun w' hw' => C0g w' x.slv x.sl n hsl (N9.own (e := 270) (k := 2) (by (repeat constructor)) w' hw')) ?_
  rintro r1 v3 rfl
  cases hi : v6 x.sl.length n with
  | false =>
   refine T8 (e := 270) (k := 2) (v := x.slv) (q := x.sl.length) (xs := x.sl.flatMap Z6) (by (repeat constructor)) fun sa sc hu => ?_
   rw [hu]
   (have zz:=trivial;repeat((first|clear zz|with_reducible first|refine A3 ?_|refine A5 fun _=>?_|refine A4 fun _=>?_);try simp(disch:=first|omega|assumption|((repeat(first|exact A1|exact uH|apply A2|apply uT));first|done|fail)|(simp;first|done|omega|fail))[]))
   refine B1 ({ m.dg with ls := U5 m.ls n .no }, { x with slv := .slice sa x.sl.length sc }) ⟨rfl, ?_, rfl, ?_, rfl, rfl⟩ ?_
   ·unfold Q6; simp [WoH.ws, WoH.ug, WoH.dg, B1j]; rfl
   ·have e : r9 x.sl n = x.sl := by unfold r9 A4J; simp [v6] at hi; rw [if_neg (by omega)]
    unfold T7; simp [XH.xs, e]
   simp only [C7, W3, D8, E5, k9, q6, WoH.ug, WoH.dg, List.cons_append, List.nil_append]
   (repeat' constructor)
  | true =>
   simp only [if_true]
   refine T8 (e := 270) (k := 2) (v := r1) (q := (r9 x.sl n).length) (xs := (r9 x.sl n).flatMap Z6) (by (repeat constructor)) fun sa sc hu => ?_
   subst hu
   (have zz:=trivial;repeat((first|clear zz|with_reducible first|refine A3 ?_|refine A5 fun _=>?_|refine A4 fun _=>?_);try simp(disch:=first|omega|assumption|((repeat(first|exact A1|exact uH|apply A2|apply uT));first|done|fail)|(simp;first|done|omega|fail))[]))
   refine B1 ({ m.dg with ls := U5 m.ls n .no }, { x with slv := .slice sa (r9 x.sl n).length sc, sl := r9 x.sl n }) ⟨rfl, ?_, rfl, ?_, rfl, rfl⟩ ?_
   ·unfold Q6; simp [WoH.ws, WoH.ug, WoH.dg, B1j]; rfl
   ·unfold T7; simp [XH.xs]
   simp only [C7, W3, D8, E5, k9, q6, WoH.ug, WoH.dg, List.cons_append, List.nil_append]
   (repeat' constructor)
 by_cases k6 : k = 6
 ·subst k6
  by_cases g1 : -1 ≤ n
  case neg =>
   (have zz:=trivial;repeat((first|clear zz|with_reducible first|refine A3 ?_|refine A5 fun _=>?_|refine A4 fun _=>?_);try simp(disch:=first|omega|assumption|((repeat(first|exact A1|exact uH|apply A2|apply uT));first|done|fail)|(simp;first|done|omega|fail))[g1]))
   refine B1 (m.dg, x) ⟨rfl, by unfold Q6; simp [g1]; rfl, rfl, by unfold T7; simp [g1], rfl, rfl⟩ ?_
   simp only [C7, W3, D8, E5, k9, q6, WoH.ug, WoH.dg, List.cons_append, List.nil_append]
   (repeat' constructor)
  by_cases g2 : n < x.c.sl
  case neg =>
   (have zz:=trivial;repeat((first|clear zz|with_reducible first|refine A3 ?_|refine A5 fun _=>?_|refine A4 fun _=>?_);try simp(disch:=first|omega|assumption|((repeat(first|exact A1|exact uH|apply A2|apply uT));first|done|fail)|(simp;first|done|omega|fail))[g1, g2]))
   refine B1 (m.dg, x) ⟨rfl, by unfold Q6; simp [XH.xs, g2]; rfl, rfl, by unfold T7; simp [XH.xs, g2], rfl, rfl⟩ ?_
   simp only [C7, W3, D8, E5, k9, q6, WoH.ug, WoH.dg, List.cons_append, List.nil_append]
   (repeat' constructor)
  (have zz:=trivial;repeat((first|clear zz|with_reducible first|refine A3 ?_|refine A5 fun _=>?_|refine A4 fun _=>?_);try simp(disch:=first|omega|assumption|((repeat(first|exact A1|exact uH|apply A2|apply uT));first|done|fail)|(simp;first|done|omega|fail))[g1, g2]))
  refine D0 (Hc := D5 m.bc m.cn m.cv m.ov m.cells m.own) l5 (fun w' _ hs => B0p w' m.bc m.cn m.cv m.ov m.cells m.own 1 (n + 1) hcl.2 hs) (by unfold D5; (repeat' constructor)) ?_
  rintro n1 v rfl
  simp only [D5, List.cons_append, List.nil_append]
  (have zz:=trivial;repeat((first|clear zz|with_reducible first|refine A3 ?_|refine A5 fun _=>?_|refine A4 fun _=>?_);try simp(disch:=first|omega|assumption|((repeat(first|exact A1|exact uH|apply A2|apply uT));first|done|fail)|(simp;first|done|omega|fail))[]))
  refine B1 ({ m.dg with cn := n1, cells := H7 m.cells 1 (n + 1) }, { x with cur := n + 1 }) ⟨rfl, ?_, rfl, ?_, rfl, rfl⟩ ?_
  ·unfold Q6; simp [XH.xs, g1, g2]; rfl
  ·unfold T7; simp [XH.xs, g1, g2]
  simp only [C7, W3, D8, E5, k9, q6, WoH.ug, WoH.dg, List.cons_append, List.nil_append]
  (repeat' constructor)
 by_cases k7 : k = 7
 ·subst k7
  (have zz:=trivial;repeat((first|clear zz|with_reducible first|refine A3 ?_|refine A5 fun _=>?_|refine A4 fun _=>?_);try simp(disch:=first|omega|assumption|((repeat(first|exact A1|exact uH|apply A2|apply uT));first|done|fail)|(simp;first|done|omega|fail))[]))
  refine D0 (Hc := [D8 m.b m.c (.pointer (some ⟨m.bc, 0, none⟩)) (.pointer (some ⟨m.bs, 0, none⟩)) (.pointer (some ⟨m.bk, 0, none⟩)) m.tv m.pv (.int .i64 m.now)]) A8v (fun w' _ hs => C5A w' m.b m.c _ _ _ m.tv m.pv m.now n hnow hs) (by unfold D8 E5; (repeat' constructor)) ?_
  rintro _ v rfl
  simp only [D8, E5, List.cons_append, List.nil_append]
  (have zz:=trivial;repeat((first|clear zz|with_reducible first|refine A3 ?_|refine A5 fun _=>?_|refine A4 fun _=>?_);try simp(disch:=first|omega|assumption|((repeat(first|exact A1|exact uH|apply A2|apply uT));first|done|fail)|(simp;first|done|omega|fail))[]))
  refine D0 (Hc := [k9 x.b x.c x.ep x.cur x.piv x.lov x.slv x.kev x.tav x.plv x.now]) A18 (fun w' _ hs => C2P w' x.b x.c x.ep x.cur x.piv x.lov x.slv x.kev x.tav x.plv x.now n hxnow hs) (by unfold k9 q6; (repeat' constructor)) ?_
  rintro _ v rfl
  simp only [k9, q6, List.cons_append, List.nil_append]
  (have zz:=trivial;repeat((first|clear zz|with_reducible first|refine A3 ?_|refine A5 fun _=>?_|refine A4 fun _=>?_);try simp(disch:=first|omega|assumption|((repeat(first|exact A1|exact uH|apply A2|apply uT));first|done|fail)|(simp;first|done|omega|fail))[]))
  refine B1 ({ m.dg with now := U7 m.now n }, { x with now := U7 x.now n }) ⟨rfl, ?_, rfl, ?_, rfl, rfl⟩ ?_
  ·unfold Q6; simp; rfl
  ·unfold T7; simp [XH.xs]
  simp only [C7, W3, D8, E5, k9, q6, WoH.ug, WoH.dg, List.cons_append, List.nil_append]
  (repeat' constructor)
 ·(have zz:=trivial;repeat((first|clear zz|with_reducible first|refine A3 ?_|refine A5 fun _=>?_|refine A4 fun _=>?_);try simp(disch:=first|omega|assumption|((repeat(first|exact A1|exact uH|apply A2|apply uT));first|done|fail)|(simp;first|done|omega|fail))[k1, k2, k3, k4, k5, k6, k7]))
  refine B1 (m.dg, x) ⟨rfl, by unfold Q6; simp [k1, k2, k3, k4, k5, k6, k7]; rfl, rfl, by unfold T7; simp [k1, k2, k3, k4, k5, k6, k7], rfl, rfl⟩ ?_
  simp only [C7, W3, D8, E5, k9, q6, WoH.ug, WoH.dg, List.cons_append, List.nil_append]
  (repeat' constructor)
end Go.Proofs.YtjobgnabneddjaaGreat
namespace Go.Proofs.YtjobgnabneddjaaGreat
open Go
structure GI (N E : Nat) (j : JW) (x : WS) : Prop where
 ok : WsOk x
 n : 1 ≤ N ∧ N ≤ 16
 sh : x.c.sh = (N : Nat)
 tl : x.tabs.length = N
 te : ∀ t ∈ x.tabs, TabOk x.c.cp.toNat t
 pl : x.places.length = N
 ow : x.own.length = N
 jt : TabOk 0 j.table ∨ TabOk x.c.cp.toNat j.table
 ep : 0 ≤ D3 x.cells 0 ∧ D3 x.cells 0 ≤ E
 cur : 0 ≤ D3 x.cells 1 ∧ D3 x.cells 1 ≤ 500
 now : 0 ≤ x.now ∧ x.now ≤ 1000000000
 text : j.text.size ≤ 100
 key : j.key.size < 2 ^ 60
 shard : 0 ≤ j.shard ∧ j.shard < N
 slot : -1 ≤ j.slot ∧ j.slot ≤ 500
 st : 0 ≤ j.st ∧ j.st ≤ 10
 jep : 0 ≤ j.ep ∧ j.ep ≤ E
 jt2 : 6 ≤ j.st → j.st < 10 → TabOk x.c.cp.toNat j.table
theorem GI.stage {N E : Nat} {j : JW} {x : WS} (h : GI N E j x) (k : Nat) (hk : k < 10) (hs : j.st = (k : Nat)) : GI N E (D1 k { j with st := j.st + 1 } x).1 (D1 k { j with st := j.st + 1 } x).2.1 := by
 have hst : 0 ≤ j.st + 1 ∧ j.st + 1 ≤ 10 := by omega
 have hcase : k = 0 ∨ k = 1 ∨ k = 2 ∨ k = 3 ∨ k = 4 ∨ k = 5 ∨ k = 6 ∨ k = 7 ∨ k = 8 ∨ k = 9 := by omega
 have hn := h.n
 have hcur := h.cur
 rcases hcase with rfl | rfl | rfl | rfl | rfl | rfl | rfl | rfl | rfl | rfl
 ·show GI N E (jw0 _ x).1 (jw0 _ x).2.1
  unfold jw0
  by_cases c1 : E6 x.c j.who < 0
  ·rw [if_pos c1]; exact { h with st := by simp [JW.refuse], jt2 := fun _ (h6 : (10 : Int) < 10) => by omega }
  ·rw [if_neg c1]
   by_cases c2 : (B2 j.text).2.2 = 0
   ·rw [if_neg (by simpa using c2)]
    have h3 := h.sh
    have : L7 (P9 (B2 j.text).1) x.c.sh < N := by
     unfold L7; rw [if_neg (by omega), h3, Int.toNat_natCast]; exact Nat.mod_lt _ (by omega)
    exact { h with st := hst, key := A3c _, jep := h.ep, jt2 := fun (h6 : 6 ≤ j.st + 1) _ => by omega, shard := ⟨Int.natCast_nonneg _, by show ((L7 (P9 (B2 j.text).1) x.c.sh : Nat) : Int) < N; omega⟩ }
   ·rw [if_pos c2]; exact { h with st := by simp [JW.refuse], jt2 := fun _ (h6 : (10 : Int) < 10) => by omega }
 ·have e0 : D3 (H7 x.cells (E6 x.c j.who) (IntKind.i64.wrap (j.ep + 1))) 0 = D3 x.cells 0 := Z1 _ _ _ _ _ (Or.inl rfl)
  have e1 : D3 (H7 x.cells (E6 x.c j.who) (IntKind.i64.wrap (j.ep + 1))) 1 = D3 x.cells 1 := Z1 _ _ _ _ _ (Or.inr rfl)
  exact { h with st := hst, jt2 := fun (h6 : 6 ≤ j.st + 1) _ => by omega, ok := ⟨h.ok.wk, by simp only [D1, jw1, A01]; exact h.ok.cells, h.ok.own, h.ok.sl, h.ok.keep⟩, ep := by simp only [D1, jw1]; rw [e0]; exact h.ep, cur := by simp only [D1, jw1]; rw [e1]; exact h.cur }
 ·show GI N E (jw2 _ x).1 (jw2 _ x).2.1
  unfold jw2
  by_cases c1 : D3 x.cells 0 = j.ep
  ·rw [if_pos c1]; exact { h with st := hst, jt2 := fun (h6 : 6 ≤ j.st + 1) _ => by omega }
  ·rw [if_neg c1]; exact { h with st := by simp, jep := h.ep, jt2 := fun (h6 : (6 : Int) ≤ 1) _ => by omega }
 ·exact { h with st := hst, jt2 := fun (h6 : 6 ≤ j.st + 1) _ => by omega, ok := ⟨h.ok.wk, h.ok.cells, by simp only [D1, jw3, A1M]; exact h.ok.own, h.ok.sl, h.ok.keep⟩, ow := by simp only [D1, jw3, A1M]; exact h.ow }
 ·have e : IntKind.i64.wrap (D3 x.cells 1 - 1) = D3 x.cells 1 - 1 := d9 (by omega) (by omega)
  exact { h with st := hst, jt2 := fun (h6 : 6 ≤ j.st + 1) _ => by omega, slot := by show -1 ≤ IntKind.i64.wrap (D3 x.cells 1 - 1) ∧ IntKind.i64.wrap (D3 x.cells 1 - 1) ≤ 500; rw [e]; omega }
 ·have hsd := h.shard
  have htl := h.tl
  have key : TabOk x.c.cp.toNat (x.tabs.getD j.shard.toNat []) := by
   rw [List.getD_eq_getElem?_getD, List.getElem?_eq_getElem (by omega)]
   exact h.te _ (List.getElem_mem _)
  exact { h with st := hst, jt := Or.inr key, jt2 := fun _ _ => key }
 ·exact { h with st := hst, jt := h.jt.imp (fun g => (A39 g h.key).1) (fun g => (A39 g h.key).1), jt2 := fun _ _ => (A39 (h.jt2 (by omega) (by omega)) h.key).1 }
 ·have key := h.jt2 (by omega) (by omega)
  refine { h with st := hst, tl := by simp only [D1, jw7, List.length_set]; exact h.tl, te := fun t ht => ?_, ok := ⟨h.ok.wk, h.ok.cells, h.ok.own, h.ok.sl, h.ok.keep⟩, jt2 := fun _ _ => key }
  rcases List.mem_or_eq_of_mem_set (show t ∈ x.tabs.set j.shard.toNat j.table from ht) with ht | rfl
  ·exact h.te t ht
  ·exact key
 ·exact { h with st := hst, jt2 := fun _ _ => h.jt2 (by omega) (by omega), ok := ⟨h.ok.wk, h.ok.cells, by simp only [D1, jw8, s5]; exact h.ok.own, h.ok.sl, h.ok.keep⟩, ow := by simp only [D1, jw8, s5]; exact h.ow }
 ·have e0 : D3 (H7 x.cells (E6 x.c j.who) 0) 0 = D3 x.cells 0 := Z1 _ _ _ _ _ (Or.inl rfl)
  have e1 : D3 (H7 x.cells (E6 x.c j.who) 0) 1 = D3 x.cells 1 := Z1 _ _ _ _ _ (Or.inr rfl)
  exact { h with st := hst, jt2 := fun _ (h6 : j.st + 1 < 10) => by omega, ok := ⟨h.ok.wk, by simp only [D1, jw9, A01]; exact h.ok.cells, h.ok.own, h.ok.sl, h.ok.keep⟩, ep := by simp only [D1, jw9]; rw [e0]; exact h.ep, cur := by simp only [D1, jw9]; rw [e1]; exact h.cur }
theorem GI.step {N E : Nat} {j : JW} {x : WS} (h : GI N E j x) : GI N E (j.step x).1 (j.step x).2.1 := by
 cases hr : j.ready x with
 | false => rw [A7g hr]; exact h
 | true =>
  have hs := h.st
  have hl := A8A hr
  rw [u7 hr]
  exact h.stage _ (by omega) (by omega)
theorem C0D (l : List Int) (i k v : Int) : D3 (H7 l i v) k = if i = k ∧ 0 ≤ i ∧ i < l.length then v else D3 l k := by
 by_cases c : i = k
 ·subst c
  rw [A1D]
  by_cases d : 0 ≤ i ∧ i < l.length
  ·rw [if_pos d, if_pos ⟨rfl, d⟩]
  ·rw [if_neg d, if_neg (by omega)]
   unfold D3; rw [if_neg d]
 ·rw [m8 _ _ c, if_neg (by omega)]
theorem GI.hap {N E : Nat} {j : JW} {x : WS} (h : GI N E j x) (hE : E ≤ 1000) (a : ActV) (y : XS) (hc : y.c = x.c) (hcs : x.c.sl ≤ 8) : GI N (E + 1) j (Q6 a x y) := by
 have hep := h.ep
 have hcl := h.ok.cells
 have hwk := h.ok.wk
 have up : GI N (E + 1) j x := { h with ep := by omega, jep := by have := h.jep; omega }
 unfold Q6
 split
 ·have e0 : D3 (H7 x.cells 0 (IntKind.i64.wrap (D3 x.cells 0 + 1))) 0 = D3 x.cells 0 + 1 := by
   rw [A1D, if_pos (by omega)]; exact d9 (by omega) (by omega)
  have e1 : D3 (H7 x.cells 0 (IntKind.i64.wrap (D3 x.cells 0 + 1))) 1 = D3 x.cells 1 := m8 _ _ (by omega)
  exact { up with ep := by simp only; rw [e0]; omega, cur := by simp only; rw [e1]; exact h.cur, ok := ⟨h.ok.wk, by simp only [A01]; exact hcl, h.ok.own, h.ok.sl, h.ok.keep⟩ }
 split
 ·split
  ·exact { up with ok := ⟨h.ok.wk, h.ok.cells, by simp only [A1M]; exact h.ok.own, h.ok.sl, h.ok.keep⟩, ow := by simp only [A1M]; exact h.ow }
  ·exact up
 split
 ·split
  ·exact { up with ok := ⟨h.ok.wk, h.ok.cells, by simp only [s5]; exact h.ok.own, h.ok.sl, h.ok.keep⟩, ow := by simp only [s5]; exact h.ow }
  ·exact up
 split
 ·exact { up with ok := ⟨h.ok.wk, h.ok.cells, h.ok.own, by simp only [C3c, A46]; exact h.ok.sl, h.ok.keep⟩ }
 split
 ·exact { up with ok := ⟨h.ok.wk, h.ok.cells, h.ok.own, by simp only [A46]; exact h.ok.sl, h.ok.keep⟩ }
 split
 ·split
  ·rename_i hn
   rw [hc] at hn
   have e1 : D3 (H7 x.cells 1 (a.n + 1)) 1 = a.n + 1 := by rw [A1D, if_pos (by omega)]
   have e0 : D3 (H7 x.cells 1 (a.n + 1)) 0 = D3 x.cells 0 := m8 _ _ (by omega)
   exact { up with ep := by simp only; rw [e0]; exact up.ep, cur := by simp only; rw [e1]; omega, ok := ⟨h.ok.wk, by simp only [A01]; exact hcl, h.ok.own, h.ok.sl, h.ok.keep⟩ }
  ·exact up
 split
 ·exact { up with now := B81 h.now, ok := ⟨h.ok.wk, h.ok.cells, h.ok.own, h.ok.sl, h.ok.keep⟩ }
 ·exact up
end Go.Proofs.YtjobgnabneddjaaGreat
namespace Go.Proofs.YtjobgnabneddjaaGreat
open Go
structure PinJ (N E : Nat) (who pd e : Int) (j : JW) (x : WS) (y : XS) : Prop where
 g : GI N E j x
 hwho : j.who = who
 w0 : 0 ≤ who ∧ who ≤ 60
 lk : y.locks = x.own
 yc : y.c = x.c
 ec : D3 x.cells 0 = e
 free : ∀ i, i < N → x.own.getD i 0 < 0 → x.own.getD i 0 = -1
 held : 4 ≤ j.st → j.st ≤ 8 → ∀ i : Nat, i < N → (x.own.getD i 0 = who ↔ (i : Int) = j.shard)
 none : ¬ (4 ≤ j.st ∧ j.st ≤ 8) → ∀ i, i < N → x.own.getD i 0 ≠ who
 off : E6 x.c who < 0 → j.st = 0 ∨ j.st = 10
 p0 : 0 ≤ E6 x.c who → (j.st = 0 ∨ j.st = 10) → D3 x.cells (E6 x.c who) = 0
 p2 : 2 ≤ j.st → j.st ≤ 9 → D3 x.cells (E6 x.c who) = j.ep + 1
 pd0 : j.st ≤ 2 → pd = 0
 pd3 : 3 ≤ j.st → j.st ≤ 9 → pd = j.ep + 1
def pdN (pd e : Int) (j : JW) : Int := if j.st = 3 ∧ pd = 0 then e + 1 else pd
theorem e6 {pd e : Int} {j : JW} (h : j.st ≠ 3 ∨ pd ≠ 0) : pdN pd e j = pd := by unfold pdN; rw [if_neg (by omega)]
theorem Y6 {l : List Int} {i k : Nat} {v : Int} (hi : i < l.length) : (l.set i v).getD k 0 = if i = k then v else l.getD k 0 := by
 rw [List.getD_eq_getElem?_getD, List.getElem?_set]
 by_cases c : i = k
 ·subst c; rw [if_pos rfl, if_pos hi, if_pos rfl]; rfl
 ·rw [if_neg c, if_neg c, ← List.getD_eq_getElem?_getD]
theorem PinJ.stage {N E : Nat} {who pd e : Int} {j : JW} {x : WS} {y : XS} (h : PinJ N E who pd e j x y) (hE : E ≤ 1000) (k : Nat) (hk : k < 10) (hs : j.st = (k : Nat)) (hr : j.ready x = true) :
  PinJ N E who (pdN pd e (D1 k { j with st := j.st + 1 } x).1) e (D1 k { j with st := j.st + 1 } x).1 (D1 k { j with st := j.st + 1 } x).2.1 { y with locks := (D1 k { j with st := j.st + 1 } x).2.1.own } := by
 have hw := h.hwho
 subst hw
 have hw : j.who = j.who := rfl
 have hg := h.g.stage k hk hs
 have hcase : k = 0 ∨ k = 1 ∨ k = 2 ∨ k = 3 ∨ k = 4 ∨ k = 5 ∨ k = 6 ∨ k = 7 ∨ k = 8 ∨ k = 9 := by omega
 have hn := h.g.n
 have hwk := h.g.ok.wk
 have hcl := h.g.ok.cells
 have hsd := h.g.shard
 have how := h.g.ow
 have hjep := h.g.jep
 have hw0 := h.w0
 have hpr : 0 ≤ E6 x.c j.who → 2 ≤ E6 x.c j.who ∧ E6 x.c j.who < x.cells.length := by unfold E6; intro h1; split at h1 <;> split <;> omega
 have hoff := h.off
 have hno := h.none
 have hhe := h.held
 rcases hcase with rfl | rfl | rfl | rfl | rfl | rfl | rfl | rfl | rfl | rfl
 ·have hno' := hno (by omega)
  have hpd := h.pd0 (by omega)
  have hp0 := fun g => h.p0 g (Or.inl (by omega))
  rw [show D1 0 { j with st := j.st + 1 } x = jw0 { j with st := j.st + 1 } x from rfl] at hg ⊢
  unfold jw0 at hg ⊢
  simp only at hg ⊢
  by_cases c1 : E6 x.c j.who < 0
  ·rw [if_pos c1] at hg ⊢
   rw [e6 (Or.inl (by simp [JW.refuse]))]
   exact ⟨hg, hw, h.w0, rfl, h.yc, h.ec, h.free, fun _ (h8 : (10 : Int) ≤ 8) => by omega, fun _ => hno', fun _ => Or.inr rfl, fun g _ => hp0 g, fun _ (h9 : (10 : Int) ≤ 9) => by omega, fun (h2 : (10 : Int) ≤ 2) => by omega, fun _ (h9 : (10 : Int) ≤ 9) => by omega⟩
  rw [if_neg c1] at hg ⊢
  by_cases c2 : (B2 j.text).2.2 = 0
  case neg =>
   rw [if_pos c2] at hg ⊢
   rw [e6 (Or.inl (by simp [JW.refuse]))]
   exact ⟨hg, hw, h.w0, rfl, h.yc, h.ec, h.free, fun _ (h8 : (10 : Int) ≤ 8) => by omega, fun _ => hno', fun _ => Or.inr rfl, fun g _ => hp0 g, fun _ (h9 : (10 : Int) ≤ 9) => by omega, fun (h2 : (10 : Int) ≤ 2) => by omega, fun _ (h9 : (10 : Int) ≤ 9) => by omega⟩
  rw [if_neg (by simpa using c2)] at hg ⊢
  rw [e6 (Or.inl (by simp only [JW.rd]; omega))]
  exact ⟨hg, hw, h.w0, rfl, h.yc, h.ec, h.free, fun (h4 : 4 ≤ j.st + 1) _ => by omega, fun _ => hno', fun g => absurd g c1, fun g (h1 : j.st + 1 = 0 ∨ j.st + 1 = 10) => by omega, fun (h2 : 2 ≤ j.st + 1) _ => by omega, fun _ => hpd, fun (h3 : 3 ≤ j.st + 1) _ => by omega⟩
 ·have hno' := hno (by omega)
  have hpd := h.pd0 (by omega)
  have hp : 0 ≤ E6 x.c j.who := by have := hoff; omega
  have hp' := hpr hp
  have e0 : D3 (H7 x.cells (E6 x.c j.who) (j.ep + 1)) 0 = D3 x.cells 0 := by rw [C0D, if_neg (by omega)]
  have e1 : D3 (H7 x.cells (E6 x.c j.who) (j.ep + 1)) (E6 x.c j.who) = j.ep + 1 := by rw [C0D, if_pos (by omega)]
  rw [show D1 1 { j with st := j.st + 1 } x = ({ j with st := j.st + 1 }, { x with cells := H7 x.cells (E6 x.c j.who) (IntKind.i64.wrap (j.ep + 1)) }, l9) from rfl, d9 (by omega) (by omega)] at hg ⊢
  rw [e6 (Or.inl (show j.st + 1 ≠ 3 by omega))]
  exact ⟨hg, hw, h.w0, rfl, h.yc, by simp only; rw [e0]; exact h.ec, h.free, fun (h4 : 4 ≤ j.st + 1) _ => by omega, fun _ => hno', fun g => by simp only at g; omega, fun g (h1 : j.st + 1 = 0 ∨ j.st + 1 = 10) => by omega, fun _ _ => e1, fun _ => hpd, fun (h3 : 3 ≤ j.st + 1) _ => by omega⟩
 ·have hno' := hno (by omega)
  have hpd := h.pd0 (by omega)
  have hp2 := h.p2 (by omega) (by omega)
  have hec := h.ec
  rw [show D1 2 { j with st := j.st + 1 } x = jw2 { j with st := j.st + 1 } x from rfl] at hg ⊢
  unfold jw2 at hg ⊢
  simp only at hg ⊢
  by_cases c1 : D3 x.cells 0 = j.ep
  ·rw [if_pos c1] at hg ⊢
   have e : pdN pd e { j with st := j.st + 1 } = j.ep + 1 := by unfold pdN; rw [if_pos ⟨show j.st + 1 = 3 by omega, hpd⟩]; omega
   simp only [e]
   exact ⟨hg, hw, h.w0, rfl, h.yc, h.ec, h.free, fun (h4 : 4 ≤ j.st + 1) _ => by omega, fun _ => hno', fun g => by have := hoff g; omega, fun g (h1 : j.st + 1 = 0 ∨ j.st + 1 = 10) => by omega, fun _ _ => hp2, fun (h2 : j.st + 1 ≤ 2) => by omega, fun _ _ => rfl⟩
  ·rw [if_neg c1] at hg ⊢
   rw [e6 (Or.inl (show (1 : Int) ≠ 3 by omega))]
   exact ⟨hg, hw, h.w0, rfl, h.yc, h.ec, h.free, fun (h4 : (4 : Int) ≤ 1) _ => by omega, fun _ => hno', fun g => by have := hoff g; omega, fun g (h1 : (1 : Int) = 0 ∨ (1 : Int) = 10) => by omega, fun (h2 : (2 : Int) ≤ 1) _ => by omega, fun _ => hpd, fun (h3 : (3 : Int) ≤ 1) _ => by omega⟩
 ·have hpd := h.pd3 (by omega) (by omega)
  have hp2 := h.p2 (by omega) (by omega)
  have hno' := hno (by omega)
  obtain ⟨s, hs2⟩ : ∃ s : Nat, j.shard = s := ⟨j.shard.toNat, by omega⟩
  have hsN : s < N := by omega
  have hf : x.own.getD s 0 = -1 := by
   refine h.free s hsN ?_
   unfold JW.ready at hr
   rw [hs, hs2, A7C (by omega)] at hr
   simpa using hr
  have hlo : U8 x.own j.shard j.who = x.own.set s j.who := by
   unfold U8; rw [if_pos (by omega), hs2, A03 (by omega), if_pos hf]
  rw [show D1 3 { j with st := j.st + 1 } x = ({ j with st := j.st + 1 }, { x with own := U8 x.own j.shard j.who }, l9) from rfl, hlo] at hg ⊢
  rw [e6 (Or.inl (show j.st + 1 ≠ 3 by omega))]
  refine ⟨hg, hw, h.w0, rfl, h.yc, h.ec, fun i hi => ?_, fun _ _ i hi => ?_, fun (hx : ¬ (4 ≤ j.st + 1 ∧ j.st + 1 ≤ 8)) => by omega, fun g => by have := hoff g; omega, fun g (h1 : j.st + 1 = 0 ∨ j.st + 1 = 10) => by omega, fun _ _ => hp2, fun (h2 : j.st + 1 ≤ 2) => by omega, fun _ _ => hpd⟩
  ·simp only
   rw [Y6 (by omega)]
   split
   ·omega
   ·exact h.free i hi
  ·simp only
   rw [Y6 (by omega), hs2]
   split
   ·rename_i hq; simp [hq]
   ·rename_i hq
    have := hno' i hi
    constructor
    ·intro g; exact absurd g this
    ·intro g; omega
 ·have hpd := h.pd3 (by omega) (by omega)
  have hp2 := h.p2 (by omega) (by omega)
  have hh := hhe (by omega) (by omega)
  rw [e6 (Or.inl (show j.st + 1 ≠ 3 by omega))]
  exact ⟨hg, hw, h.w0, rfl, h.yc, h.ec, h.free, fun _ _ => hh, fun (hx : ¬ (4 ≤ j.st + 1 ∧ j.st + 1 ≤ 8)) => by omega, fun g => by have := hoff g; omega, fun g (h1 : j.st + 1 = 0 ∨ j.st + 1 = 10) => by omega, fun _ _ => hp2, fun (h2 : j.st + 1 ≤ 2) => by omega, fun _ _ => hpd⟩
 ·have hpd := h.pd3 (by omega) (by omega)
  have hp2 := h.p2 (by omega) (by omega)
  have hh := hhe (by omega) (by omega)
  rw [e6 (Or.inl (show j.st + 1 ≠ 3 by omega))]
  exact ⟨hg, hw, h.w0, rfl, h.yc, h.ec, h.free, fun _ _ => hh, fun (hx : ¬ (4 ≤ j.st + 1 ∧ j.st + 1 ≤ 8)) => by omega, fun g => by have := hoff g; omega, fun g (h1 : j.st + 1 = 0 ∨ j.st + 1 = 10) => by omega, fun _ _ => hp2, fun (h2 : j.st + 1 ≤ 2) => by omega, fun _ _ => hpd⟩
 ·have hpd := h.pd3 (by omega) (by omega)
  have hp2 := h.p2 (by omega) (by omega)
  have hh := hhe (by omega) (by omega)
  rw [e6 (Or.inl (show j.st + 1 ≠ 3 by omega))]
  exact ⟨hg, hw, h.w0, rfl, h.yc, h.ec, h.free, fun _ _ => hh, fun (hx : ¬ (4 ≤ j.st + 1 ∧ j.st + 1 ≤ 8)) => by omega, fun g => by have := hoff g; omega, fun g (h1 : j.st + 1 = 0 ∨ j.st + 1 = 10) => by omega, fun _ _ => hp2, fun (h2 : j.st + 1 ≤ 2) => by omega, fun _ _ => hpd⟩
 ·have hpd := h.pd3 (by omega) (by omega)
  have hp2 := h.p2 (by omega) (by omega)
  have hh := hhe (by omega) (by omega)
  rw [e6 (Or.inl (show j.st + 1 ≠ 3 by omega))]
  exact ⟨hg, hw, h.w0, rfl, h.yc, h.ec, h.free, fun _ _ => hh, fun (hx : ¬ (4 ≤ j.st + 1 ∧ j.st + 1 ≤ 8)) => by omega, fun g => by have := hoff g; omega, fun g (h1 : j.st + 1 = 0 ∨ j.st + 1 = 10) => by omega, fun _ _ => hp2, fun (h2 : j.st + 1 ≤ 2) => by omega, fun _ _ => hpd⟩
 ·have hpd := h.pd3 (by omega) (by omega)
  have hp2 := h.p2 (by omega) (by omega)
  have hh := hhe (by omega) (by omega)
  obtain ⟨s, hs2⟩ : ∃ s : Nat, j.shard = s := ⟨j.shard.toNat, by omega⟩
  have hsN : s < N := by omega
  have hf : x.own.getD s 0 = j.who := (hh s hsN).2 hs2.symm
  have hlo : M8 x.own j.shard j.who = x.own.set s (-1) := by
   unfold M8; rw [if_pos (by omega), hs2, A03 (by omega), if_pos hf]
  rw [show D1 8 { j with st := j.st + 1 } x = ({ j with st := j.st + 1 }, { x with own := M8 x.own j.shard j.who }, l9) from rfl, hlo] at hg ⊢
  rw [e6 (Or.inl (show j.st + 1 ≠ 3 by omega))]
  refine ⟨hg, hw, h.w0, rfl, h.yc, h.ec, fun i hi => ?_, fun _ (h8 : j.st + 1 ≤ 8) => by omega, fun _ i hi => ?_, fun g => by have := hoff g; omega, fun g (h1 : j.st + 1 = 0 ∨ j.st + 1 = 10) => by omega, fun _ _ => hp2, fun (h2 : j.st + 1 ≤ 2) => by omega, fun _ _ => hpd⟩
  ·simp only
   rw [Y6 (by omega)]
   split
   ·intro; rfl
   ·exact h.free i hi
  ·simp only
   rw [Y6 (by omega)]
   split
   ·omega
   ·rename_i hq
    intro g
    have := (hh i hi).1 g
    omega
 ·have hpd := h.pd3 (by omega) (by omega)
  have hno' := hno (by omega)
  have e0 : D3 (H7 x.cells (E6 x.c j.who) 0) 0 = D3 x.cells 0 := Z1 _ _ _ _ _ (Or.inl rfl)
  rw [show D1 9 { j with st := j.st + 1 } x = ({ j with st := j.st + 1 }, { x with cells := H7 x.cells (E6 x.c j.who) 0 }, false, true, false) from rfl] at hg ⊢
  rw [e6 (Or.inl (show j.st + 1 ≠ 3 by omega))]
  exact ⟨hg, hw, h.w0, rfl, h.yc, by simp only; rw [e0]; exact h.ec, h.free, fun _ (h8 : j.st + 1 ≤ 8) => by omega, fun _ => hno', fun _ => Or.inr (show j.st + 1 = 10 by omega), fun g _ => by simp only; rw [A1D, if_pos (by have := hpr g; omega)], fun _ (h9 : j.st + 1 ≤ 9) => by omega, fun (h2 : j.st + 1 ≤ 2) => by omega, fun _ (h9 : j.st + 1 ≤ 9) => by omega⟩
theorem PinJ.step {N E : Nat} {who pd e : Int} {j : JW} {x : WS} {y : XS} (h : PinJ N E who pd e j x y) (hE : E ≤ 1000) : PinJ N E who (pdN pd e (j.step x).1) e (j.step x).1 (j.step x).2.1 { y with locks := (j.step x).2.1.own } := by
 cases hr : j.ready x with
 | false =>
  rw [A7g hr]
  have e1 : pdN pd e j = pd := by
   by_cases c : j.st = 3
   ·have h1 := h.pd3 (by omega) (by omega)
    have h2 := h.g.jep
    exact e6 (Or.inr (by omega))
   ·exact e6 (Or.inl c)
  simp only [e1]
  exact ⟨h.g, h.hwho, h.w0, rfl, h.yc, h.ec, h.free, h.held, h.none, h.off, h.p0, h.p2, h.pd0, h.pd3⟩
 | true =>
  have hs := h.g.st
  have hl := A8A hr
  rw [u7 hr]
  exact h.stage hE _ (by omega) (by omega) hr
theorem PinJ.put {N E E' : Nat} {who pd e e' : Int} {j : JW} {x x' : WS} {y y' : XS} (h : PinJ N E who pd e j x y) (hg : GI N E' j x') (hc : x'.c = x.c) (hy : y'.c = x.c) (hl : y'.locks = x'.own) (he : D3 x'.cells 0 = e')
  (hp : 0 ≤ E6 x.c who → D3 x'.cells (E6 x.c who) = D3 x.cells (E6 x.c who))
  (ho : ∀ i, i < N → x'.own.getD i 0 = x.own.getD i 0 ∨ (x.own.getD i 0 ≠ who ∧ x'.own.getD i 0 ≠ who ∧ (x'.own.getD i 0 < 0 → x'.own.getD i 0 = -1))) : PinJ N E' who pd e' j x' y' := by
 have hoff := h.off
 have hw0 := h.w0
 refine ⟨hg, h.hwho, h.w0, hl, by rw [hy, hc], he, fun i hi hf => ?_, fun h4 h8 i hi => ?_, fun hx i hi => ?_, by rw [hc]; exact h.off, by rw [hc]; exact fun g g2 => by rw [hp g]; exact h.p0 g g2, by rw [hc]; exact fun g g2 => by rw [hp (by omega)]; exact h.p2 g g2, h.pd0, h.pd3⟩
 ·rcases ho i hi with ho | ho
  ·rw [ho] at hf ⊢; exact h.free i hi hf
  ·exact ho.2.2 hf
 ·have := h.held h4 h8 i hi
  rcases ho i hi with ho | ho
  ·rw [ho]; exact this
  ·constructor
   ·intro g; exact absurd g ho.2.1
   ·intro g; exact absurd (this.2 g) ho.1
 ·have := h.none hx i hi
  rcases ho i hi with ho | ho
  ·rw [ho]; exact this
  ·exact ho.2.1
theorem C3v (a : ActV) (y : XS) : (T7 a y).c = y.c := by
 unfold T7
 repeat' split
 all_goals rfl
theorem PinJ.hap {N E : Nat} {who pd e : Int} {j : JW} {x : WS} {y : XS} (h : PinJ N E who pd e j x y) (hE : E ≤ 1000) (a : ActV) (hcs : x.c.sl ≤ 8) :
  PinJ N (E + 1) who pd (if a.k = 1 then e + 1 else e) j (Q6 a x y) { T7 a y with locks := (Q6 a x y).own } := by
 have hg := h.g.hap hE a y h.yc hcs
 have hyc := h.yc
 have hlk := h.lk
 have hsh := h.g.sh
 have how := h.g.ow
 have hw0 := h.w0
 have hwk := h.g.ok.wk
 have hcl := h.g.ok.cells
 have hep := h.g.ep
 have hec := h.ec
 have hpr : 0 ≤ E6 x.c who → 2 ≤ E6 x.c who ∧ E6 x.c who < x.cells.length := by unfold E6; intro h1; split at h1 <;> split <;> omega
 have hy : ({ T7 a y with locks := (Q6 a x y).own } : XS).c = x.c := by show (T7 a y).c = x.c; rw [C3v, hyc]
 have hu : GI N (E + 1) j x := { h.g with ep := by omega, jep := by have := h.g.jep; omega }
 generalize hX : T7 a y = y' at *
 have same : ∀ i, i < N → x.own.getD i 0 = x.own.getD i 0 ∨ (x.own.getD i 0 ≠ who ∧ x.own.getD i 0 ≠ who ∧ (x.own.getD i 0 < 0 → x.own.getD i 0 = -1)) := fun i _ => Or.inl rfl
 unfold Q6 at hg hy ⊢
 by_cases k1 : a.k = 1
 ·rw [if_pos k1] at hg hy ⊢
  rw [if_pos k1]
  have e0 : D3 (H7 x.cells 0 (IntKind.i64.wrap (D3 x.cells 0 + 1))) 0 = D3 x.cells 0 + 1 := by
   rw [A1D, if_pos (by omega)]; exact d9 (by omega) (by omega)
  exact h.put hg rfl hy rfl (by simp only; rw [e0, hec]) (fun g => m8 _ _ (by have := hpr g; omega)) same
 rw [if_neg k1] at hg hy ⊢
 rw [if_neg k1]
 by_cases k2 : a.k = 2
 ·rw [if_pos k2] at hg hy ⊢
  by_cases c : (0 ≤ a.n ∧ a.n < y.c.sh) ∧ y.locks.getD a.n.toNat 0 < 0
  case neg => rw [if_neg c] at hg hy ⊢; exact h.put hg rfl hy rfl hec (fun _ => rfl) same
  rw [if_pos c] at hg hy ⊢
  obtain ⟨n, hn⟩ : ∃ n : Nat, a.n = n := ⟨a.n.toNat, by omega⟩
  rw [hn, hyc, hsh, hlk, Int.toNat_natCast] at c
  have hnN : n < N := by omega
  have hf := h.free n hnN c.2
  have hlo : U8 x.own a.n 99 = x.own.set n 99 := by
   unfold U8; rw [if_pos (by omega), hn, A03 (by omega), if_pos hf]
  rw [hlo] at hg hy ⊢
  refine h.put hg rfl hy rfl hec (fun _ => rfl) fun i hi => ?_
  simp only
  rw [Y6 (by omega)]
  by_cases d : n = i
  ·subst d; rw [if_pos rfl, hf]; right; omega
  ·rw [if_neg d]; exact Or.inl rfl
 rw [if_neg k2] at hg hy ⊢
 by_cases k3 : a.k = 3
 ·rw [if_pos k3] at hg hy ⊢
  by_cases c : (0 ≤ a.n ∧ a.n < y.c.sh) ∧ y.locks.getD a.n.toNat 0 = 99
  case neg => rw [if_neg c] at hg hy ⊢; exact h.put hg rfl hy rfl hec (fun _ => rfl) same
  rw [if_pos c] at hg hy ⊢
  obtain ⟨n, hn⟩ : ∃ n : Nat, a.n = n := ⟨a.n.toNat, by omega⟩
  rw [hn, hyc, hsh, hlk, Int.toNat_natCast] at c
  have hnN : n < N := by omega
  have hlo : M8 x.own a.n 99 = x.own.set n (-1) := by
   unfold M8; rw [if_pos (by omega), hn, A03 (by omega), if_pos c.2]
  rw [hlo] at hg hy ⊢
  refine h.put hg rfl hy rfl hec (fun _ => rfl) fun i hi => ?_
  simp only
  rw [Y6 (by omega)]
  by_cases d : n = i
  ·subst d; rw [if_pos rfl, c.2]; right; omega
  ·rw [if_neg d]; exact Or.inl rfl
 rw [if_neg k3] at hg hy ⊢
 by_cases k4 : a.k = 4
 ·rw [if_pos k4] at hg hy ⊢; exact h.put hg rfl hy rfl hec (fun _ => rfl) same
 rw [if_neg k4] at hg hy ⊢
 by_cases k5 : a.k = 5
 ·rw [if_pos k5] at hg hy ⊢; exact h.put hg rfl hy rfl hec (fun _ => rfl) same
 rw [if_neg k5] at hg hy ⊢
 by_cases k6 : a.k = 6
 ·rw [if_pos k6] at hg hy ⊢
  by_cases c : -1 ≤ a.n ∧ a.n < y.c.sl
  case neg => rw [if_neg c] at hg hy ⊢; exact h.put hg rfl hy rfl hec (fun _ => rfl) same
  rw [if_pos c] at hg hy ⊢
  exact h.put hg rfl hy rfl (by simp only; rw [m8 _ _ (by omega)]; exact hec) (fun g => m8 _ _ (by have := hpr g; omega)) same
 rw [if_neg k6] at hg hy ⊢
 by_cases k7 : a.k = 7
 ·rw [if_pos k7] at hg hy ⊢; exact h.put hg rfl hy rfl hec (fun _ => rfl) same
 rw [if_neg k7] at hg hy ⊢; exact h.put hg rfl hy rfl hec (fun _ => rfl) same
theorem B0U : TabOk 0 ([] : List EnV) := ⟨rfl, by omega, fun x hx => by simp at hx, by decide +kernel⟩
theorem GI.new {c : CfgV} (hok : M1 c = true) (who : Int) (text : ByteArray) (ht : text.size ≤ 100) : GI c.sh.toNat 0 (E7 who text) (K1 c) := by
 have hw := C28 hok
 simp only [M1, Y7, Bool.and_eq_true, decide_eq_true_eq] at hok
 have e0 : D3 (K1 c).cells 0 = 0 := A2m _ _
 have e1 : D3 (K1 c).cells 1 = 0 := A2m _ _
 refine ⟨hw, by omega, by show c.sh = _; omega, by simp [K1], fun t h => ?_, by simp [K1], by simp [K1], Or.inl B0U, by rw [e0]; omega, by rw [e1]; omega, by simp [K1], ht, by simp [E7, H4], by simp only [E7]; omega, by simp [E7], by simp [E7], by simp [E7], fun h => by simp [E7] at h⟩
 rw [(List.mem_replicate.1 (show t ∈ List.replicate c.sh.toNat (newE c.cp.toNat) from h)).2]
 exact TabOk.new (n := c.cp.toNat) (by omega)
structure XI (E : Nat) (y : XS) : Prop where
 sh : 1 ≤ y.c.sh ∧ y.c.sh ≤ 16
 csl : y.c.sl ≤ 8
 now : 0 ≤ y.now ∧ y.now ≤ 1000000000
 locks : (y.locks.length : Int) = y.c.sh
 sl : y.sl.length ≤ 8
 ep : 0 ≤ y.ep ∧ y.ep ≤ E
theorem C3T (l : List Y9) (i : Int) (p : List E9) (x : Option Addr × Nat × Nat) : (A0n l i p x).length = l.length := by unfold A0n; split; exact A51 _ _ _; rfl
theorem XI.hap {E : Nat} {y : XS} (h : XI E y) (a : ActV) : XI (E + 1) (T7 a y) := by
 have hep := h.ep
 have up : XI (E + 1) y := { h with ep := by omega }
 unfold T7
 split
 ·exact { up with ep := by simp only; omega }
 split
 ·split
  ·exact { up with locks := by simp only [List.length_set]; exact h.locks }
  ·exact up
 split
 ·split
  ·exact { up with locks := by simp only [List.length_set]; exact h.locks }
  ·exact up
 split
 ·refine { up with sl := ?_ }
  simp only
  split
  ·rw [C3T, show (U2 y.sl a.n).length = y.sl.length from A51 _ _ _]; exact h.sl
  ·exact h.sl
 split
 ·exact { up with sl := by simp only; rw [show (r9 y.sl a.n).length = y.sl.length from A51 _ _ _]; exact h.sl }
 split
 ·split
  ·exact { up with }
  ·exact up
 split
 ·exact { up with now := B81 h.now }
 ·exact up
theorem XI.lk {E : Nat} {y : XS} (h : XI E y) {l : List Int} (hl : (l.length : Int) = y.c.sh) : XI E { y with locks := l } := { h with locks := hl }
end Go.Proofs.YtjobgnabneddjaaGreat
namespace Go.Proofs.YtjobgnabneddjaaGreat
open Go
abbrev JA := JW × Value × WoG × S7
def Y5 (b : Nat) (m : WoH) (a : JA) : List Res := F7 b a.1 a.2.1 (m.ug a.2.2.1) a.2.2.2
def r7 (m : WoH) (a : JA) : WS := (m.ug a.2.2.1).ws
structure JsC (cp : Nat) (a : JA) : Prop where
 tab : ∀ t ∈ a.2.2.2, TabOk 0 t.2 ∨ TabOk cp t.2
 sub : A2p a.2.2.1.ts a.2.2.2
 tb : (a.2.1, a.1.table) ∈ a.2.2.2
theorem JsC.ok {N E : Nat} {m : WoH} {a : JA} {cp : Nat} (h : JsC cp a) (hE : E ≤ 1000) (hg : GI N E a.1 (r7 m a)) (hcp : (r7 m a).c.cp.toNat = cp) : JwOk a.1 a.2.1 (m.ug a.2.2.1) a.2.2.2 := by
 obtain ⟨j, tv, d, P⟩ := a
 have hts : d.ts.length = N := by have := hg.tl; simpa [r7, WoH.ws, WoH.ug] using this
 have hn := hg.n
 have hpl : d.pl.length = N := hg.pl
 have how : d.own.length = N := hg.ow
 have hsh : m.c.sh = (N : Nat) := hg.sh
 have htx : j.text.size ≤ 100 := hg.text
 have hsl : -1 ≤ j.slot ∧ j.slot ≤ 500 := hg.slot
 have hsd : 0 ≤ j.shard ∧ j.shard < N := hg.shard
 have h0 : 0 ≤ D3 d.cells 0 ∧ D3 d.cells 0 ≤ E := hg.ep
 have h1 : 0 ≤ D3 d.cells 1 ∧ D3 d.cells 1 ≤ 500 := hg.cur
 have key : ∀ t : List EnV, TabOk 0 t ∨ TabOk cp t → N0 t ∧ t.length ≤ 64 := fun t ht => by
  rcases ht with ht | ht
  ·exact ⟨ht.keys, by rw [ht.len]; omega⟩
  ·exact ⟨ht.keys, by rw [ht.len]; exact ht.few⟩
 have hjt := key _ (h.tab _ h.tb)
 simp only at hjt
 refine ⟨hg.ok, ⟨by show d.ts.length ≤ _; omega, by show d.pl.length = d.ts.length; omega, fun t ht => ?_, fun t ht => (key _ (h.tab _ (h.sub _ ht))).1, by show d.own.length ≤ _; omega, h.sub⟩, h.tb, by show (d.ts.length : Int) = m.c.sh; omega, by show j.text.size < _; omega, hg.key, by show 0 ≤ j.shard ∧ j.shard < (d.ts.length : Int); omega, hjt.1, by show j.table.length ≤ _; omega, by show -1 ≤ j.slot ∧ j.slot ≤ _; omega, by show 0 ≤ D3 d.cells 0 ∧ D3 d.cells 0 ≤ _; omega, by show 0 ≤ D3 d.cells 1 ∧ D3 d.cells 1 ≤ _; omega⟩
 have := (key _ (h.tab _ (h.sub _ ht))).2; omega
def WoG.uz (d : WoG) (z : WoZ) : WoG := { d with cn := z.cn, cells := z.cells, own := z.own, tv := z.tv, ts := z.ts }
theorem C2S {N E : Nat} (w' : World) (b : Nat) (m : WoH) (a : JA) (cp : Nat) (hc : JsC cp a) (hE : E ≤ 1000) (hg : GI N E a.1 (r7 m a)) (hcp : (r7 m a).c.cp.toNat = cp) (hs : LW false (B6 (Y5 b m a)) w' (Y5 b m a) w') :
  Fn PR C0 20 #[.pointer (some ⟨b, 0, none⟩), .pointer (some ⟨m.b, 0, none⟩)] w' (Rn (B6 (Y5 b m a)) w' (fun (a' : JA) u => u = N1 (a.1.step (r7 m a)).2.2 ∧ a'.1 = (a.1.step (r7 m a)).1 ∧ r7 m a' = (a.1.step (r7 m a)).2.1 ∧ JsC cp a' ∧ A2p a.2.2.2 a'.2.2.2) (Y5 b m)) := by
 have hg' := hg.step
 obtain ⟨j, tv, d, P⟩ := a
 refine (B56 w' b j tv (m.ug d) P (hc.ok hE hg hcp) hg.st hs).mono fun u w'' hr => ?_
 obtain ⟨y, ⟨h1, h2, h3, h4, h5⟩, h6⟩ := hr
 have e2 : r7 m ((j.step (m.ug d).ws).1, y.1, d.uz y.2.1, y.2.2) = (j.step (m.ug d).ws).2.1 := h2
 refine ⟨((j.step (m.ug d).ws).1, y.1, d.uz y.2.1, y.2.2), ⟨h1, rfl, e2, ⟨fun t ht => ?_, h3, h4⟩, h5.1⟩, h6⟩
 rcases h5.2 t ht with h | h
 ·exact hc.tab t h
 ·rw [h]
  have hj := hg'.jt
  have ec : (j.step (m.ug d).ws).2.1.c.cp.toNat = cp := by rw [← e2]; exact hcp
  rw [show r7 m (j, tv, d, P) = (m.ug d).ws from rfl, ec] at hj
  exact hj
theorem D4y {N E : Nat} {S : List Nat} {w0 : World} {H Hk : List Res} {X : Nat → Prop} {K : Value → WP} (b : Nat) (m : WoH) (a : JA) (cp : Nat) (hc : JsC cp a) (hE : E ≤ 1000) (hg : GI N E a.1 (r7 m a)) (hcp : (r7 m a).c.cp.toNat = cp) (hs : Sels (Y5 b m a ++ Hk) H)
  (hK : ∀ a' : JA, a'.1 = (a.1.step (r7 m a)).1 → r7 m a' = (a.1.step (r7 m a)).2.1 → JsC cp a' → A2p a.2.2.2 a'.2.2.2 → TW false S w0 (Y5 b m a' ++ Hk) (K (N1 (a.1.step (r7 m a)).2.2))) :
  TW false S w0 H (B5 PR X 20 [.pointer (some ⟨b, 0, none⟩), .pointer (some ⟨m.b, 0, none⟩)] K) := by
 refine Sels.tw hs ?_
 refine D0 (Hc := Y5 b m a) (Hk := Hk) s7 (fun w' hw' hs => C2S w' b m a cp hc hE hg hcp hs) (B3C _ _) ?_
 rintro a' v ⟨rfl, k1, k2, k3, k4⟩
 exact hK a' k1 k2 k3 k4
theorem GI.hapOk {N E : Nat} {j : JW} {m : WoH} {x : XH} {a : ActV} (hg : GI N E j m.ws) (hx : XI E x.xs) (hE : E ≤ 1000) (hls : m.ls.length ≤ 8) (ha : a.pool.length ≤ 8) : HapOk m x a := by
 have h1 : m.cells.length = _ := hg.ok.cells
 have h2 := hg.ok.wk
 have h3 : m.own.length = N := hg.ow
 have h4 := hg.n
 exact ⟨by omega, by omega, hls, hg.now, hx.now, hx.locks, hx.sh.2, hx.csl, hx.sl, by have := hx.ep; show 0 ≤ x.xs.ep ∧ x.xs.ep ≤ _; omega, by omega⟩
end Go.Proofs.YtjobgnabneddjaaGreat
namespace Go.Proofs.YtjobgnabneddjaaGreat
open Go
theorem GI.mix {N E : Nat} {j k : JW} {x x' : WS} (h : GI N E k x) (g : GI N E j x') (hc : x'.c = x.c) : GI N E k x' :=
 { ok := g.ok, n := g.n, sh := g.sh, tl := g.tl, te := g.te, pl := g.pl, ow := g.ow, jt := by rw [hc]; exact h.jt, ep := g.ep, cur := g.cur, now := g.now, text := h.text, key := h.key, shard := h.shard, slot := h.slot, st := h.st, jep := h.jep, jt2 := by rw [hc]; exact h.jt2 }
def G8 (j : JW) : Prop := 4 ≤ j.st ∧ j.st ≤ 8
def dn (j : JW) : Nat := if 8 ≤ j.st then 1 else 0
structure OwnT (c : CfgV) (text : ByteArray) (s : Nat) (a : Int) (j : JW) : Prop where
 who : j.who = a
 txt : j.text = text
 pin : 0 ≤ E6 c a
 a0 : 0 ≤ a
 rd : 1 ≤ j.st → j.key = P9 (B2 text).1 ∧ j.shard = (s : Nat) ∧ j.closing = false
 sl : 5 ≤ j.st → j.slot = 0 ∧ j.now = 0
structure WldT (c : CfgV) (p : List E9) (s N : Nat) (x : WS) : Prop where
 cc : x.c = c
 cur : D3 x.cells 1 = 1
 now : x.now = 0
 sl : K8 x.sl 0 = .rdy p
 oth : ∀ i, i < N → i ≠ s → x.tabs.getD i [] = newE c.cp.toNat
structure Two (N : Nat) (c : CfgV) (p : List E9) (text : ByteArray) (s : Nat) (T : Nat → List EnV) (A : Nat → AnsV) (a b : Int) (j k : JW) (x : WS) : Prop where
 gj : GI N 0 j x
 gk : GI N 0 k x
 w : WldT c p s N x
 oj : OwnT c text s a j
 ok : OwnT c text s b k
 own1 : G8 j → x.own.getD s 0 = a
 own2 : G8 k → x.own.getD s 0 = b
 own3 : ¬ G8 j → ¬ G8 k → x.own.getD s 0 = -1
 excl : G8 j → ¬ G8 k
 tab : x.tabs.getD s [] = T (dn j + dn k)
 lj : j.st = 6 → j.table = x.tabs.getD s []
 lk : k.st = 6 → k.table = x.tabs.getD s []
 dj : j.st = 7 → j.table = T (dn k + 1) ∧ j.ans = A (dn k)
 dk : k.st = 7 → k.table = T (dn j + 1) ∧ k.ans = A (dn j)
 aj : 8 ≤ j.st → k.st < 8 → j.ans = A 0
 ak : 8 ≤ k.st → j.st < 8 → k.ans = A 0
 ab : 8 ≤ j.st → 8 ≤ k.st → (j.ans = A 0 ∧ k.ans = A 1) ∨ (j.ans = A 1 ∧ k.ans = A 0)
theorem Two.swap {N : Nat} {c : CfgV} {p : List E9} {text : ByteArray} {s : Nat} {T : Nat → List EnV} {A : Nat → AnsV} {a b : Int} {j k : JW} {x : WS} (h : Two N c p text s T A a b j k x) : Two N c p text s T A b a k j x :=
 ⟨h.gk, h.gj, h.w, h.ok, h.oj, h.own2, h.own1, fun g1 g2 => h.own3 g2 g1, fun g1 g2 => h.excl g2 g1, by rw [Nat.add_comm]; exact h.tab, h.lk, h.lj, h.dk, h.dj, h.ak, h.aj, fun g1 g2 => (h.ab g2 g1).elim (fun g => Or.inr ⟨g.2, g.1⟩) (fun g => Or.inl ⟨g.2, g.1⟩)⟩
structure TwoOk (N : Nat) (c : CfgV) (p : List E9) (text : ByteArray) (s : Nat) (T : Nat → List EnV) (A : Nat → AnsV) : Prop where
 good : (B2 text).2.2 = 0
 cl : M3 (B2 text).1 (B2 text).2.1 = false
 sd : L7 (P9 (B2 text).1) c.sh = s
 sN : s < N
 tT : ∀ n, T (n + 1) = (D4 (T n) p (P9 (B2 text).1) false 0 c.idle).1
 tA : ∀ n, A n = (D4 (T n) p (P9 (B2 text).1) false 0 c.idle).2.1
theorem Two.stage {N : Nat} {c : CfgV} {p : List E9} {text : ByteArray} {s : Nat} {T : Nat → List EnV} {A : Nat → AnsV} {a b : Int} {j k : JW} {x : WS} (h : Two N c p text s T A a b j k x) (ht : TwoOk N c p text s T A) (hab : a ≠ b) (q : Nat) (hq : q < 10) (hs : j.st = (q : Nat)) (hr : j.ready x = true) :
  Two N c p text s T A a b (D1 q { j with st := j.st + 1 } x).1 k (D1 q { j with st := j.st + 1 } x).2.1 ∧ (D1 q { j with st := j.st + 1 } x).1.st = j.st + 1 := by
 have hw := h.oj.who
 subst hw
 have htx := h.oj.txt
 subst htx
 have hc := h.w.cc
 subst hc
 have hw : j.who = j.who := rfl
 have htx : j.text = j.text := rfl
 have hc : x.c = x.c := rfl
 have hg := h.gj.stage q hq hs
 have hcase : q = 0 ∨ q = 1 ∨ q = 2 ∨ q = 3 ∨ q = 4 ∨ q = 5 ∨ q = 6 ∨ q = 7 ∨ q = 8 ∨ q = 9 := by omega
 have hn := h.gj.n
 have hpin := h.oj.pin
 have ha0 := h.oj.a0
 have hb0 := h.ok.a0
 have hwk := h.gj.ok.wk
 have hcl := h.gj.ok.cells
 have how := h.gj.ow
 have hep := h.gj.ep
 have hjep := h.gj.jep
 have htl := h.gj.tl
 have hsN := ht.sN
 have hex := h.excl
 have hpr : 2 ≤ E6 x.c j.who ∧ E6 x.c j.who < x.cells.length := by unfold E6 at hpin ⊢; split at hpin <;> split <;> omega
 have c0 : ¬ (8 : Int) ≤ j.st → dn j = 0 := fun g => if_neg g
 rcases hcase with rfl | rfl | rfl | rfl | rfl | rfl | rfl | rfl | rfl | rfl
 ·have ncj : ¬ G8 j := by unfold G8; omega
  have hdj := c0 (by omega)
  rw [show D1 0 { j with st := j.st + 1 } x = jw0 { j with st := j.st + 1 } x from rfl] at hg ⊢
  unfold jw0 at hg ⊢
  simp only at hg ⊢
  rw [if_neg (by omega), if_neg (by simp [ht.good])] at hg ⊢
  have ncj' : ∀ j' : JW, j'.st = j.st + 1 → ¬ G8 j' := fun j' e => by unfold G8; omega
  have hdj' : ∀ j' : JW, j'.st = j.st + 1 → dn j' = 0 := fun j' e => if_neg (by omega)
  refine ⟨?_, rfl⟩
  obtain ⟨j', hj'⟩ : ∃ j', j' = ({ ({ j with st := j.st + 1 } : JW).rd x.c.sh with ep := D3 x.cells 0 } : JW) := ⟨_, rfl⟩
  rw [← hj'] at hg ⊢
  have e1 : j'.st = j.st + 1 := by rw [hj']; rfl
  have hg : GI N 0 j' x := hg
  show Two N x.c p j.text s T A j.who b j' k x
  refine { gj := hg, gk := h.gk, w := h.w, oj := ⟨by rw [hj']; exact hw, by rw [hj']; exact htx, hpin, ha0, fun _ => by rw [hj']; exact ⟨rfl, by simp only [JW.rd]; rw [ht.sd], ht.cl⟩, fun g => by omega⟩, ok := h.ok, own1 := fun g => absurd g (ncj' _ e1), own2 := h.own2, own3 := fun _ g2 => h.own3 ncj g2, excl := fun g => absurd g (ncj' _ e1), tab := by rw [hdj' _ e1, ← hdj]; exact h.tab, lj := fun g => by omega, lk := h.lk, dj := fun g => by omega, dk := fun g => by rw [hdj' _ e1, ← hdj]; exact h.dk g, aj := fun g => by omega, ak := fun g _ => h.ak g (by omega), ab := fun g => by omega }
 ·have ncj : ¬ G8 j := by unfold G8; omega
  have hdj := c0 (by omega)
  have ncj' : ¬ G8 { j with st := j.st + 1 } := by unfold G8; simp only; omega
  have hdj' : dn { j with st := j.st + 1 } = 0 := if_neg (by simp only; omega)
  have e1 : D3 (H7 x.cells (E6 x.c j.who) (IntKind.i64.wrap (j.ep + 1))) 1 = D3 x.cells 1 := Z1 _ _ _ _ _ (Or.inr rfl)
  rw [show D1 1 { j with st := j.st + 1 } x = ({ j with st := j.st + 1 }, { x with cells := H7 x.cells (E6 x.c j.who) (IntKind.i64.wrap (j.ep + 1)) }, l9) from rfl] at hg ⊢
  refine ⟨?_, rfl⟩
  exact { gj := hg, gk := h.gk.mix hg rfl, w := ⟨hc, by simp only; rw [e1]; exact h.w.cur, h.w.now, h.w.sl, h.w.oth⟩, oj := ⟨hw, htx, hpin, ha0, fun _ => h.oj.rd (by omega), fun (g : 5 ≤ j.st + 1) => by omega⟩, ok := h.ok, own1 := fun g => absurd g ncj', own2 := h.own2, own3 := fun _ g2 => h.own3 ncj g2, excl := fun g => absurd g ncj', tab := by rw [hdj', ← hdj]; exact h.tab, lj := fun (g : j.st + 1 = 6) => by omega, lk := h.lk, dj := fun (g : j.st + 1 = 7) => by omega, dk := fun g => by rw [hdj', ← hdj]; exact h.dk g, aj := fun (g : 8 ≤ j.st + 1) => by omega, ak := fun g _ => h.ak g (by omega), ab := fun (g : 8 ≤ j.st + 1) => by omega }
 ·have ncj : ¬ G8 j := by unfold G8; omega
  have hdj := c0 (by omega)
  have ncj' : ¬ G8 { j with st := j.st + 1 } := by unfold G8; simp only; omega
  have hdj' : dn { j with st := j.st + 1 } = 0 := if_neg (by simp only; omega)
  rw [show D1 2 { j with st := j.st + 1 } x = jw2 { j with st := j.st + 1 } x from rfl] at hg ⊢
  unfold jw2 at hg ⊢
  rw [if_pos (show D3 x.cells 0 = j.ep by omega)] at hg ⊢
  refine ⟨?_, rfl⟩
  exact { gj := hg, gk := h.gk, w := h.w, oj := ⟨hw, htx, hpin, ha0, fun _ => h.oj.rd (by omega), fun (g : 5 ≤ j.st + 1) => by omega⟩, ok := h.ok, own1 := fun g => absurd g ncj', own2 := h.own2, own3 := fun _ g2 => h.own3 ncj g2, excl := fun g => absurd g ncj', tab := by rw [hdj', ← hdj]; exact h.tab, lj := fun (g : j.st + 1 = 6) => by omega, lk := h.lk, dj := fun (g : j.st + 1 = 7) => by omega, dk := fun g => by rw [hdj', ← hdj]; exact h.dk g, aj := fun (g : 8 ≤ j.st + 1) => by omega, ak := fun g _ => h.ak g (by omega), ab := fun (g : 8 ≤ j.st + 1) => by omega }
 ·have ncj : ¬ G8 j := by unfold G8; omega
  have hdj := c0 (by omega)
  have cj' : G8 { j with st := j.st + 1 } := by unfold G8; simp only; omega
  have hdj' : dn { j with st := j.st + 1 } = 0 := if_neg (by simp only; omega)
  have hsh := (h.oj.rd (by omega)).2.1
  have hf : x.own.getD s 0 < 0 := by
   unfold JW.ready at hr
   rw [hs, hsh, A7C (by omega)] at hr
   simpa using hr
  have nck : ¬ G8 k := fun g => by have := h.own2 g; omega
  have hf := h.own3 ncj nck
  have hlo : U8 x.own j.shard j.who = x.own.set s j.who := by
   unfold U8; rw [if_pos (by omega), hsh, A03 (by omega), if_pos hf]
  rw [show D1 3 { j with st := j.st + 1 } x = ({ j with st := j.st + 1 }, { x with own := U8 x.own j.shard j.who }, l9) from rfl, hlo] at hg ⊢
  refine ⟨?_, rfl⟩
  exact { gj := hg, gk := h.gk.mix hg rfl, w := ⟨hc, h.w.cur, h.w.now, h.w.sl, h.w.oth⟩, oj := ⟨hw, htx, hpin, ha0, fun _ => h.oj.rd (by omega), fun (g : 5 ≤ j.st + 1) => by omega⟩, ok := h.ok, own1 := fun _ => by simp only; rw [Y6 (by omega), if_pos rfl], own2 := fun g => absurd g nck, own3 := fun g => absurd cj' g, excl := fun _ => nck, tab := by rw [hdj', ← hdj]; exact h.tab, lj := fun (g : j.st + 1 = 6) => by omega, lk := h.lk, dj := fun (g : j.st + 1 = 7) => by omega, dk := fun g => by rw [hdj', ← hdj]; exact h.dk g, aj := fun (g : 8 ≤ j.st + 1) => by omega, ak := fun g _ => h.ak g (by omega), ab := fun (g : 8 ≤ j.st + 1) => by omega }
 ·have cj : G8 j := by unfold G8; omega
  have hdj := c0 (by omega)
  have nck := hex cj
  have hz : IntKind.i64.wrap (D3 x.cells 1 - 1) = 0 := by rw [h.w.cur]; rfl
  rw [show D1 4 { j with st := j.st + 1 } x = ({ j with st := j.st + 1, slot := IntKind.i64.wrap (D3 x.cells 1 - 1), now := x.now }, x, true, false, false) from rfl, hz, h.w.now] at hg ⊢
  refine ⟨?_, rfl⟩
  have hdj' : ∀ (sl nw : Int), dn { j with st := j.st + 1, slot := sl, now := nw } = 0 := fun _ _ => if_neg (by simp only; omega)
  exact { gj := hg, gk := h.gk, w := h.w, oj := ⟨hw, htx, hpin, ha0, fun _ => h.oj.rd (by omega), fun _ => ⟨rfl, rfl⟩⟩, ok := h.ok, own1 := fun _ => h.own1 cj, own2 := fun g => absurd g nck, own3 := fun g => absurd (show G8 _ from ⟨show 4 ≤ j.st + 1 by omega, show j.st + 1 ≤ 8 by omega⟩) g, excl := fun _ => nck, tab := by rw [hdj', ← hdj]; exact h.tab, lj := fun (g : j.st + 1 = 6) => by omega, lk := h.lk, dj := fun (g : j.st + 1 = 7) => by omega, dk := fun g => by rw [hdj', ← hdj]; exact h.dk g, aj := fun (g : 8 ≤ j.st + 1) => by omega, ak := fun g _ => h.ak g (by omega), ab := fun (g : 8 ≤ j.st + 1) => by omega }
 ·have cj : G8 j := by unfold G8; omega
  have hdj := c0 (by omega)
  have nck := hex cj
  have hsh := (h.oj.rd (by omega)).2.1
  have e5 : x.tabs.getD j.shard.toNat [] = x.tabs.getD s [] := by rw [hsh, Int.toNat_natCast]
  rw [show D1 5 { j with st := j.st + 1 } x = ({ j with st := j.st + 1, table := x.tabs.getD j.shard.toNat [] }, x, l9) from rfl, e5] at hg ⊢
  refine ⟨?_, rfl⟩
  have hdj' : ∀ t, dn { j with st := j.st + 1, table := t } = 0 := fun _ => if_neg (by simp only; omega)
  exact { gj := hg, gk := h.gk, w := h.w, oj := ⟨hw, htx, hpin, ha0, fun _ => h.oj.rd (by omega), fun _ => h.oj.sl (by omega)⟩, ok := h.ok, own1 := fun _ => h.own1 cj, own2 := fun g => absurd g nck, own3 := fun g => absurd (show G8 _ from ⟨show 4 ≤ j.st + 1 by omega, show j.st + 1 ≤ 8 by omega⟩) g, excl := fun _ => nck, tab := by rw [hdj', ← hdj]; exact h.tab, lj := fun _ => rfl, lk := h.lk, dj := fun (g : j.st + 1 = 7) => by omega, dk := fun g => by rw [hdj', ← hdj]; exact h.dk g, aj := fun (g : 8 ≤ j.st + 1) => by omega, ak := fun g _ => h.ak g (by omega), ab := fun (g : 8 ≤ j.st + 1) => by omega }
 ·have cj : G8 j := by unfold G8; omega
  have hdj := c0 (by omega)
  have nck := hex cj
  obtain ⟨r1, r2, r3⟩ := h.oj.rd (by omega)
  obtain ⟨s1, s2⟩ := h.oj.sl (by omega)
  have hl := h.lj (by omega)
  have htab := h.tab
  rw [hdj, Nat.zero_add] at htab
  have hpo : J9 x 0 = p := by unfold J9; rw [h.w.sl]
  have e : D4 j.table (J9 x j.slot) j.key j.closing j.now x.c.idle = D4 (T (dn k)) p (P9 (B2 j.text).1) false 0 x.c.idle := by rw [hl, htab, s1, hpo, r1, r3, s2]
  rw [show D1 6 { j with st := j.st + 1 } x = ({ j with st := j.st + 1, table := (D4 j.table (J9 x j.slot) j.key j.closing j.now x.c.idle).1, ans := (D4 j.table (J9 x j.slot) j.key j.closing j.now x.c.idle).2.1 }, x, false, false, decide (0 ≤ j.slot) && !B0G x j.slot) from rfl, e, ← ht.tT, ← ht.tA] at hg ⊢
  refine ⟨?_, rfl⟩
  have hdj' : ∀ t u, dn { j with st := j.st + 1, table := t, ans := u } = 0 := fun _ _ => if_neg (by simp only; omega)
  exact { gj := hg, gk := h.gk, w := h.w, oj := ⟨hw, htx, hpin, ha0, fun _ => h.oj.rd (by omega), fun _ => h.oj.sl (by omega)⟩, ok := h.ok, own1 := fun _ => h.own1 cj, own2 := fun g => absurd g nck, own3 := fun g => absurd (show G8 _ from ⟨show 4 ≤ j.st + 1 by omega, show j.st + 1 ≤ 8 by omega⟩) g, excl := fun _ => nck, tab := by rw [hdj', ← hdj]; exact h.tab, lj := fun (g : j.st + 1 = 6) => by omega, lk := h.lk, dj := fun _ => ⟨rfl, rfl⟩, dk := fun g => by rw [hdj', ← hdj]; exact h.dk g, aj := fun (g : 8 ≤ j.st + 1) => by omega, ak := fun g _ => h.ak g (by omega), ab := fun (g : 8 ≤ j.st + 1) => by omega }
 ·have cj : G8 j := by unfold G8; omega
  have hdj := c0 (by omega)
  have nck := hex cj
  obtain ⟨r1, r2, r3⟩ := h.oj.rd (by omega)
  obtain ⟨d1, d2⟩ := h.dj (by omega)
  have e7 : x.tabs.set j.shard.toNat j.table = x.tabs.set s j.table := by rw [r2, Int.toNat_natCast]
  rw [show D1 7 { j with st := j.st + 1 } x = ({ j with st := j.st + 1 }, { x with tabs := x.tabs.set j.shard.toNat j.table }, l9) from rfl, e7] at hg ⊢
  refine ⟨?_, rfl⟩
  have hdj' : dn { j with st := j.st + 1 } = 1 := if_pos (by simp only; omega)
  have g1 : (x.tabs.set s j.table).getD s [] = j.table := by rw [List.getD_eq_getElem?_getD, List.getElem?_set, if_pos rfl, if_pos (by omega)]; rfl
  have g2 : ∀ i, i ≠ s → (x.tabs.set s j.table).getD i [] = x.tabs.getD i [] := fun i hi => by rw [List.getD_eq_getElem?_getD, List.getElem?_set, if_neg (by omega), ← List.getD_eq_getElem?_getD]
  have nk : k.st < 8 → dn k = 0 := fun g => if_neg (by omega)
  have yk : 8 ≤ k.st → dn k = 1 := fun g => if_pos g
  have ak := h.ak
  exact { gj := hg, gk := h.gk.mix hg rfl, w := ⟨hc, h.w.cur, h.w.now, h.w.sl, fun i hi hne => by simp only; rw [g2 i hne]; exact h.w.oth i hi hne⟩, oj := ⟨hw, htx, hpin, ha0, fun _ => h.oj.rd (by omega), fun _ => h.oj.sl (by omega)⟩, ok := h.ok, own1 := fun _ => h.own1 cj, own2 := fun g => absurd g nck, own3 := fun g => absurd (show G8 _ from ⟨show 4 ≤ j.st + 1 by omega, show j.st + 1 ≤ 8 by omega⟩) g, excl := fun _ => nck, tab := by simp only; rw [g1, hdj', d1, Nat.add_comm], lj := fun (g : j.st + 1 = 6) => by omega, lk := fun g => absurd (show G8 k by unfold G8; omega) nck, dj := fun (g : j.st + 1 = 7) => by omega, dk := fun g => absurd (show G8 k by unfold G8; omega) nck, aj := fun _ g => by simp only; rw [d2, nk g], ak := fun _ (g : j.st + 1 < 8) => by omega, ab := fun _ g => Or.inr ⟨by simp only; rw [d2, yk g], ak g (by omega)⟩ }
 ·have cj : G8 j := by unfold G8; omega
  have hdj : dn j = 1 := if_pos (by omega)
  have nck := hex cj
  have hsh := (h.oj.rd (by omega)).2.1
  have hf := h.own1 cj
  have hlo : M8 x.own j.shard j.who = x.own.set s (-1) := by
   unfold M8; rw [if_pos (by omega), hsh, A03 (by omega), if_pos hf]
  rw [show D1 8 { j with st := j.st + 1 } x = ({ j with st := j.st + 1 }, { x with own := M8 x.own j.shard j.who }, l9) from rfl, hlo] at hg ⊢
  refine ⟨?_, rfl⟩
  have hdj' : dn { j with st := j.st + 1 } = 1 := if_pos (by simp only; omega)
  have ncj' : ¬ G8 { j with st := j.st + 1 } := by unfold G8; simp only; omega
  exact { gj := hg, gk := h.gk.mix hg rfl, w := ⟨hc, h.w.cur, h.w.now, h.w.sl, h.w.oth⟩, oj := ⟨hw, htx, hpin, ha0, fun _ => h.oj.rd (by omega), fun _ => h.oj.sl (by omega)⟩, ok := h.ok, own1 := fun g => absurd g ncj', own2 := fun g => absurd g nck, own3 := fun _ _ => by simp only; rw [Y6 (by omega), if_pos rfl], excl := fun g => absurd g ncj', tab := by rw [hdj', ← hdj]; exact h.tab, lj := fun (g : j.st + 1 = 6) => by omega, lk := h.lk, dj := fun (g : j.st + 1 = 7) => by omega, dk := fun g => absurd (show G8 k by unfold G8; omega) nck, aj := fun _ g => h.aj (by omega) g, ak := fun _ (g : j.st + 1 < 8) => by omega, ab := fun _ g => h.ab (by omega) g }
 ·have ncj : ¬ G8 j := by unfold G8; omega
  have hdj : dn j = 1 := if_pos (by omega)
  have e1 : D3 (H7 x.cells (E6 x.c j.who) 0) 1 = D3 x.cells 1 := Z1 _ _ _ _ _ (Or.inr rfl)
  rw [show D1 9 { j with st := j.st + 1 } x = ({ j with st := j.st + 1 }, { x with cells := H7 x.cells (E6 x.c j.who) 0 }, false, true, false) from rfl] at hg ⊢
  refine ⟨?_, rfl⟩
  have hdj' : dn { j with st := j.st + 1 } = 1 := if_pos (by simp only; omega)
  have ncj' : ¬ G8 { j with st := j.st + 1 } := by unfold G8; simp only; omega
  exact { gj := hg, gk := h.gk.mix hg rfl, w := ⟨hc, by simp only; rw [e1]; exact h.w.cur, h.w.now, h.w.sl, h.w.oth⟩, oj := ⟨hw, htx, hpin, ha0, fun _ => h.oj.rd (by omega), fun _ => h.oj.sl (by omega)⟩, ok := h.ok, own1 := fun g => absurd g ncj', own2 := h.own2, own3 := fun _ g => h.own3 ncj g, excl := fun g => absurd g ncj', tab := by rw [hdj', ← hdj]; exact h.tab, lj := fun (g : j.st + 1 = 6) => by omega, lk := h.lk, dj := fun (g : j.st + 1 = 7) => by omega, dk := fun g => by have := h.dk g; rw [hdj] at this; rw [hdj']; exact this, aj := fun _ g => h.aj (by omega) g, ak := fun _ (g : j.st + 1 < 8) => by omega, ab := fun _ g => h.ab (by omega) g }
theorem Two.step {N : Nat} {c : CfgV} {p : List E9} {text : ByteArray} {s : Nat} {T : Nat → List EnV} {A : Nat → AnsV} {a b : Int} {j k : JW} {x : WS} (h : Two N c p text s T A a b j k x) (ht : TwoOk N c p text s T A) (hab : a ≠ b) :
  Two N c p text s T A a b (j.step x).1 k (j.step x).2.1 ∧ ((j.step x).1.st = j.st + 1 ∧ j.st < 10 ∧ ¬ (j.st = 3 ∧ G8 k) ∨ (j.step x).1.st = j.st ∧ (j.st = 10 ∨ j.st = 3 ∧ G8 k)) := by
 cases hr : j.ready x with
 | false =>
  rw [A7g hr]
  refine ⟨h, Or.inr ⟨rfl, ?_⟩⟩
  have hs := h.gj.st
  by_cases c1 : j.st = 10
  ·exact Or.inl c1
  have c2 : j.st = 3 := by
   unfold JW.ready at hr
   rw [decide_eq_true (by omega), Bool.true_and, Bool.or_eq_false_iff] at hr
   simpa using hr.1
  refine Or.inr ⟨c2, ?_⟩
  have hsh := (h.oj.rd (by omega)).2.1
  have how := h.gj.ow
  have hsN := ht.sN
  have ncj : ¬ G8 j := by unfold G8; omega
  have hno : ¬ x.own.getD s 0 < 0 := by
   unfold JW.ready at hr
   rw [c2, hsh, A7C (by omega)] at hr
   simpa using hr
  exact Classical.byContradiction fun g => by
   have := h.own3 ncj g
   omega
 | true =>
  have hs := h.gj.st
  have hl := A8A hr
  rw [u7 hr]
  obtain ⟨h1, h2⟩ := h.stage ht hab j.st.toNat (by omega) (by omega) hr
  refine ⟨h1, Or.inl ⟨h2, hl, fun g => ?_⟩⟩
  have hsh := (h.oj.rd (by omega)).2.1
  have how := h.gj.ow
  have hsN := ht.sN
  have e1 := h.own2 g.2
  have e2 := h.ok.a0
  unfold JW.ready at hr
  rw [g.1, hsh, A7C (by omega)] at hr
  have : x.own.getD s 0 < 0 := by simpa using hr
  omega
theorem C7j {a : ActV} {x : WS} {y : XS} (h : a.k ≠ 1) : D3 (Q6 a x y).cells 0 = D3 x.cells 0 := by
 unfold Q6
 rw [if_neg h]
 by_cases k2 : a.k = 2
 ·rw [if_pos k2]; split <;> rfl
 rw [if_neg k2]
 by_cases k3 : a.k = 3
 ·rw [if_pos k3]; split <;> rfl
 rw [if_neg k3]
 by_cases k4 : a.k = 4
 ·rw [if_pos k4]
 rw [if_neg k4]
 by_cases k5 : a.k = 5
 ·rw [if_pos k5]
 rw [if_neg k5]
 by_cases k6 : a.k = 6
 ·rw [if_pos k6]
  split
  ·exact m8 _ _ (by omega)
  ·rfl
 rw [if_neg k6]
 by_cases k7 : a.k = 7
 ·rw [if_pos k7]
 rw [if_neg k7]
theorem GI.hap0 {N E : Nat} {j : JW} {x : WS} (h : GI N E j x) (hE : E ≤ 1000) (a : ActV) (ha : a.k ≠ 1) (y : XS) (hc : y.c = x.c) (hcs : x.c.sl ≤ 8) : GI N E j (Q6 a x y) :=
 { h.hap hE a y hc hcs with ep := by rw [C7j ha]; exact h.ep, jep := h.jep }
def C1Z (n : Nat) (j k : JW) : Prop := j.st = 10 ∨ (j.st = 3 ∧ G8 k) ∨ (n : Int) ≤ j.st
theorem C1Z.step {n : Nat} {j j' k : JW} (h : C1Z n j k) (hj : j'.st = j.st + 1 ∧ j.st < 10 ∧ ¬ (j.st = 3 ∧ G8 k) ∨ j'.st = j.st ∧ (j.st = 10 ∨ j.st = 3 ∧ G8 k)) : C1Z (n + 1) j' k := by
 unfold C1Z at *
 rcases hj with ⟨h1, h2, h3⟩ | ⟨h1, h2⟩
 ·rcases h with h | h | h
  ·omega
  ·exact absurd h h3
  ·exact Or.inr (Or.inr (by omega))
 ·rcases h2 with h2 | h2
  ·exact Or.inl (by omega)
  ·exact Or.inr (Or.inl ⟨by omega, h2.2⟩)
def twX (c : CfgV) (p : List E9) : WS := { K1 c with sl := A0C (p5 (K1 c).sl 0 .bld) 0 p, cells := H7 (K1 c).cells 1 (0 + 1) }
theorem C4E {l : List SlV} (h : 0 < l.length) (v : SlV) : K8 (p5 l 0 v) 0 = v := by
 unfold K8 p5
 rw [if_pos (show (0 : Int) ≤ 0 ∧ (0 : Int) < l.length by omega), if_pos (by rw [List.length_set]; omega), List.getD_eq_getElem?_getD, List.getElem?_set, if_pos rfl, if_pos (by simpa using h)]; rfl
theorem C1G {x : WS} {y : XS} (p : List E9) (pa : Option Addr) (pc : Nat) : Q6 ⟨4, 0, p, pa, pc⟩ x y = { x with sl := A0C (p5 x.sl 0 .bld) 0 p } := rfl
theorem C6r {x : WS} {y : XS} (h : 0 < y.c.sl) : Q6 ⟨6, 0, [], none, 0⟩ x y = { x with cells := H7 x.cells 1 (0 + 1) } := by
 have h2 : -1 ≤ (0 : Int) ∧ (0 : Int) < y.c.sl := ⟨by omega, h⟩
 show (if -1 ≤ (0 : Int) ∧ (0 : Int) < y.c.sl then { x with cells := H7 x.cells 1 (0 + 1) } else x) = _
 rw [if_pos h2]
end Go.Proofs.YtjobgnabneddjaaGreat
namespace Go.Proofs.YtjobgnabneddjaaGreat
open Go
structure AlW (N : Nat) (c : CfgV) (p : List E9) (now : Int) (tabs : List (List EnV)) (x : WS) : Prop where
 cc : x.c = c
 cur : D3 x.cells 1 = 1
 nw : x.now = now
 sl : K8 x.sl 0 = .rdy p
 own : ∀ i, i < N → x.own.getD i 0 = -1
 tabs : x.tabs = tabs
structure AlI (N : Nat) (c : CfgV) (p : List E9) (now who : Int) (text : ByteArray) (s : Nat) (T : List (List EnV)) (D : List EnV × AnsV) (k : Nat) (j : JW) (x : WS) : Prop where
 g : GI N 0 j x
 cc : x.c = c
 cur : D3 x.cells 1 = 1
 nw : x.now = now
 sl : K8 x.sl 0 = .rdy p
 st : j.st = (k : Nat)
 hwho : j.who = who
 txt : j.text = text
 pinw : 0 ≤ E6 c who
 w0 : 0 ≤ who
 rd : 1 ≤ k → j.key = P9 (B2 text).1 ∧ j.shard = (s : Nat) ∧ j.closing = M3 (B2 text).1 (B2 text).2.1
 slt : 5 ≤ k → j.slot = 0 ∧ j.now = now
 own : ∀ i, i < N → x.own.getD i 0 = if (4 ≤ k ∧ k ≤ 8) ∧ i = s then who else -1
 tab : x.tabs = if 8 ≤ k then T.set s D.1 else T
 lj : k = 6 → j.table = T.getD s []
 dj : 7 ≤ k → j.table = D.1 ∧ j.ans = D.2
 pin : k ≤ 1 ∨ k = 10 → D3 x.cells (E6 c who) = 0
theorem AlI.step {N : Nat} {c : CfgV} {p : List E9} {now who : Int} {text : ByteArray} {s : Nat} {T : List (List EnV)} {D : List EnV × AnsV} {k : Nat} {j : JW} {x : WS} (h : AlI N c p now who text s T D k j x) (hgood : (B2 text).2.2 = 0) (hs : L7 (P9 (B2 text).1) c.sh = s) (hsN : s < N)
  (hD : D.1 = (D4 (T.getD s []) p (P9 (B2 text).1) (M3 (B2 text).1 (B2 text).2.1) now c.idle).1 ∧ D.2 = (D4 (T.getD s []) p (P9 (B2 text).1) (M3 (B2 text).1 (B2 text).2.1) now c.idle).2.1) (hk : k < 10) :
  j.ready x = true ∧ (j.step x).2.2.2.2 = false ∧ AlI N c p now who text s T D (k + 1) (j.step x).1 (j.step x).2.1 := by
 obtain ⟨hg, hcc, hcur, hnw, hsl, hst, hwho, htxt, hpw, hw0, hrd, hslt, hown, htab, hlj, hdj, hpin⟩ := h
 subst hcc hwho htxt
 have how := hg.ow
 have hwk := hg.ok.wk
 have hcl := hg.ok.cells
 have hep := hg.ep
 have hjep := hg.jep
 have htl := hg.tl
 have hready : j.ready x = true := by
  unfold JW.ready
  rw [decide_eq_true (by omega), Bool.true_and, Bool.or_eq_true]
  by_cases c3 : j.st = 3
  ·right
   have h1 := (hrd (by omega)).2.1
   rw [h1, A7C (by omega), hown s hsN, if_neg (by omega)]; rfl
  ·left; simp [c3]
 refine ⟨hready, ?_⟩
 have hgs := hg.stage k hk hst
 rw [u7 hready, hst, Int.toNat_natCast, ← hst]
 have hpr : 2 ≤ E6 x.c j.who ∧ E6 x.c j.who < x.cells.length := by unfold E6 at hpw ⊢; split at hpw <;> split <;> omega
 have hcase : k = 0 ∨ k = 1 ∨ k = 2 ∨ k = 3 ∨ k = 4 ∨ k = 5 ∨ k = 6 ∨ k = 7 ∨ k = 8 ∨ k = 9 := by omega
 rcases hcase with rfl | rfl | rfl | rfl | rfl | rfl | rfl | rfl | rfl | rfl
 ·rw [show D1 0 { j with st := j.st + 1 } x = jw0 { j with st := j.st + 1 } x from rfl] at hgs ⊢
  unfold jw0 at hgs ⊢
  simp only at hgs ⊢
  rw [if_neg (by omega), if_neg (by simp [hgood])] at hgs ⊢
  exact ⟨rfl, { g := hgs, cc := rfl, cur := hcur, nw := hnw, sl := hsl, st := (by simp only [JW.rd]; omega), hwho := rfl, txt := rfl, pinw := hpw, w0 := hw0, rd := fun _ => ⟨rfl, by simp only [JW.rd]; rw [hs], rfl⟩, slt := fun g => by omega, own := fun i hi => by rw [hown i hi, if_neg (by omega), if_neg (by omega)], tab := htab, lj := fun g => by omega, dj := fun g => by omega, pin := fun _ => hpin (by omega) }⟩
 ·have e1 : D3 (H7 x.cells (E6 x.c j.who) (IntKind.i64.wrap (j.ep + 1))) 1 = D3 x.cells 1 := Z1 _ _ _ _ _ (Or.inr rfl)
  rw [show D1 1 { j with st := j.st + 1 } x = ({ j with st := j.st + 1 }, { x with cells := H7 x.cells (E6 x.c j.who) (IntKind.i64.wrap (j.ep + 1)) }, l9) from rfl] at hgs ⊢
  exact ⟨rfl, { g := hgs, cc := rfl, cur := (by simp only; rw [e1]; exact hcur), nw := hnw, sl := hsl, st := (by simp only; omega), hwho := rfl, txt := rfl, pinw := hpw, w0 := hw0, rd := fun _ => hrd (by omega), slt := fun g => by omega, own := fun i hi => by simp only; rw [hown i hi, if_neg (by omega), if_neg (by omega)], tab := htab, lj := fun g => by omega, dj := fun g => by omega, pin := fun g => by omega }⟩
 ·rw [show D1 2 { j with st := j.st + 1 } x = jw2 { j with st := j.st + 1 } x from rfl] at hgs ⊢
  unfold jw2 at hgs ⊢
  simp only at hgs ⊢
  rw [if_pos (show D3 x.cells 0 = j.ep by omega)] at hgs ⊢
  exact ⟨rfl, { g := hgs, cc := rfl, cur := hcur, nw := hnw, sl := hsl, st := (by simp only; omega), hwho := rfl, txt := rfl, pinw := hpw, w0 := hw0, rd := fun _ => hrd (by omega), slt := fun g => by omega, own := fun i hi => by simp only; rw [hown i hi, if_neg (by omega), if_neg (by omega)], tab := htab, lj := fun g => by omega, dj := fun g => by omega, pin := fun g => by omega }⟩
 ·have hsh := (hrd (by omega)).2.1
  have hlo : U8 x.own j.shard j.who = x.own.set s j.who := by
   unfold U8; rw [if_pos (by omega), hsh, A03 (by omega), if_pos (by rw [hown s hsN, if_neg (by omega)])]
  rw [show D1 3 { j with st := j.st + 1 } x = ({ j with st := j.st + 1 }, { x with own := U8 x.own j.shard j.who }, l9) from rfl, hlo] at hgs ⊢
  refine ⟨rfl, { g := hgs, cc := rfl, cur := hcur, nw := hnw, sl := hsl, st := (by simp only; omega), hwho := rfl, txt := rfl, pinw := hpw, w0 := hw0, rd := fun _ => hrd (by omega), slt := fun g => by omega, own := fun i hi => ?_, tab := htab, lj := fun g => by omega, dj := fun g => by omega, pin := fun g => by omega }⟩
  simp only
  rw [Y6 (by omega)]
  by_cases d : s = i
  ·rw [if_pos d, if_pos (by omega)]
  ·rw [if_neg d, hown i hi, if_neg (by omega), if_neg (by omega)]
 ·have hz : IntKind.i64.wrap (D3 x.cells 1 - 1) = 0 := by rw [hcur]; rfl
  rw [show D1 4 { j with st := j.st + 1 } x = ({ j with st := j.st + 1, slot := IntKind.i64.wrap (D3 x.cells 1 - 1), now := x.now }, x, true, false, false) from rfl, hz, hnw] at hgs ⊢
  exact ⟨rfl, { g := hgs, cc := rfl, cur := hcur, nw := hnw, sl := hsl, st := (by simp only; omega), hwho := rfl, txt := rfl, pinw := hpw, w0 := hw0, rd := fun _ => hrd (by omega), slt := fun _ => ⟨rfl, rfl⟩, own := fun i hi => by simp only; rw [hown i hi]; by_cases d : i = s; rw [if_pos (by omega), if_pos (by omega)]; rw [if_neg (by omega), if_neg (by omega)], tab := htab, lj := fun g => by omega, dj := fun g => by omega, pin := fun g => by omega }⟩
 ·have hsh := (hrd (by omega)).2.1
  have e5 : x.tabs.getD j.shard.toNat [] = T.getD s [] := by rw [hsh, Int.toNat_natCast, htab]; rfl
  rw [show D1 5 { j with st := j.st + 1 } x = ({ j with st := j.st + 1, table := x.tabs.getD j.shard.toNat [] }, x, l9) from rfl, e5] at hgs ⊢
  exact ⟨rfl, { g := hgs, cc := rfl, cur := hcur, nw := hnw, sl := hsl, st := (by simp only; omega), hwho := rfl, txt := rfl, pinw := hpw, w0 := hw0, rd := fun _ => hrd (by omega), slt := fun _ => hslt (by omega), own := fun i hi => by simp only; rw [hown i hi]; by_cases d : i = s; rw [if_pos (by omega), if_pos (by omega)]; rw [if_neg (by omega), if_neg (by omega)], tab := htab, lj := fun _ => rfl, dj := fun g => by omega, pin := fun g => by omega }⟩
 ·obtain ⟨r1, r2, r3⟩ := hrd (by omega)
  obtain ⟨s1, s2⟩ := hslt (by omega)
  have hl := hlj rfl
  have hpo : J9 x 0 = p := by unfold J9; rw [hsl]
  have hry : B0G x 0 = true := by unfold B0G; rw [hsl]
  have e : D4 j.table (J9 x j.slot) j.key j.closing j.now x.c.idle = D4 (T.getD s []) p (P9 (B2 j.text).1) (M3 (B2 j.text).1 (B2 j.text).2.1) now x.c.idle := by rw [hl, s1, hpo, r1, r3, s2]
  rw [show D1 6 { j with st := j.st + 1 } x = ({ j with st := j.st + 1, table := (D4 j.table (J9 x j.slot) j.key j.closing j.now x.c.idle).1, ans := (D4 j.table (J9 x j.slot) j.key j.closing j.now x.c.idle).2.1 }, x, false, false, decide (0 ≤ j.slot) && !B0G x j.slot) from rfl, e, ← hD.1, ← hD.2] at hgs ⊢
  exact ⟨by simp only; rw [s1, hry]; rfl, { g := hgs, cc := rfl, cur := hcur, nw := hnw, sl := hsl, st := (by simp only; omega), hwho := rfl, txt := rfl, pinw := hpw, w0 := hw0, rd := fun _ => hrd (by omega), slt := fun _ => hslt (by omega), own := fun i hi => by simp only; rw [hown i hi]; by_cases d : i = s; rw [if_pos (by omega), if_pos (by omega)]; rw [if_neg (by omega), if_neg (by omega)], tab := htab, lj := fun g => by omega, dj := fun _ => ⟨rfl, rfl⟩, pin := fun g => by omega }⟩
 ·have hsh := (hrd (by omega)).2.1
  obtain ⟨d1, d2⟩ := hdj (by omega)
  have e7 : x.tabs.set j.shard.toNat j.table = T.set s D.1 := by rw [hsh, Int.toNat_natCast, htab, d1]; rfl
  rw [show D1 7 { j with st := j.st + 1 } x = ({ j with st := j.st + 1 }, { x with tabs := x.tabs.set j.shard.toNat j.table }, l9) from rfl, e7] at hgs ⊢
  exact ⟨rfl, { g := hgs, cc := rfl, cur := hcur, nw := hnw, sl := hsl, st := (by simp only; omega), hwho := rfl, txt := rfl, pinw := hpw, w0 := hw0, rd := fun _ => hrd (by omega), slt := fun _ => hslt (by omega), own := fun i hi => by simp only; rw [hown i hi]; by_cases d : i = s; rw [if_pos (by omega), if_pos (by omega)]; rw [if_neg (by omega), if_neg (by omega)], tab := by simp, lj := fun g => by omega, dj := fun _ => ⟨d1, d2⟩, pin := fun g => by omega }⟩
 ·have hsh := (hrd (by omega)).2.1
  obtain ⟨d1, d2⟩ := hdj (by omega)
  have hlo : M8 x.own j.shard j.who = x.own.set s (-1) := by
   unfold M8; rw [if_pos (by omega), hsh, A03 (by omega), if_pos (by rw [hown s hsN, if_pos (by omega)])]
  rw [show D1 8 { j with st := j.st + 1 } x = ({ j with st := j.st + 1 }, { x with own := M8 x.own j.shard j.who }, l9) from rfl, hlo] at hgs ⊢
  refine ⟨rfl, { g := hgs, cc := rfl, cur := hcur, nw := hnw, sl := hsl, st := (by simp only; omega), hwho := rfl, txt := rfl, pinw := hpw, w0 := hw0, rd := fun _ => hrd (by omega), slt := fun _ => hslt (by omega), own := fun i hi => ?_, tab := htab, lj := fun g => by omega, dj := fun _ => ⟨d1, d2⟩, pin := fun g => by omega }⟩
  simp only
  rw [Y6 (by omega), if_neg (show ¬ ((4 ≤ 8 + 1 ∧ 8 + 1 ≤ 8) ∧ i = s) by omega)]
  by_cases d : s = i
  ·rw [if_pos d]
  ·rw [if_neg d, hown i hi, if_neg (by omega)]
 ·obtain ⟨d1, d2⟩ := hdj (by omega)
  have e1 : D3 (H7 x.cells (E6 x.c j.who) 0) 1 = D3 x.cells 1 := Z1 _ _ _ _ _ (Or.inr rfl)
  have e2 : D3 (H7 x.cells (E6 x.c j.who) 0) (E6 x.c j.who) = 0 := by rw [A1D, if_pos (by omega)]
  rw [show D1 9 { j with st := j.st + 1 } x = ({ j with st := j.st + 1 }, { x with cells := H7 x.cells (E6 x.c j.who) 0 }, false, true, false) from rfl] at hgs ⊢
  exact ⟨rfl, { g := hgs, cc := rfl, cur := (by simp only; rw [e1]; exact hcur), nw := hnw, sl := hsl, st := (by simp only; omega), hwho := rfl, txt := rfl, pinw := hpw, w0 := hw0, rd := fun _ => hrd (by omega), slt := fun _ => hslt (by omega), own := fun i hi => by simp only; rw [hown i hi, if_neg (by omega), if_neg (by omega)], tab := htab, lj := fun g => by omega, dj := fun _ => ⟨d1, d2⟩, pin := fun _ => e2 }⟩
theorem GI.job {N E : Nat} {j : JW} {x : WS} (h : GI N E j x) (who : Int) {text : ByteArray} (ht : text.size ≤ 100) : GI N E (E7 who text) x :=
 { h with jt := Or.inl B0U, text := ht, key := by simp [E7, H4], shard := by have := h.n; simp only [E7]; omega, slot := by simp [E7], st := by simp [E7], jep := by simp [E7], jt2 := fun g => by simp [E7] at g }
theorem AlI.start {N : Nat} {c : CfgV} {p : List E9} {now who : Int} {text : ByteArray} {s : Nat} {T : List (List EnV)} {D : List EnV × AnsV} {x : WS} (hg : GI N 0 (E7 who text) x) (hw : AlW N c p now T x) (hp : D3 x.cells (E6 c who) = 0) (hpw : 0 ≤ E6 c who) (hw0 : 0 ≤ who) : AlI N c p now who text s T D 0 (E7 who text) x :=
 { g := hg, cc := hw.cc, cur := hw.cur, nw := hw.nw, sl := hw.sl, st := rfl, hwho := rfl, txt := rfl, pinw := hpw, w0 := hw0, rd := fun h => by omega, slt := fun h => by omega, own := fun i hi => by rw [if_neg (by omega)]; exact hw.own i hi, tab := hw.tabs, lj := fun h => by omega, dj := fun h => by omega, pin := fun _ => hp }
theorem AlI.fin {N : Nat} {c : CfgV} {p : List E9} {now who : Int} {text : ByteArray} {s : Nat} {T : List (List EnV)} {D : List EnV × AnsV} {j : JW} {x : WS} (h : AlI N c p now who text s T D 10 j x) : AlW N c p now (T.set s D.1) x ∧ j.ans = D.2 ∧ D3 x.cells (E6 c who) = 0 :=
 ⟨⟨h.cc, h.cur, h.nw, h.sl, fun i hi => by rw [h.own i hi, if_neg (by omega)], h.tab⟩, (h.dj (by omega)).2, h.pin (Or.inr rfl)⟩
structure AlM (c : CfgV) (p : List E9) (T : List (List EnV)) (s : MoS) : Prop where
 c : s.c = c
 pool : s.pool = p
 tabs : s.tabs.map (·.1) = T
theorem C4e {s : MoS} {text : ByteArray} {now : Int} (h : (B2 text).2.2 ≠ 0) : U6 s text now = (s, ⟨9, 0, false, 0⟩) := by unfold U6; simp only; rw [if_pos h]
theorem C1A {c : CfgV} {p : List E9} {T : List (List EnV)} {s : MoS} (h : AlM c p T s) {text : ByteArray} (hgood : (B2 text).2.2 = 0) (now : Int) {k : Nat} (hk : L7 (P9 (B2 text).1) c.sh = k) (hkl : k < T.length) {D : List EnV × AnsV}
  (hD : D.1 = (D4 (T.getD k []) p (P9 (B2 text).1) (M3 (B2 text).1 (B2 text).2.1) now c.idle).1 ∧ D.2 = (D4 (T.getD k []) p (P9 (B2 text).1) (M3 (B2 text).1 (B2 text).2.1) now c.idle).2.1) :
  (U6 s text now).2 = D.2 ∧ AlM c p (T.set k D.1) (U6 s text now).1 ∧ D.2.err ≠ 9 := by
 obtain ⟨h1, h2, h3⟩ := h
 have hget : T.getD k [] = (s.tabs.getD k ([], 0)).1 := by
  have hl : k < s.tabs.length := by have := congrArg List.length h3; simp at this; omega
  rw [← h3, List.getD_eq_getElem?_getD, List.getElem?_map, List.getD_eq_getElem?_getD, List.getElem?_eq_getElem hl]; rfl
 have hd : U6 s text now = ({ s with tabs := s.tabs.set k (D.1, (s.tabs.getD k ([], 0)).2) }, D.2) := by
  unfold U6
  simp only
  rw [if_neg (by simp [hgood]), h1, hk, h2, ← hget, ← hD.1, ← hD.2]
 rw [hd]
 refine ⟨rfl, ⟨h1, h2, by simp only [List.map_set]; rw [h3]⟩, ?_⟩
 rw [hD.2]
 rcases B8Z (T.getD k []) p (P9 (B2 text).1) (M3 (B2 text).1 (B2 text).2.1) now c.idle with ⟨_, _, e⟩ | ⟨_, _, e⟩ | ⟨_, _, _, e⟩ | ⟨_, _, u, _, e⟩
 all_goals rw [e]; simp
theorem C3B {N : Nat} {c : CfgV} {p : List E9} {now who : Int} {text : ByteArray} {x : WS} {s : MoS} (hg : GI N 0 (E7 who H4) x) (hw : AlW N c p now x.tabs x) (hp : D3 x.cells (E6 c who) = 0) (hM : AlM c p x.tabs s) (htx : text.size ≤ 100) (hwho : 1 ≤ who ∧ who ≤ c.wk) (hsh : c.sh = (N : Nat)) :
  ∃ (M : Nat) (Q : Nat → JW → WS → Prop), M ≤ 10 ∧ (M = if (U6 s text now).2.err = 9 then 1 else 10) ∧ Q 0 (E7 who text) x ∧ (∀ n j y, n < M → Q n j y → j.ready y = true ∧ (j.step y).2.2.2.2 = false ∧ Q (n + 1) (j.step y).1 (j.step y).2.1) ∧ (∀ n j y, Q n j y → GI N 0 j y) ∧
   (∀ j y, Q M j y → j.ready y = false ∧ j.ans = (U6 s text now).2 ∧ AlW N c p now y.tabs y ∧ D3 y.cells (E6 c who) = 0 ∧ AlM c p y.tabs (U6 s text now).1) := by
 have hpin : 0 ≤ E6 c who := by unfold E6; rw [if_neg (by omega)]; omega
 have hg0 : GI N 0 (E7 who text) x := hg.job who htx
 by_cases hgood : (B2 text).2.2 = 0
 ·obtain ⟨k, hk⟩ : ∃ k : Nat, L7 (P9 (B2 text).1) c.sh = k := ⟨_, rfl⟩
  have hn := hg.n
  have hkN : k < N := by rw [← hk]; unfold L7; rw [if_neg (by omega), hsh, Int.toNat_natCast]; exact Nat.mod_lt _ (by omega)
  obtain ⟨D, hD1⟩ : ∃ D : List EnV × AnsV, D = ((D4 (x.tabs.getD k []) p (P9 (B2 text).1) (M3 (B2 text).1 (B2 text).2.1) now c.idle).1, (D4 (x.tabs.getD k []) p (P9 (B2 text).1) (M3 (B2 text).1 (B2 text).2.1) now c.idle).2.1) := ⟨_, rfl⟩
  have hD : D.1 = (D4 (x.tabs.getD k []) p (P9 (B2 text).1) (M3 (B2 text).1 (B2 text).2.1) now c.idle).1 ∧ D.2 = (D4 (x.tabs.getD k []) p (P9 (B2 text).1) (M3 (B2 text).1 (B2 text).2.1) now c.idle).2.1 := by rw [hD1]; exact ⟨rfl, rfl⟩
  have htl := hg.tl
  obtain ⟨e1, e2, e3⟩ := C1A hM hgood now hk (by omega) hD
  refine ⟨10, AlI N c p now who text k x.tabs D, Nat.le_refl _, by rw [e1, if_neg e3], AlI.start hg0 hw hp hpin (by omega), fun n j y hn h => h.step hgood hk hkN hD hn, fun n j y h => h.g, fun j y h => ?_⟩
  obtain ⟨f1, f2, f3⟩ := h.fin
  have hst := h.st
  refine ⟨by unfold JW.ready; rw [decide_eq_false (by omega)]; rfl, by rw [f2, e1], { f1 with tabs := rfl }, f3, by rw [f1.tabs]; exact e2⟩
 ·have hd := C4e (s := s) (now := now) hgood
  refine ⟨1, fun n j y => GI N 0 j y ∧ y = x ∧ (n = 0 ∧ j = E7 who text ∨ n = 1 ∧ j.st = 10 ∧ j.ans = ⟨9, 0, false, 0⟩), by omega, by rw [hd, if_pos rfl], ⟨hg0, rfl, Or.inl ⟨rfl, rfl⟩⟩, fun n j y hn h => ?_, fun n j y h => h.1, fun j y h => ?_⟩
  ·obtain ⟨h1, rfl, h3⟩ := h
   rcases h3 with ⟨rfl, rfl⟩ | h3
   ·have hb := C2N (j := E7 who text) (x := y) rfl (by have : y.c = c := hw.cc; show ¬ E6 y.c who < 0; rw [this]; omega) hgood
    have hs := h1.step
    rw [hb] at hs ⊢
    exact ⟨by simp [JW.ready, E7], rfl, hs, rfl, Or.inr ⟨rfl, rfl, rfl⟩⟩
   ·omega
  ·obtain ⟨h1, rfl, h3⟩ := h
   rcases h3 with ⟨h3, _⟩ | ⟨_, h4, h5⟩
   ·cases h3
   ·rw [hd]
    exact ⟨by unfold JW.ready; rw [decide_eq_false (by omega)]; rfl, h5, hw, hp, hM⟩
end Go.Proofs.YtjobgnabneddjaaGreat
namespace Go.Proofs.YtjobgnabneddjaaGreat
open Go
end Go.Proofs.YtjobgnabneddjaaGreat
namespace Go.Proofs.YtjobgnabneddjaaGreat
open Go
end Go.Proofs.YtjobgnabneddjaaGreat
namespace Go.Proofs.YtjobgnabneddjaaGreat
open Go
end Go.Proofs.YtjobgnabneddjaaGreat
namespace Go.Proofs.YtjobgnabneddjaaGreat
open Go
end Go.Proofs.YtjobgnabneddjaaGreat
namespace Go.Proofs.YtjobgnabneddjaaGreat
open Go
end Go.Proofs.YtjobgnabneddjaaGreat
namespace Go.Proofs.YtjobgnabneddjaaGreat
open Go
end Go.Proofs.YtjobgnabneddjaaGreat
namespace Go.Proofs.YtjobgnabneddjaaGreat
open Go
end Go.Proofs.YtjobgnabneddjaaGreat
namespace Go.Proofs.YtjobgnabneddjaaGreat
open Go
def B39 (x : WS) (p : Int) : Prop := D3 x.cells 2 = p ∧ ∀ i : Nat, D3 x.cells ((i : Nat) + 3) = 0
theorem B39.after {x : WS} {v : Int} (h : B39 x v) (p : List E9) : B39 (M0 x p) v := by
 refine ⟨?_, fun i => ?_⟩
 ·have := B5z (x := x) (p := p) 0
  simp only [Int.natCast_zero, Int.zero_add] at this
  rw [this]; exact h.1
 ·have := B5z (x := x) (p := p) (i + 1)
  rw [show (((i + 1 : Nat) : Int) + 2) = (i : Nat) + 3 by omega] at this
  rw [this]; exact h.2 i
theorem B39.zero {x : WS} (h : B39 x 0) (i : Nat) : D3 x.cells ((i : Nat) + 2) = 0 := by
 cases i with
 | zero => exact h.1
 | succ i => rw [show (((i + 1 : Nat) : Int) + 2) = (i : Nat) + 3 by omega]; exact h.2 i
end Go.Proofs.YtjobgnabneddjaaGreat
namespace Go.Proofs.YtjobgnabneddjaaGreat
open Go
end Go.Proofs.YtjobgnabneddjaaGreat
namespace Go.Proofs.YtjobgnabneddjaaGreat
open Go
theorem CurI.pin {x : WS} (h : CurI x) (v : Int) : CurI { x with cells := H7 x.cells 2 v } := by
 have e : D3 (H7 x.cells 2 v) 1 = D3 x.cells 1 := m8 _ _ (by omega)
 refine ⟨⟨h.ok.wk, by simp only [A01]; exact h.ok.cells, h.ok.own, h.ok.sl, h.ok.keep⟩, h.kl, h.two, ?_, fun k hk hc => ?_, fun k hk hc => ?_⟩
 ·show 0 ≤ D3 (H7 x.cells 2 v) 1 ∧ D3 (H7 x.cells 2 v) 1 ≤ x.keep.length; rw [e]; exact h.cur
 ·exact h.at1 k hk (by rw [show K7 { x with cells := H7 x.cells 2 v } = D3 (H7 x.cells 2 v) 1 from rfl, e] at hc; exact hc)
 ·exact h.at2 k hk (by rw [show K7 { x with cells := H7 x.cells 2 v } = D3 (H7 x.cells 2 v) 1 from rfl, e] at hc; exact hc)
theorem CurI.ready {x : WS} (h : CurI x) (hc : 0 < K7 x) : (A8u x.sl (K7 x - 1)).2 = true := by
 have h1 := h.cur
 obtain ⟨k, hk⟩ : ∃ k : Nat, K7 x - 1 = k := ⟨(K7 x - 1).toNat, by omega⟩
 obtain ⟨_, p, hp⟩ := h.at1 k (by omega) (by omega)
 rw [hk]; unfold A8u; rw [hp]
end Go.Proofs.YtjobgnabneddjaaGreat
namespace Go.Proofs.YtjobgnabneddjaaGreat
open Go
theorem GI.up {N E : Nat} {j : JW} {x : WS} (h : GI N E j x) : GI N (E + 1) j x := { h with ep := by have := h.ep; omega, jep := by have := h.jep; omega }
theorem XI.up {E : Nat} {y : XS} (h : XI E y) : XI (E + 1) y := { h with ep := by have := h.ep; omega }
theorem PinJ.up {N E : Nat} {who pd e : Int} {j : JW} {x : WS} {y : XS} (h : PinJ N E who pd e j x y) : PinJ N (E + 1) who pd e j x y := { h with g := h.g.up }
theorem PinJ.new {c : CfgV} (hok : M1 c = true) {who : Int} (hw : 0 ≤ who ∧ who ≤ 60) {text : ByteArray} (ht : text.size ≤ 100) {y : XS} (h1 : y.c = c) (h5 : y.locks = List.replicate c.sh.toNat (-1)) : PinJ c.sh.toNat 0 who 0 0 (E7 who text) (K1 c) y := by
 have hf : ∀ i, i < c.sh.toNat → (K1 c).own.getD i 0 = -1 := fun i hi => by
  show (List.replicate c.sh.toNat (-1 : Int)).getD i 0 = -1
  rw [List.getD_eq_getElem?_getD, List.getElem?_replicate_of_lt hi]; rfl
 refine ⟨GI.new hok who text ht, rfl, hw, h5, h1, A2m _ _, fun i hi _ => hf i hi, fun h => by simp [E7] at h, fun _ i hi => by rw [hf i hi]; omega, fun _ => Or.inl rfl, fun _ _ => A2m _ _, fun h => by simp [E7] at h, fun _ => rfl, fun h => by simp [E7] at h⟩
def cnA (a : JA) (n : Int) : JA := (a.1, a.2.1, { a.2.2.1 with cn := n }, a.2.2.2)
theorem JsC.cn {cp : Nat} {a : JA} (h : JsC cp a) (n : Int) : JsC cp (cnA a n) := ⟨h.tab, h.sub, h.tb⟩
theorem C0E {S : List Nat} {w0 : World} {H Hk : List Res} {X : Nat → Prop} {K : Value → WP} (b : Nat) (m : WoH) (a : JA) (i : Int) (hcl : (r7 m a).cells.length ≤ 1024) (hs : Sels (Y5 b m a ++ Hk) H)
  (hK : ∀ n : Int, TW false S w0 (Y5 b m (cnA a n) ++ Hk) (K (.int .i64 (D3 (r7 m a).cells i)))) :
  TW false S w0 H (B5 PR X 35 [.pointer (some ⟨m.bc, 0, none⟩), .int .i64 i] K) := by
 obtain ⟨j, tv, d, P⟩ := a
 refine Sels.tw hs ?_
 simp only [Y5, F7, C7, List.cons_append, List.nil_append]
 rw [show m.bc = (m.ug d).bc from rfl]
 refine D0 (Hc := D5 (m.ug d).bc (m.ug d).cn (m.ug d).cv (m.ug d).ov (m.ug d).cells (m.ug d).own) S8 (fun w' _ hs => A49 w' (m.ug d).bc (m.ug d).cn (m.ug d).cv (m.ug d).ov (m.ug d).cells (m.ug d).own i hcl hs) (by unfold D5; (repeat' constructor)) ?_
 rintro n v rfl
 refine Sels.tw (rs := Y5 b m (cnA (j, tv, d, P) n) ++ Hk) (by simp only [Y5, F7, cnA, D5, C7, D8, E5, WoH.ug, List.cons_append, List.nil_append]; repeat (first | exact A02 _ | (apply Sels.cons; · (repeat constructor)))) (hK n)
abbrev v7 (bc : Nat) (c : CfgV) : Res := .pt bc (.cells (A3g c) 23)
end Go.Proofs.YtjobgnabneddjaaGreat
namespace Go.Proofs.YtjobgnabneddjaaGreat
open Go
theorem D1k {x : WS} {y : XS} (n : Int) : Q6 ⟨7, n, [], none, 0⟩ x y = { x with now := U7 x.now n } := rfl
def alX (c : CfgV) (p : List E9) (now : Int) : WS := { twX c p with now := U7 (twX c p).now now }
theorem C7J {c : CfgV} (hok : M1 c = true) {p : List E9} (hp : L5 p = 0) {now who : Int} (hn : 0 ≤ now ∧ now ≤ 1000000) (hw : 1 ≤ who ∧ who ≤ c.wk) {text : ByteArray} (ht : text.size ≤ 100) :
  GI c.sh.toNat 0 (E7 who text) (alX c p now) ∧ AlW c.sh.toNat c p now (List.replicate c.sh.toNat (newE c.cp.toNat)) (alX c p now) ∧ D3 (alX c p now).cells (E6 c who) = 0 := by
 have hok2 := hok
 simp only [M1, Y7, Bool.and_eq_true, decide_eq_true_eq] at hok2
 have hcl : (K1 c).cells.length = 2 + c.wk.toNat := by simp [K1]
 have hsl : (K1 c).sl.length = c.sl.toNat := by simp [K1]
 have hpin : 2 ≤ E6 c who := by unfold E6; rw [if_neg (by omega)]; omega
 refine ⟨?_, ⟨rfl, ?_, ?_, ?_, fun i hi => ?_, rfl⟩, ?_⟩
 ·obtain ⟨y, hy⟩ : ∃ y : XS, y.c = c := ⟨⟨c, 0, 0, [], [], [], [], [], [], 0⟩, rfl⟩
  have h1 := (GI.new hok who text ht).hap0 (by omega) ⟨4, 0, p, none, 0⟩ (show (4 : Int) ≠ 1 by omega) y hy (by show c.sl ≤ 8; omega)
  have h2 := h1.hap0 (by omega) ⟨6, 0, [], none, 0⟩ (show (6 : Int) ≠ 1 by omega) y (by rw [C1G]; exact hy) (by show c.sl ≤ 8; omega)
  rw [C6r (by rw [hy]; omega), C1G] at h2
  have h3 := h2.hap0 (by omega) ⟨7, now, [], none, 0⟩ (show (7 : Int) ≠ 1 by omega) y hy (by show c.sl ≤ 8; omega)
  exact h3
 ·show D3 (H7 (K1 c).cells 1 (0 + 1)) 1 = 1
  rw [A1D, if_pos (by omega)]; rfl
 ·show U7 0 now = now
  unfold U7; rw [if_pos (by omega)]; omega
 ·show K8 (A0C (p5 (K1 c).sl 0 .bld) 0 p) 0 = .rdy p
  unfold A0C
  rw [C4E (by omega)]
  simp only
  rw [if_pos hp]
  exact C4E (by rw [A46]; omega) _
 ·show (List.replicate c.sh.toNat (-1 : Int)).getD i 0 = -1
  rw [List.getD_eq_getElem?_getD, List.getElem?_replicate_of_lt hi]; rfl
 ·show D3 (H7 (K1 c).cells 1 (0 + 1)) (E6 c who) = 0
  rw [m8 _ _ (by omega)]; exact A2m _ _
@[simp] theorem D45 (a b c : Value) (K : Value → WP) : A0 PR (Instr.field 42 (.agg #[a, b, c]) 2) K = K c := C3Y rfl K
theorem B7W {N E : Nat} {S : List Nat} {w0 : World} {H Hk : List Res} {X : Nat → Prop} {K : Value → WP} (m : WoH) (d : WoG) (x : XH) (ac : ActV) (j : JW) (hE : E ≤ 1000) (hg : GI N E j (m.ug d).ws) (hx : XI E x.xs) (ha : ac.pool.length ≤ 8) (hv : ∀ w', KS false S w0 w' → F9 w' ac.pv ac.pool.length (ac.pool.flatMap H3))
  (hs : Sels (C7 (m.ug d) ++ (W3 x ++ Hk)) H)
  (hK : ∀ (d' : WoG) (x' : XH), (m.ug d').ws = Q6 ac (m.ug d).ws x.xs → d'.ts = d.ts → x'.b = x.b → x'.xs = T7 ac x.xs → TW false S w0 (C7 (m.ug d') ++ (W3 x' ++ Hk)) (K (.tuple #[]))) :
  TW false S w0 H (B5 PR X 44 [.pointer (some ⟨m.b, 0, none⟩), .pointer (some ⟨x.b, 0, none⟩), ac.val] K) := by
 have hls : (m.ug d).ls.length ≤ 8 := by have := hg.ok.sl; simpa [WoH.ws] using this
 refine Sels.tw hs ?_
 rw [← List.append_assoc]
 refine D0 (Hc := C7 (m.ug d) ++ W3 x) (Hk := Hk) A4A (fun w' hw' hs => C25 w' (m.ug d) x ac (GI.hapOk (j := j) hg hx hE hls ha) (C0W hv hw') hs) (B3C _ _) ?_
 rintro ⟨d', x'⟩ v ⟨rfl, h1, h2, h3, h4, h5⟩
 simp only at h1 h2 h3 h4
 rw [List.append_assoc]
 exact hK d' x' h1 h4 h2 h3
abbrev C8c (s : ByteArray) : Value := .string s
abbrev LA := WoG × S7 × MoH
def laH (m : WoH) (y : LA) : List Res := N4 y.2.1 :: (C7 (m.ug y.1) ++ D7 y.2.2)
structure LaC (m : WoH) (N : Nat) (c : CfgV) (p : List E9) (now who : Int) (mb : Nat) (y : LA) : Prop where
 tab : ∀ t ∈ y.2.1, TabOk 0 t.2 ∨ TabOk c.cp.toNat t.2
 sub : A2p y.1.ts y.2.1
 nil : (L9, []) ∈ y.2.1
 g : GI N 0 (E7 who H4) (m.ug y.1).ws
 w : AlW N c p now ((m.ug y.1).ws.tabs) (m.ug y.1).ws
 pin : D3 (m.ug y.1).ws.cells (E6 c who) = 0
 m : AlM c p ((m.ug y.1).ws.tabs) y.2.2.st
 inv : Inv c y.2.2.st
 b : y.2.2.b = mb
set_option maxHeartbeats 8000000 in
theorem B5S (w : World) (c : CfgV) (who : Int) (tv : Value) (texts : List ByteArray) (pv : Value) (p : List E9) (now : Int) (htl : texts.length ≤ 9223372036854775807) (hpl : p.length ≤ 9223372036854775807) (hts : ∀ t ∈ texts, t.size ≤ 9223372036854775807)
  (ht : F9 w tv texts.length (texts.map C8c)) (hp : F9 w pv p.length (p.flatMap H3)) :
  Fn PR C0 12 #[c.val, .int .i64 who, tv, pv, .int .i64 now] w (fun v w' => v = .bool true ∧ D2 [] w w') := by
 refine Fn.pure (A16 (TW.go (κ := false) (S := []) ?_))
 unfold l0
 have hchk := fun (w' : World) (H : List Res) (hw' : LW false [] w H w') (h : p.length ≤ 8) => A4U w' pv p (by omega) (hp.ks hw'.ks (by simp))
 obtain ⟨pa, pc, rfl, hpr⟩ := hp.form
 obtain ⟨qa, qc, rfl, hqr⟩ := ht.form
 simp only [CfgV.val]
 (have zz:=trivial;repeat((first|clear zz|with_reducible first|refine A3 ?_|refine A5 fun _=>?_|refine A4 fun _=>?_);try simp(disch:=first|omega|assumption|((repeat(first|exact A1|exact uH|apply A2|apply uT));first|done|fail)|(simp;first|done|omega|fail))[]))
 rename_i bc
 refine C4 A4w (fun w' _ => C1F w') ?_
 (have zz:=trivial;repeat((first|clear zz|with_reducible first|refine A3 ?_|refine A5 fun _=>?_|refine A4 fun _=>?_);try simp(disch:=first|omega|assumption|((repeat(first|exact A1|exact uH|apply A2|apply uT));first|done|fail)|(simp;first|done|omega|fail))[]))
 refine C4 A4l (fun w' _ => C40 w' c) ?_
 cases hs : A7n c with
 | false => (have zz:=trivial;repeat((first|clear zz|with_reducible first|refine A3 ?_|refine A5 fun _=>?_|refine A4 fun _=>?_);try simp(disch:=first|omega|assumption|((repeat(first|exact A1|exact uH|apply A2|apply uT));first|done|fail)|(simp;first|done|omega|fail))[])); exact B0 rfl
 | true =>
 by_cases hl6 : texts.length ≤ 6
 case neg =>
  have h3 : 6 < (texts.length : Int) := by omega
  have h4 : 6 < texts.length := by omega
  (have zz:=trivial;repeat((first|clear zz|with_reducible first|refine A3 ?_|refine A5 fun _=>?_|refine A4 fun _=>?_);try simp(disch:=first|omega|assumption|((repeat(first|exact A1|exact uH|apply A2|apply uT));first|done|fail)|(simp;first|done|omega|fail))[h3, h4])); exact B0 rfl
 have h3 : ¬ 6 < (texts.length : Int) := by omega
 have h4 : ¬ 6 < texts.length := by omega
 by_cases hp8 : p.length ≤ 8
 case neg =>
  have h7 : 8 < (p.length : Int) := by omega
  have h8 : 8 < p.length := by omega
  (have zz:=trivial;repeat((first|clear zz|with_reducible first|refine A3 ?_|refine A5 fun _=>?_|refine A4 fun _=>?_);try simp(disch:=first|omega|assumption|((repeat(first|exact A1|exact uH|apply A2|apply uT));first|done|fail)|(simp;first|done|omega|fail))[h3, h4, h7, h8])); exact B0 rfl
 have h7 : ¬ 8 < (p.length : Int) := by omega
 have h8 : ¬ 8 < p.length := by omega
 (have zz:=trivial;repeat((first|clear zz|with_reducible first|refine A3 ?_|refine A5 fun _=>?_|refine A4 fun _=>?_);try simp(disch:=first|omega|assumption|((repeat(first|exact A1|exact uH|apply A2|apply uT));first|done|fail)|(simp;first|done|omega|fail))[h3, h4, h7, h8]))
 refine C4 A2s (fun w' hw' => hchk w' _ hw' hp8) ?_
 clear hchk
 by_cases hck : L5 p = 0
 case neg => (have zz:=trivial;repeat((first|clear zz|with_reducible first|refine A3 ?_|refine A5 fun _=>?_|refine A4 fun _=>?_);try simp(disch:=first|omega|assumption|((repeat(first|exact A1|exact uH|apply A2|apply uT));first|done|fail)|(simp;first|done|omega|fail))[hck])); exact B0 rfl
 by_cases hw1 : who < 1
 ·(have zz:=trivial;repeat((first|clear zz|with_reducible first|refine A3 ?_|refine A5 fun _=>?_|refine A4 fun _=>?_);try simp(disch:=first|omega|assumption|((repeat(first|exact A1|exact uH|apply A2|apply uT));first|done|fail)|(simp;first|done|omega|fail))[hck, hw1])); exact B0 rfl
 by_cases hw2 : c.wk < who
 ·(have zz:=trivial;repeat((first|clear zz|with_reducible first|refine A3 ?_|refine A5 fun _=>?_|refine A4 fun _=>?_);try simp(disch:=first|omega|assumption|((repeat(first|exact A1|exact uH|apply A2|apply uT));first|done|fail)|(simp;first|done|omega|fail))[hck, hw1, hw2])); exact B0 rfl
 by_cases hn1 : now < 0
 ·(have zz:=trivial;repeat((first|clear zz|with_reducible first|refine A3 ?_|refine A5 fun _=>?_|refine A4 fun _=>?_);try simp(disch:=first|omega|assumption|((repeat(first|exact A1|exact uH|apply A2|apply uT));first|done|fail)|(simp;first|done|omega|fail))[hck, hw1, hw2, hn1])); exact B0 rfl
 by_cases hn2 : 1000000 < now
 ·(have zz:=trivial;repeat((first|clear zz|with_reducible first|refine A3 ?_|refine A5 fun _=>?_|refine A4 fun _=>?_);try simp(disch:=first|omega|assumption|((repeat(first|exact A1|exact uH|apply A2|apply uT));first|done|fail)|(simp;first|done|omega|fail))[hck, hw1, hw2, hn1, hn2])); exact B0 rfl
 (have zz:=trivial;repeat((first|clear zz|with_reducible first|refine A3 ?_|refine A5 fun _=>?_|refine A4 fun _=>?_);try simp(disch:=first|omega|assumption|((repeat(first|exact A1|exact uH|apply A2|apply uT));first|done|fail)|(simp;first|done|omega|fail))[hck, hw1, hw2, hn1, hn2]))
 refine G4 A9B (fun w' hw' => C0B w' c) ?_
 cases hok : M1 c with
 | false =>
  simp only [Bool.false_eq_true, if_false]
  rintro m v rfl
  (have zz:=trivial;repeat((first|clear zz|with_reducible first|refine A3 ?_|refine A5 fun _=>?_|refine A4 fun _=>?_);try simp(disch:=first|omega|assumption|((repeat(first|exact A1|exact uH|apply A2|apply uT));first|done|fail)|(simp;first|done|omega|fail))[]))
  refine C6W (fun _ => ?_) (fun mm h => by rw [hok] at h; cases h)
  (have zz:=trivial;repeat((first|clear zz|with_reducible first|refine A3 ?_|refine A5 fun _=>?_|refine A4 fun _=>?_);try simp(disch:=first|omega|assumption|((repeat(first|exact A1|exact uH|apply A2|apply uT));first|done|fail)|(simp;first|done|omega|fail))[]))
  exact B0 rfl
 | true =>
 simp only [if_true]
 rintro m v ⟨rfl, hmc, hws⟩
 simp only [C7, D8, List.cons_append, List.nil_append]
 (have zz:=trivial;repeat((first|clear zz|with_reducible first|refine A3 ?_|refine A5 fun _=>?_|refine A4 fun _=>?_);try simp(disch:=first|omega|assumption|((repeat(first|exact A1|exact uH|apply A2|apply uT));first|done|fail)|(simp;first|done|omega|fail))[]))
 refine C6W (fun h => by rw [hok] at h; cases h) ?_
 intro mm _ hmst hinv
 simp only [D7, List.cons_append, List.nil_append]
 (have zz:=trivial;repeat((first|clear zz|with_reducible first|refine A3 ?_|refine A5 fun _=>?_|refine A4 fun _=>?_);try simp(disch:=first|omega|assumption|((repeat(first|exact A1|exact uH|apply A2|apply uT));first|done|fail)|(simp;first|done|omega|fail))[]))
 refine C4 A4q (fun w' hw' => C1C w' m (hw'.pt (b := m.b) (by unfold E5; (repeat constructor)))) ?_
 (have zz:=trivial;repeat((first|clear zz|with_reducible first|refine A3 ?_|refine A5 fun _=>?_|refine A4 fun _=>?_);try simp(disch:=first|omega|assumption|((repeat(first|exact A1|exact uH|apply A2|apply uT));first|done|fail)|(simp;first|done|omega|fail))[]))
 refine G4 A6e (fun w' hw' => C51 w' c hok) ?_
 rintro x v ⟨rfl, hx1, hx2, hx3, hx4, hx5, hx6, hx7, hx8, hx9, hx10⟩
 simp only [List.cons_append, List.nil_append]
 (have zz:=trivial;repeat((first|clear zz|with_reducible first|refine A3 ?_|refine A5 fun _=>?_|refine A4 fun _=>?_);try simp(disch:=first|omega|assumption|((repeat(first|exact A1|exact uH|apply A2|apply uT));first|done|fail)|(simp;first|done|omega|fail))[]))
 have hok2 := hok
 simp only [M1, Y7, Bool.and_eq_true, decide_eq_true_eq] at hok2
 obtain ⟨N, hN⟩ : ∃ N : Nat, c.sh = N := ⟨c.sh.toNat, by omega⟩
 have hNt : c.sh.toNat = N := by omega
 have hxi0 : XI 0 x.xs := ⟨by show 1 ≤ x.c.sh ∧ x.c.sh ≤ 16; rw [hx1]; omega, by show x.c.sl ≤ 8; rw [hx1]; omega, by show 0 ≤ x.now ∧ x.now ≤ _; rw [hx10]; omega, by show (x.locks.length : Int) = x.c.sh; rw [hx5, hx1, List.length_replicate]; omega, by show x.sl.length ≤ 8; rw [hx6, List.length_replicate]; omega, by show 0 ≤ x.ep ∧ x.ep ≤ 0; rw [hx2]; omega⟩
 have hxc : x.xs.c = c := hx1
 have hcc : m.c = c := congrArg WS.c hws
 have hg0 := GI.new hok who H4 (by simp [H4])
 rw [hNt, ← hws] at hg0
 have htabs : ∀ t ∈ m.ts, TabOk c.cp.toNat t.2 := fun t ht => by
  have e1 : m.ts.map (·.2) = List.replicate c.sh.toNat (newE c.cp.toNat) := congrArg WS.tabs hws
  have : t.2 ∈ m.ts.map (·.2) := List.mem_map.2 ⟨t, ht, rfl⟩
  rw [e1] at this
  rw [(List.mem_replicate.1 this).2]; exact TabOk.new (by omega)
 clear hmc hx1 hx2 hx3 hx4 hx5 hx6 hx7 hx8 hx9 hx10
 have hcsl : ∀ d : WoG, (m.ug d).ws.c.sl ≤ 8 := fun d => by show m.c.sl ≤ 8; rw [hcc]; omega
 have hwc : ∀ d : WoG, (m.ug d).ws.c = c := fun d => hcc
 refine l3 218 4 ?_
 refine Y8 (r := .slice none 0 0) (l := []) (ts := m.ts) (by (repeat' constructor)) ?_
 obtain ⟨P, hP⟩ : ∃ P, P = m.ts ++ [(L9, [])] := ⟨_, rfl⟩
 rw [show ((.slice none 0 0 : Value), ([] : List EnV)) = (L9, []) from rfl, ← hP]
 refine Sels.tw (rs := C7 (m.ug m.dg) ++ (W3 x ++ (N4 P :: v7 bc c :: D7 mm))) (by simp only [show m.ug m.dg = m from rfl, C7, D8, W3, D7, List.cons_append, List.nil_append]; (repeat' constructor)) ?_
 refine B7W (N := N) (E := 0) (Hk := N4 P :: v7 bc c :: D7 mm) m m.dg x ⟨4, 0, p, pa, pc⟩ (E7 who H4) (by omega) hg0 hxi0 hp8 (fun w' hk => hp.ks hk (by simp)) (A02 _) ?_
 intro d1 x1 e1 e2 e3 e4
 have hg1 := hg0.hap0 (by omega) ⟨4, 0, p, pa, pc⟩ (show (4 : Int) ≠ 1 by omega) x.xs (hxc.trans hcc.symm) (hcsl m.dg)
 rw [show m.ws = (m.ug m.dg).ws from rfl, ← e1] at hg1
 have hxi1 := hxi0.hap ⟨4, 0, p, pa, pc⟩
 rw [← e4] at hxi1
 have hx1c : x1.xs.c = c := by rw [e4, C3v]; exact hxc
 rw [← e3]
 (have zz:=trivial;repeat((first|clear zz|with_reducible first|refine A3 ?_|refine A5 fun _=>?_|refine A4 fun _=>?_);try simp(disch:=first|omega|assumption|((repeat(first|exact A1|exact uH|apply A2|apply uT));first|done|fail)|(simp;first|done|omega|fail))[]))
 refine B7W (N := N) (E := 1) (Hk := N4 P :: v7 bc c :: D7 mm) m d1 x1 ⟨6, 0, [], none, 0⟩ (E7 who H4) (by omega) hg1.up hxi1 (by simp) (fun w' hk => Or.inl ⟨rfl, rfl, none, 0, rfl⟩) (A02 _) ?_
 intro d2 x2 f1 f2 f3 f4
 have hg2 := hg1.hap0 (by omega) ⟨6, 0, [], none, 0⟩ (show (6 : Int) ≠ 1 by omega) x1.xs (hx1c.trans (hwc _).symm) (hcsl d1)
 rw [← f1] at hg2
 have hxi2 := hxi1.hap ⟨6, 0, [], none, 0⟩
 rw [← f4] at hxi2
 rw [← f3]
 (have zz:=trivial;repeat((first|clear zz|with_reducible first|refine A3 ?_|refine A5 fun _=>?_|refine A4 fun _=>?_);try simp(disch:=first|omega|assumption|((repeat(first|exact A1|exact uH|apply A2|apply uT));first|done|fail)|(simp;first|done|omega|fail))[]))
 refine B7W (N := N) (E := 2) (Hk := N4 P :: v7 bc c :: D7 mm) m d2 x2 ⟨7, now, [], none, 0⟩ (E7 who H4) (by omega) hg2.up.up hxi2 (by simp) (fun w' hk => Or.inl ⟨rfl, rfl, none, 0, rfl⟩) (A02 _) ?_
 intro d3 x3 h1' h2' h3' h4'
 have hws3 : (m.ug d3).ws = alX c p now := by
  rw [h1', f1, e1, D1k, C6r (by rw [hx1c]; omega), C1G, show (m.ug m.dg).ws = K1 c from hws]; rfl
 obtain ⟨i1, i2, i3⟩ := C7J hok hck (now := now) (who := who) ⟨by omega, by omega⟩ ⟨by omega, by omega⟩ (text := H4) (by simp [H4])
 rw [hNt, ← hws3] at i1 i2
 rw [← hws3] at i3
 have hts3 : d3.ts = m.ts := h2'.trans (f2.trans e2)
 (have zz:=trivial;repeat((first|clear zz|with_reducible first|refine A3 ?_|refine A5 fun _=>?_|refine A4 fun _=>?_);try simp(disch:=first|omega|assumption|((repeat(first|exact A1|exact uH|apply A2|apply uT));first|done|fail)|(simp;first|done|omega|fail))[]))
 refine Sels.tw (rs := D7 mm ++ (C7 (m.ug d3) ++ [N4 P, v7 bc c])) (by simp only [C7, W3, D7, List.cons_append, List.nil_append]; (repeat' constructor)) ?_
 refine C4d (c := c) (m := mm) (o := ⟨1, H4, p, 0⟩) (v := .slice pa p.length pc) (now := 0) (doV mm.st ⟨1, H4, p, 0⟩ 0) hinv A8y (fun w' hw' => C14 hw' hp (show p.length ≤ 1000 by omega)) (by simp [H4]) rfl ?_
 intro mm1 hb1 hst1 hinv1
 have hM : AlM c p (List.replicate c.sh.toNat (newE c.cp.toNat)) mm1.st := by
  rw [hst1, C8x _ _ _ rfl]
  unfold B0l
  simp only
  rw [if_pos hck, hmst]
  exact ⟨rfl, rfl, by simp [A22]⟩
 have hC0 : LaC m N c p now who mm.b (d3, P, mm1) := by
  refine ⟨fun t ht => ?_, fun t ht => ?_, by rw [hP]; exact List.mem_append_right _ (List.mem_singleton.2 rfl), i1, ⟨i2.cc, i2.cur, i2.nw, i2.sl, i2.own, rfl⟩, i3, ?_, hinv1, hb1⟩
  ·rw [hP] at ht
   rcases List.mem_append.1 ht with ht | ht
   ·exact Or.inr (htabs t ht)
   ·rw [List.mem_singleton.1 ht]; exact Or.inl B0U
  ·have ht : t ∈ d3.ts := ht
   rw [hts3] at ht
   rw [hP]; exact List.mem_append_left _ ht
  ·rw [show ((m.ug (d3, P, mm1).1).ws.tabs) = List.replicate c.sh.toNat (newE c.cp.toNat) from (i2.tabs.trans (by rw [hNt])).trans rfl]; exact hM
 clear hM i1 i2 i3 hws3 hts3 h1' h2' h3' h4' f1 f2 f3 f4 e1 e2 e3 e4 hg0 hg1 hg2 hxi0 hxi1 hxi2 hx1c hxc htabs hP hst1 hinv1 hinv hmst hws
 obtain ⟨mb, hmb⟩ : ∃ mb, mb = mm.b := ⟨_, rfl⟩
 rw [← hmb] at hC0 ⊢
 clear hmb hb1
 (have zz:=trivial;repeat((first|clear zz|with_reducible first|refine A3 ?_|refine A5 fun _=>?_|refine A4 fun _=>?_);try simp(disch:=first|omega|assumption|((repeat(first|exact A1|exact uH|apply A2|apply uT));first|done|fail)|(simp;first|done|omega|fail))[]))
 refine Sels.tw (rs := v7 bc c :: laH m (d3, P, mm1)) (by simp only [laH, C7, D7, List.cons_append, List.nil_append]; (repeat' constructor)) ?_
 refine w7 (α := LA) texts.length (fun _ _ => .bool false) (fun _ y => v7 bc c :: laH m y) (fun _ y => LaC m N c p now who mb y) _ hC0 ?_
 clear hC0
 rintro i ⟨d, P, mm⟩ hi hC L hL
 by_cases hlt : i < texts.length
 ·have hlt' : ((i : Nat) : Int) < (texts.length : Nat) := by omega
  obtain ⟨qb, qo, rfl, hrow⟩ := hqr (by omega)
  obtain ⟨text, hx⟩ : ∃ t, texts[i]? = some t := ⟨_, List.getElem?_eq_getElem hlt⟩
  have g0 := hrow.one (f := C8c) hx
  have hts := hts text (List.mem_of_getElem? hx)
  by_cases htx : text.size ≤ 100
  case neg =>
   have h1 : 100 < (text.size : Int) := by omega
   have h2 : 100 < text.size := by omega
   (have zz:=trivial;repeat((first|clear zz|with_reducible first|refine A3 ?_|refine A5 fun _=>?_|refine A4 fun _=>?_);try simp(disch:=first|omega|assumption|((repeat(first|exact A1|exact uH|apply A2|apply uT));first|done|fail)|(simp;first|done|omega|fail))[hlt, hlt', g0, h1, h2]))
   exact B0 rfl
  have h1 : ¬ 100 < (text.size : Int) := by omega
  have h2 : ¬ 100 < text.size := by omega
  (have zz:=trivial;repeat((first|clear zz|with_reducible first|refine A3 ?_|refine A5 fun _=>?_|refine A4 fun _=>?_);try simp(disch:=first|omega|assumption|((repeat(first|exact A1|exact uH|apply A2|apply uT));first|done|fail)|(simp;first|done|omega|fail))[hlt, hlt', g0, h1, h2]))
  refine G4 A2d (fun w' hw' => B2c w' who text) ?_
  rintro b v rfl
  simp only [List.cons_append, List.nil_append]
  (have zz:=trivial;repeat((first|clear zz|with_reducible first|refine A3 ?_|refine A5 fun _=>?_|refine A4 fun _=>?_);try simp(disch:=first|omega|assumption|((repeat(first|exact A1|exact uH|apply A2|apply uT));first|done|fail)|(simp;first|done|omega|fail))[]))
  refine Sels.tw (rs := Y5 b m (E7 who text, L9, d, P) ++ (D7 mm ++ [v7 bc c])) (by simp only [laH, Y5, F7, C7, D7, List.cons_append, List.nil_append]; (repeat' constructor)) ?_
  have hA := C3B (text := text) hC.g hC.w hC.pin hC.m htx ⟨by omega, by omega⟩ hN
  obtain ⟨M, Q, hM10, hMe, hQ0, hQs, hQg, hQe⟩ := hA
  have hjc0 : JsC c.cp.toNat (E7 who text, L9, d, P) := ⟨hC.tab, hC.sub, hC.nil⟩
  have hcpx : ∀ a : JA, (r7 m a).c.cp.toNat = c.cp.toNat := fun a => by show m.c.cp.toNat = _; rw [hcc]
  have hnilP := hC.nil
  refine C1r (fun y : JA × Nat => Y5 b m y.1 ++ (D7 mm ++ [v7 bc c])) (fun y => y.2 ≤ M ∧ JsC c.cp.toNat y.1 ∧ Q y.2 y.1.1 (r7 m y.1) ∧ A2p P y.1.2.2.2) (fun y => M - y.2) ((E7 who text, L9, d, P), 0) (fun _ => .bool false) (fun y => .int .i64 (y.2 : Nat)) ⟨Nat.zero_le _, hjc0, hQ0, fun _ h => h⟩ ?_
  rintro ⟨⟨j, tv, d', P'⟩, n⟩ ⟨hn, hjc, hQ, hsP⟩ L2 hL2
  simp only at hn hjc hQ hsP hL2 ⊢
  have hnt : n < 20 := by omega
  have hnt' : ((n : Nat) : Int) < 20 := by omega
  have hRw : ∀ (w' : World) (H : List Res), LW false [] w H w' → G6 b j tv ∈ H → (∀ r ∈ C7 (m.ug d'), r ∈ H) → Fn PR C0 23 #[.pointer (some ⟨b, 0, none⟩), .pointer (some ⟨m.b, 0, none⟩)] w' (fun u w'' => u = .bool (j.ready (m.ug d').ws) ∧ D2 [] w' w'') := fun w' H hw' h1 h2 => B7N (m := m.ug d') hw' h1 h2
  by_cases hnM : n < M
  ·obtain ⟨q1, q2, q3⟩ := hQs n j _ hnM hQ
   have q1 : j.ready (m.ug d').ws = true := q1
   rw [q1] at hRw
   (have zz:=trivial;repeat((first|clear zz|with_reducible first|refine A3 ?_|refine A5 fun _=>?_|refine A4 fun _=>?_);try simp(disch:=first|omega|assumption|((repeat(first|exact A1|exact uH|apply A2|apply uT));first|done|fail)|(simp;first|done|omega|fail))[hnt, hnt']))
   refine C4 M9 (fun w' hw' => hRw w' _ hw' (by simp [Y5, F7]) (fun r hr => by simp only [Y5, F7]; simp [hr])) ?_
   (have zz:=trivial;repeat((first|clear zz|with_reducible first|refine A3 ?_|refine A5 fun _=>?_|refine A4 fun _=>?_);try simp(disch:=first|omega|assumption|((repeat(first|exact A1|exact uH|apply A2|apply uT));first|done|fail)|(simp;first|done|omega|fail))[hnt, hnt']))
   refine D4y (N := N) (E := 0) (Hk := D7 mm ++ [v7 bc c]) b m (j, tv, d', P') c.cp.toNat hjc (by omega) (hQg _ _ _ hQ) (hcpx _) (A02 _) ?_
   intro a' k1 k2 k3 k4
   obtain ⟨t1, t2, t3, ht3⟩ : ∃ t1 t2 t3, (j.step (r7 m (j, tv, d', P'))).2.2 = (t1, t2, t3) := ⟨_, _, _, rfl⟩
   rw [ht3] at q2 ⊢
   simp only at q2
   subst q2
   simp only [N1]
   (have zz:=trivial;repeat((first|clear zz|with_reducible first|refine A3 ?_|refine A5 fun _=>?_|refine A4 fun _=>?_);try simp(disch:=first|omega|assumption|((repeat(first|exact A1|exact uH|apply A2|apply uT));first|done|fail)|(simp;first|done|omega|fail))[]))
   have h5 := hL2 (a', n + 1) ⟨by simp only; omega, k3, by simp only; rw [k1, k2]; exact q3, fun t ht => k4 t (hsP t ht)⟩ (by simp only; omega)
   rw [show (((n + 1 : Nat)) : Int) = (n : Int) + 1 from by omega] at h5
   exact h5
  obtain rfl : n = M := by omega
  clear hL2 hQs hQ0 hjc0
  obtain ⟨q1, q2, q3, q4, q5⟩ := hQe j _ hQ
  have q1 : j.ready (m.ug d').ws = false := q1
  rw [q1] at hRw
  (have zz:=trivial;repeat((first|clear zz|with_reducible first|refine A3 ?_|refine A5 fun _=>?_|refine A4 fun _=>?_);try simp(disch:=first|omega|assumption|((repeat(first|exact A1|exact uH|apply A2|apply uT));first|done|fail)|(simp;first|done|omega|fail))[hnt, hnt']))
  refine C4 M9 (fun w' hw' => hRw w' _ hw' (by simp [Y5, F7]) (fun r hr => by simp only [Y5, F7]; simp [hr])) ?_
  (have zz:=trivial;repeat((first|clear zz|with_reducible first|refine A3 ?_|refine A5 fun _=>?_|refine A4 fun _=>?_);try simp(disch:=first|omega|assumption|((repeat(first|exact A1|exact uH|apply A2|apply uT));first|done|fail)|(simp;first|done|omega|fail))[hnt, hnt']))
  obtain ⟨A, hAe⟩ : ∃ A, A = (U6 mm.st text now).2 := ⟨_, rfl⟩
  rw [← hAe] at q2 hMe
  have hnow : (m.ug d').now = now := q3.nw
  have hdo : doV mm.st ⟨0, text, [], 0⟩ now = ((U6 mm.st text now).1, A) := by rw [hAe]; exact C7l mm.st ⟨0, text, [], 0⟩ now rfl
  have hinv := hC.inv
  have hmb := hC.b
  simp only at hinv hmb
  have hwk : (m.ug d').c.wk ≤ 64 := (hQg _ _ _ hQ).ok.wk.2
  have hcl : (r7 m (j, tv, d', P')).cells.length ≤ 1024 := by have h1 := (hQg _ _ _ hQ).ok.cells; have h2 := (hQg _ _ _ hQ).ok.wk; omega
  refine C0b (α := Nat × MoH) (fun y => y.2.b = mb ∧ y.2.st = (U6 mm.st text now).1 ∧ Inv c y.2.st) (fun y => .pt y.1 (.cells #[.int .i64 A.err, .int .i64 A.bk, .bool A.made, .int .i64 A.count] 55) :: (Y5 b m (j, tv, d', P') ++ (D7 y.2 ++ [v7 bc c]))) (fun y => .pointer (some ⟨y.1, 0, none⟩)) ?_ ?_
  ·rintro ⟨b22, mm2⟩ ⟨hb2, hst2, hinv2⟩
   simp only at hb2 hst2 hinv2 ⊢
   obtain ⟨box, hbox⟩ : ∃ box : Res, box = .pt b22 (.cells #[.int .i64 A.err, .int .i64 A.bk, .bool A.made, .int .i64 A.count] 55) := ⟨_, rfl⟩
   have hA1 := fun (w' : World) (g : bl w' b = some (.cells (K6 j tv) 130 (0, 0))) => A6W w' b j tv g
   rw [q2] at hA1
   simp only [Y5, F7, C7, D8, E5, List.cons_append, List.nil_append]
   rw [show m.b = (m.ug d').b from rfl]
   by_cases h9 : A.err = 9
   ·rw [if_pos h9] at hMe
    subst hMe
    (have zz:=trivial;repeat((first|clear zz|with_reducible first|refine A3 ?_|refine A5 fun _=>?_|refine A4 fun _=>?_);try simp(disch:=first|omega|assumption|((repeat(first|exact A1|exact uH|apply A2|apply uT));first|done|fail)|(simp;first|done|omega|fail))[h9]))
    refine C4 V6 (fun w' hw' => hA1 w' (hw'.pt (b := b) (by unfold G6; (repeat constructor)))) ?_
    simp only [AnsV.val]
    rw [B6D (by (repeat constructor)) (by rfl)]
    (have zz:=trivial;repeat((first|clear zz|with_reducible first|refine A3 ?_|refine A5 fun _=>?_|refine A4 fun _=>?_);try simp(disch:=first|omega|assumption|((repeat(first|exact A1|exact uH|apply A2|apply uT));first|done|fail)|(simp;first|done|omega|fail))[h9, beq_self_eq_true, Bool.and_true, Bool.not_true, decide_true]))
    refine C4 N7 (fun w' hw' => A2v w' (m.ug d').b (m.ug d').c _ _ _ _ _ _ who hwk (hw'.pt (b := (m.ug d').b) (by unfold E5; (repeat constructor)))) ?_
    (have zz:=trivial;repeat((first|clear zz|with_reducible first|refine A3 ?_|refine A5 fun _=>?_|refine A4 fun _=>?_);try simp(disch:=first|omega|assumption|((repeat(first|exact A1|exact uH|apply A2|apply uT));first|done|fail)|(simp;first|done|omega|fail))[]))
    refine C0E b m (j, tv, d', P') (E6 (m.ug d').c who) hcl (Hk := .pt b22 (.cells #[.int .i64 9, .int .i64 A.bk, .bool A.made, .int .i64 A.count] 55) :: (D7 mm2 ++ [v7 bc c])) (by simp only [Y5, F7, C7, D8, E5, D7, List.cons_append, List.nil_append]; (repeat' constructor)) ?_
    intro n1
    rw [show D3 (r7 m (j, tv, d', P')).cells (E6 (m.ug d').c who) = 0 from by rw [show (m.ug d').c = c from hcc]; exact q4]
    (have zz:=trivial;repeat((first|clear zz|with_reducible first|refine A3 ?_|refine A5 fun _=>?_|refine A4 fun _=>?_);try simp(disch:=first|omega|assumption|((repeat(first|exact A1|exact uH|apply A2|apply uT));first|done|fail)|(simp;first|done|omega|fail))[]))
    have hC2 : LaC m N c p now who mb ({ d' with cn := n1 }, P', mm2) := ⟨hjc.tab, hjc.sub, hsP _ hnilP, GI.job (hQg _ _ _ hQ) who (by simp [H4]), q3, q4, by have h := q5; rw [← hst2] at h; exact h, hinv2, hb2⟩
    have h5 := hL hlt _ hC2
    refine Sels.tw ?_ h5
    simp only [laH, Y5, F7, cnA, C7, D7, List.cons_append, List.nil_append]
    (repeat' constructor)
   rw [if_neg h9] at hMe
   subst hMe
   (have zz:=trivial;repeat((first|clear zz|with_reducible first|refine A3 ?_|refine A5 fun _=>?_|refine A4 fun _=>?_);try simp(disch:=first|omega|assumption|((repeat(first|exact A1|exact uH|apply A2|apply uT));first|done|fail)|(simp;first|done|omega|fail))[h9]))
   refine C4 V6 (fun w' hw' => hA1 w' (hw'.pt (b := b) (by unfold G6; (repeat constructor)))) ?_
   simp only [AnsV.val]
   rw [B6D (by (repeat constructor)) (by rfl)]
   (have zz:=trivial;repeat((first|clear zz|with_reducible first|refine A3 ?_|refine A5 fun _=>?_|refine A4 fun _=>?_);try simp(disch:=first|omega|assumption|((repeat(first|exact A1|exact uH|apply A2|apply uT));first|done|fail)|(simp;first|done|omega|fail))[beq_self_eq_true, Bool.and_true, Bool.not_true, decide_true]))
   refine C4 N7 (fun w' hw' => A2v w' (m.ug d').b (m.ug d').c _ _ _ _ _ _ who hwk (hw'.pt (b := (m.ug d').b) (by unfold E5; (repeat constructor)))) ?_
   (have zz:=trivial;repeat((first|clear zz|with_reducible first|refine A3 ?_|refine A5 fun _=>?_|refine A4 fun _=>?_);try simp(disch:=first|omega|assumption|((repeat(first|exact A1|exact uH|apply A2|apply uT));first|done|fail)|(simp;first|done|omega|fail))[]))
   refine C0E b m (j, tv, d', P') (E6 (m.ug d').c who) hcl (Hk := .pt b22 (.cells #[.int .i64 A.err, .int .i64 A.bk, .bool A.made, .int .i64 A.count] 55) :: (D7 mm2 ++ [v7 bc c])) (by simp only [Y5, F7, C7, D8, E5, D7, List.cons_append, List.nil_append]; (repeat' constructor)) ?_
   intro n1
   rw [show D3 (r7 m (j, tv, d', P')).cells (E6 (m.ug d').c who) = 0 from by rw [show (m.ug d').c = c from hcc]; exact q4]
   (have zz:=trivial;repeat((first|clear zz|with_reducible first|refine A3 ?_|refine A5 fun _=>?_|refine A4 fun _=>?_);try simp(disch:=first|omega|assumption|((repeat(first|exact A1|exact uH|apply A2|apply uT));first|done|fail)|(simp;first|done|omega|fail))[]))
   have hC2 : LaC m N c p now who mb ({ d' with cn := n1 }, P', mm2) := ⟨hjc.tab, hjc.sub, hsP _ hnilP, GI.job (hQg _ _ _ hQ) who (by simp [H4]), q3, q4, by have h := q5; rw [← hst2] at h; exact h, hinv2, hb2⟩
   have h5 := hL hlt _ hC2
   refine Sels.tw ?_ h5
   simp only [laH, Y5, F7, cnA, C7, D7, List.cons_append, List.nil_append]
   (repeat' constructor)
  ·intro J hJ
   simp only [Y5, F7, C7, D8, E5, List.cons_append, List.nil_append, hnow]
   rw [show m.b = (m.ug d').b from rfl]
   (have zz:=trivial;repeat((first|clear zz|with_reducible first|refine A3 ?_|refine A5 fun _=>?_|refine A4 fun _=>?_);try simp(disch:=first|omega|assumption|((repeat(first|exact A1|exact uH|apply A2|apply uT));first|done|fail)|(simp;first|done|omega|fail))[hlt, hlt', g0]))
   refine ⟨?_, ?_, fun _ _ => trivial⟩
   ·refine Sels.tw (rs := D7 mm ++ (Y5 b m (j, tv, d', P') ++ [v7 bc c])) (by simp only [Y5, F7, C7, D8, E5, D7, hnow, List.cons_append, List.nil_append]; (repeat' constructor)) ?_
    rw [← hmb]
    refine C4d (c := c) (m := mm) (o := ⟨0, text, [], 0⟩) (v := .slice none 0 0) (now := now) _ hinv A8y (fun w' hw' => B4P) (by show text.size < _; omega) hdo ?_
    intro mm2 hb2 hst2 hinv2
    simp only [AnsV.val]
    (have zz:=trivial;repeat((first|clear zz|with_reducible first|refine A3 ?_|refine A5 fun _=>?_|refine A4 fun _=>?_);try simp(disch:=first|omega|assumption|((repeat(first|exact A1|exact uH|apply A2|apply uT));first|done|fail)|(simp;first|done|omega|fail))[]))
    rename_i bx
    refine Sels.tw ?_ (hJ (bx, mm2) ⟨hb2.trans hmb, hst2, hinv2⟩)
    simp only [Y5, F7, D7, List.cons_append, List.nil_append]
    repeat (first | exact Sels.nil | (apply Sels.cons; · (repeat constructor)))
   ·(have zz:=trivial;repeat((first|clear zz|with_reducible first|refine A3 ?_|refine A5 fun _=>?_|refine A4 fun _=>?_);try simp(disch:=first|omega|assumption|((repeat(first|exact A1|exact uH|apply A2|apply uT));first|done|fail)|(simp;first|done|omega|fail))[hlt, hlt', g0]))
    rename_i bx
    refine Sels.tw (rs := D7 mm ++ (.pt bx (.cells #[.int .i64 0, .int .i64 0, .bool false, .int .i64 0] 55) :: (Y5 b m (j, tv, d', P') ++ [v7 bc c]))) (by simp only [Y5, F7, C7, D8, E5, D7, hnow, List.cons_append, List.nil_append]; (repeat' constructor)) ?_
    rw [← hmb]
    refine C4d (c := c) (m := mm) (o := ⟨0, text, [], 0⟩) (v := .slice none 0 0) (now := now) _ hinv A8y (fun w' hw' => B4P) (by show text.size < _; omega) hdo ?_
    intro mm2 hb2 hst2 hinv2
    simp only [AnsV.val, D7, List.cons_append, List.nil_append]
    (have zz:=trivial;repeat((first|clear zz|with_reducible first|refine A3 ?_|refine A5 fun _=>?_|refine A4 fun _=>?_);try simp(disch:=first|omega|assumption|((repeat(first|exact A1|exact uH|apply A2|apply uT));first|done|fail)|(simp;first|done|omega|fail))[]))
    refine Sels.tw ?_ (hJ (bx, mm2) ⟨hb2.trans hmb, hst2, hinv2⟩)
    simp only [Y5, F7, D7, List.cons_append, List.nil_append]
    repeat (first | exact Sels.nil | (apply Sels.cons; · (repeat constructor)))
 obtain rfl : i = texts.length := by omega
 clear hL
 (have zz:=trivial;repeat((first|clear zz|with_reducible first|refine A3 ?_|refine A5 fun _=>?_|refine A4 fun _=>?_);try simp(disch:=first|omega|assumption|((repeat(first|exact A1|exact uH|apply A2|apply uT));first|done|fail)|(simp;first|done|omega|fail))[Int.lt_irrefl]))
 have hown := hC.w.own
 have hgw := hC.g
 have hmt := hC.m
 have hinv := hC.inv
 have hmb := hC.b
 have hsub := hC.sub
 have htab := hC.tab
 simp only at hown hgw hmt hinv hmb hsub htab
 have hts : (m.ug d).ts.length = N := by have := hgw.tl; simpa [WoH.ws] using this
 have how : (m.ug d).own.length = N := hgw.ow
 have hn16 := hgw.n
 have hml : mm.ts.length = N := by
  have h := congrArg List.length hmt.tabs
  simpa [MoH.st, WoH.ws, hts] using h
 rw [← hmb]
 refine w7 (α := Unit) N (fun _ _ => .bool false) (fun _ _ => v7 bc c :: laH m (d, P, mm)) (fun _ _ => True) () trivial ?_
 rintro k _ hk _ L hL
 by_cases hlt : k < N
 ·have hlt' : ((k : Nat) : Int) < c.sh := by omega
  have hltm : k < (m.ug d).ts.length := by omega
  have hgem : ¬ (m.ug d).ts.length ≤ k := by omega
  obtain ⟨⟨v1, t1⟩, hx1⟩ : ∃ y, (m.ug d).ts[k]? = some y := ⟨_, List.getElem?_eq_getElem hltm⟩
  have hm1 := List.mem_of_getElem? hx1
  have gm : (m.ug d).ts[k] = (v1, t1) := (List.getElem?_eq_some_iff.1 hx1).2
  have g1 : ((m.ug d).ts.map (·.1))[k]? = some v1 := by rw [List.getElem?_map, hx1]; rfl
  have htv : A3b mm.ts (k : Nat) = t1 := by
   have h := congrArg (fun l => l[k]?) hmt.tabs
   have hlm : k < mm.ts.length := by omega
   simp only [MoH.st, WoH.ws, List.map_map, List.getElem?_map, hx1, List.getElem?_eq_getElem hlm, Option.map_some, Function.comp, Option.some.injEq] at h
   unfold A3b
   rw [if_neg (by omega), Int.toNat_natCast, List.getD_eq_getElem?_getD, List.getElem?_eq_getElem hlm]
   exact h
  have hl1 : t1.length ≤ 1000000 := by
   rcases htab _ (hsub _ hm1) with h | h
   ·have := h.len; simp only at this; omega
   ·have h1 := h.len; have h2 := h.few; simp only at h1; omega
  have hfr : A1p (m.ug d).own (k : Nat) = -1 := by rw [A7C (by omega)]; exact hown k hlt
  have hOw := fun (w' : World) (H : List Res) (hw' : LW false [] w H w') (hm : ∀ r ∈ C7 (m.ug d), r ∈ H) => by
   have h := B5q w' (m.ug d).bc (m.ug d).cn (m.ug d).cv (m.ug d).ov (m.ug d).own (k : Nat) (WoAt.own hw' hm).c (WoAt.own hw' hm).v
   rw [hfr] at h
   exact h
  refine g4 (e := 84) (k := 1) (v := (m.ug d).tv) (q := (m.ug d).ts.length) (xs := (m.ug d).ts.map (·.1)) (by unfold laH C7; simp only [List.mem_cons, List.mem_append]; simp) (by omega) fun mg mc hmtv => ?_
  refine A5f (P := P) (v := v1) (l := t1) (by unfold laH; simp) (hsub _ hm1) fun a1 c1 hv1 => ?_
  subst hv1
  simp only [laH, C7, D8, E5, hmtv, List.cons_append, List.nil_append]
  rw [show m.b = (m.ug d).b from rfl]
  (have zz:=trivial;repeat((first|clear zz|with_reducible first|refine A3 ?_|refine A5 fun _=>?_|refine A4 fun _=>?_);try simp(disch:=first|omega|assumption|((repeat(first|exact A1|exact uH|apply A2|apply uT));first|done|fail)|(simp;first|done|omega|fail))[hlt, hlt', hltm, hgem, g1, gm, A3g]))
  refine Sels.tw (rs := D7 mm ++ (v7 bc c :: N4 P :: C7 (m.ug d))) (by simp only [C7, D8, E5, hmtv, D7, List.cons_append, List.nil_append]; (repeat' constructor)) ?_
  refine C7A (m := mm) (i := (k : Nat)) hinv A8y ?_
  intro r
  rw [htv]
  refine T8 (e := 218) (k := 4) (v := r) (q := t1.length) (xs := t1.flatMap F6) (by simp [G7]) fun ra rc hu => ?_
  subst hu
  simp only [C7, D8, E5, hmtv, D7, List.cons_append, List.nil_append]
  (have zz:=trivial;repeat((first|clear zz|with_reducible first|refine A3 ?_|refine A5 fun _=>?_|refine A4 fun _=>?_);try simp(disch:=first|omega|assumption|((repeat(first|exact A1|exact uH|apply A2|apply uT));first|done|fail)|(simp;first|done|omega|fail))[hlt, hlt', hltm, hgem, g1, gm, A3g]))
  refine C4 A5B (fun w' hw' => C36 w' _ _ t1 t1 hl1 hl1 (Z7 (ts := P) (t := (.slice a1 t1.length c1, t1)) hw' (by (repeat constructor)) (hsub _ hm1)) (N9.own (e := 218) (k := 4) (v := .slice ra t1.length rc) (by unfold G7; (repeat constructor)) w' hw')) ?_
  rw [decide_eq_true rfl]
  (have zz:=trivial;repeat((first|clear zz|with_reducible first|refine A3 ?_|refine A5 fun _=>?_|refine A4 fun _=>?_);try simp(disch:=first|omega|assumption|((repeat(first|exact A1|exact uH|apply A2|apply uT));first|done|fail)|(simp;first|done|omega|fail))[hlt, hlt', hltm, hgem, g1, gm, A3g]))
  refine C4 A1E (fun w' hw' => hOw w' _ hw' (fun r hr => by simp only [C7, D8, E5, hmtv, List.cons_append, List.nil_append, List.mem_cons] at hr ⊢; rcases hr with h | h | h | h | h | h | h | h | h | h | h <;> simp [h])) ?_
  (have zz:=trivial;repeat((first|clear zz|with_reducible first|refine A3 ?_|refine A5 fun _=>?_|refine A4 fun _=>?_);try simp(disch:=first|omega|assumption|((repeat(first|exact A1|exact uH|apply A2|apply uT));first|done|fail)|(simp;first|done|omega|fail))[]))
  refine Sels.tw ?_ (hL hlt () trivial)
  simp only [laH, C7, D8, E5, hmtv, D7, List.cons_append, List.nil_append]
  (repeat' constructor)
 obtain rfl : k = N := by omega
 clear hL
 have hge : ¬ ((k : Nat) : Int) < c.sh := by omega
 (have zz:=trivial;repeat((first|clear zz|with_reducible first|refine A3 ?_|refine A5 fun _=>?_|refine A4 fun _=>?_);try simp(disch:=first|omega|assumption|((repeat(first|exact A1|exact uH|apply A2|apply uT));first|done|fail)|(simp;first|done|omega|fail))[hge, A3g]))
 exact B0 rfl
end Go.Proofs.YtjobgnabneddjaaGreat
