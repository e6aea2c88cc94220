/- The proof of a given statement, a part of it (Rw18 Rw16 Hap Hap2 JwG PinL JwS TwoL Live ShL19WorkerPinned Few19 ShL20ControlSlots ShL20ControlSame ShL20ControlBusy RunU Works20 BusyW SameW SlotsW PinW TwoW). No condition but what each lemma says. -/
import Derived.Test.YtjobgnabneddjaaGreatU17
set_option linter.unusedVariables false
set_option linter.unusedSimpArgs false
namespace Go.Proofs.YtjobgnabneddjaaGreat
open Go
abbrev V4 := SlV × Option Addr × Nat × Nat
def rsP (x : V4) : Value := .slice x.2.1 x.2.2.1 x.2.2.2
def V8 (x : V4) : List Value := match x.1 with
 | .no => [.int .i64 0, .slice none 0 0]
 | .bld => [.int .i64 1, .slice none 0 0]
 | .rdy _ => [.int .i64 2, rsP x]
theorem s7 (x : V4) : (V8 x).length = 2 := by unfold V8; split <;> rfl
def noR : V4 := (.no, none, 0, 0)
def kpC (x : Int × Int) : List Value := [.int .i64 x.1, .int .i64 x.2]
structure XH where
 b : Nat
 piv : Value
 lov : Value
 slv : Value
 kev : Value
 tav : Value
 plv : Value
 c : CfgV
 ep : Int
 cur : Int
 pins : List Int
 locks : List Int
 sl : List V4
 keep : List (Int × Int)
 ts : List (Value × List EnV)
 pl : List Nat
 now : Int
def n0 (c : CfgV) (ep cur : Int) (piv lov slv kev tav plv : Value) (now : Int) : Array Value := #[.int .i64 c.wk, .int .i64 c.sh, .int .i64 c.cp, .int .i64 c.idle, .int .i64 c.sl, .int .i64 ep, .int .i64 cur, piv, lov, slv, kev, tav, plv, .int .i64 now]
def e8 (b : Nat) (c : CfgV) (ep cur : Int) (piv lov slv kev tav plv : Value) (now : Int) : Res := .pt b (.cells (n0 c ep cur piv lov slv kev tav plv now) 106)
def S4 (x : XH) : List Res := [e8 x.b x.c x.ep x.cur x.piv x.lov x.slv x.kev x.tav x.plv x.now, .own 3 1 x.piv x.pins.length (F9 x.pins), .own 3 1 x.lov x.locks.length (F9 x.locks),
 .own 270 2 x.slv x.sl.length (x.sl.flatMap V8), .own 277 2 x.kev x.keep.length (x.keep.flatMap kpC), .own 84 1 x.tav x.ts.length (x.ts.map (·.1)), .own 3 1 x.plv x.pl.length (A22 x.pl)]
theorem C5B {α : Type} (v : Value) (a b : Value) (x : α) (f : α → List Value) (hv : v.cells = #[a, b]) (hf : f x = [a, b]) (hl : ∀ y, (f y).length = 2) (n : Nat) : (Builtin.zeroCells v.cells n).toList = (List.replicate n x).flatMap f := by
 have h2 : v.cells.size = 2 := by rw [hv]; rfl
 have hz : (Builtin.zeroCells v.cells n).toList.length = n * 2 := by simp [size_zeroCells, h2]
 have hr : ((List.replicate n x).flatMap f).length = n * 2 := by rw [P7 (k := 2) hl]; simp
 apply List.ext_getElem (by rw [hz, hr])
 intro i h1 h3
 rw [hz] at h1
 have hg := d8 (f := f) (k := 2) hl (List.replicate n x) (i / 2) (i % 2) (by omega)
 rw [show i / 2 * 2 + i % 2 = i by omega, List.getElem?_eq_getElem h3, List.getElem?_replicate_of_lt (by omega)] at hg
 have e : (Builtin.zeroCells v.cells n).toList[i]'(by rw [hz]; exact h1) = v.cells[i % 2]! := by
  simp [Builtin.zeroCells, h2]
 rw [e, hv]
 have h4 : i % 2 = 0 ∨ i % 2 = 1 := by omega
 rcases h4 with h4 | h4 <;> (rw [h4] at hg ⊢; simp [hf] at hg ⊢; exact hg.symm)
theorem C6K (n : Nat) : (Builtin.zeroCells (Value.agg #[.int .i64 0, .slice none 0 0]).cells n).toList = (List.replicate n noR).flatMap V8 := C5B _ _ _ noR V8 rfl rfl s7 n
theorem C54 (n : Nat) : (Builtin.zeroCells (Value.agg #[.int .i64 0, .int .i64 0]).cells n).toList = (List.replicate n ((0, 0) : Int × Int)).flatMap kpC := C5B _ _ _ _ kpC rfl rfl (fun _ => rfl) n
theorem C27 (w : World) (n : Nat) (hn : n ≤ 8) : Fn PR B8 91 #[.int .i64 (n : Int)] w (Rn [] w (fun r u => u = r) fun r => [.own 270 2 r (List.replicate n noR).length ((List.replicate n noR).flatMap V8)]) := by
 refine A6u (TW.go (κ := false) (S := []) ?_)
 unfold A0f
 have e : max 0 (min (n : Int) 8) = (n : Int) := by omega
 (have zz:=trivial;repeat((first|clear zz|with_reducible first|refine A3 ?_|refine A5 fun _=>?_|refine A4 fun _=>?_);try simp(disch:=first|omega|assumption|((repeat(first|exact A1|exact uH|apply A2|apply uT));first|done|fail)|(simp;first|done|omega|fail))[]))
 rw [e]
 refine y3 (by omega) (by omega) (by omega) (by omega) fun b => ?_
 rw [Int.toNat_natCast, C6K]
 refine B1 _ rfl ?_
 simp only [List.length_replicate]
 (repeat' constructor)
theorem C3S (w : World) (n : Nat) (hn : n ≤ 8) : Fn PR B8 92 #[.int .i64 (n : Int)] w (Rn [] w (fun r u => u = r) fun r => [.own 277 2 r (List.replicate n ((0, 0) : Int × Int)).length ((List.replicate n ((0, 0) : Int × Int)).flatMap kpC)]) := by
 refine A6f (TW.go (κ := false) (S := []) ?_)
 unfold A0c
 have e : max 0 (min (n : Int) 8) = (n : Int) := by omega
 (have zz:=trivial;repeat((first|clear zz|with_reducible first|refine A3 ?_|refine A5 fun _=>?_|refine A4 fun _=>?_);try simp(disch:=first|omega|assumption|((repeat(first|exact A1|exact uH|apply A2|apply uT));first|done|fail)|(simp;first|done|omega|fail))[]))
 rw [e]
 refine y3 (by omega) (by omega) (by omega) (by omega) fun b => ?_
 rw [Int.toNat_natCast, C54]
 refine B1 _ rfl ?_
 simp only [List.length_replicate]
 (repeat' constructor)
theorem B7K (n : Nat) : (Builtin.zeroCells (Value.int .i64 0).cells n).toList = F9 (List.replicate n 0) := by
 rw [B8v]; simp [B9n, F9]
theorem B7F (n : Nat) : (Builtin.zeroCells (Value.int .i64 0).cells n).toList = A22 (List.replicate n 0) := B8v n
def C0G (b b1 bp bs wn n k sn : Nat) (idle : Int) (lov tav : Value) : List Res := [.pt b (.cells #[.int .i64 wn, .int .i64 n, .int .i64 k, .int .i64 idle, .int .i64 sn, .int .i64 0, .int .i64 0, .slice (some ⟨bp, 0, none⟩) (wn + 1) (wn + 1), lov, .slice none 0 0, .slice none 0 0, tav, .slice (some ⟨bs, 0, none⟩) n n, .int .i64 0] 106),
 .own 3 1 (.slice (some ⟨bp, 0, none⟩) (wn + 1) (wn + 1)) (wn + 1) (F9 (List.replicate (wn + 1) 0)), .own 3 1 (.slice (some ⟨bs, 0, none⟩) n n) n (A22 (List.replicate n 0)),
 .pt b1 (.cells #[.int .i64 wn, .int .i64 n, .int .i64 k, .int .i64 idle, .int .i64 sn] 23)]
set_option maxHeartbeats 1000000 in
theorem C3E (w : World) (c : CfgV) (hok : M7 c = true) : Fn PR B8 42 #[c.val] w (Rn [] w (fun (x : XH) u => u = .pointer (some ⟨x.b, 0, none⟩) ∧ x.c = c ∧ x.ep = 0 ∧ x.cur = 0 ∧ x.pins = List.replicate (c.wk.toNat + 1) 0 ∧ x.locks = List.replicate c.sh.toNat (-1) ∧ x.sl = List.replicate c.sl.toNat noR ∧ x.keep = List.replicate c.sl.toNat (0, 0) ∧ x.ts.map (·.2) = List.replicate c.sh.toNat (newE c.cp.toNat) ∧ x.pl = List.replicate c.sh.toNat 0 ∧ x.now = 0)
  fun x => Y3 x.ts :: S4 x) := by
 refine A59 (TW.go (κ := false) (S := []) ?_)
 unfold A0V
 simp only [CfgV.val]
 obtain ⟨cwk, csh, ccp, cid, csl⟩ := c
 have hb : (1 ≤ cwk ∧ cwk ≤ 64) ∧ (1 ≤ csh ∧ csh ≤ 16) ∧ (1 ≤ ccp ∧ ccp ≤ 64) ∧ 0 ≤ csl ∧ csl ≤ 8 := by
  simp [M7, W0] at hok; omega
 simp only
 obtain ⟨wn, rfl⟩ : ∃ n : Nat, cwk = n := ⟨cwk.toNat, by omega⟩
 obtain ⟨n, rfl⟩ : ∃ n : Nat, csh = n := ⟨csh.toNat, by omega⟩
 obtain ⟨k, rfl⟩ : ∃ n : Nat, ccp = n := ⟨ccp.toNat, by omega⟩
 obtain ⟨sn, rfl⟩ : ∃ n : Nat, csl = n := ⟨csl.toNat, by omega⟩
 have e1 : ((wn : Nat) : Int) + 1 = ((wn + 1 : Nat) : Int) := by omega
 (have zz:=trivial;repeat((first|clear zz|with_reducible first|refine A3 ?_|refine A5 fun _=>?_|refine A4 fun _=>?_);try simp(disch:=first|omega|assumption|((repeat(first|exact A1|exact uH|apply A2|apply uT));first|done|fail)|(simp;first|done|omega|fail))[]))
 rename_i b1
 refine C40 (α := Nat × Nat × Nat) (fun _ => True) (fun y => C0G y.1 b1 y.2.1 y.2.2 wn n k sn cid (.slice none 0 0) (.slice none 0 0)) (fun y => .pointer (some ⟨y.1, 0, none⟩)) ?_ ?_
 ·rintro ⟨bm, bp, bs⟩ _
  simp only [C0G]
  (have zz:=trivial;repeat((first|clear zz|with_reducible first|refine A3 ?_|refine A5 fun _=>?_|refine A4 fun _=>?_);try simp(disch:=first|omega|assumption|((repeat(first|exact A1|exact uH|apply A2|apply uT));first|done|fail)|(simp;first|done|omega|fail))[]))
  refine k9 3 1 ?_
  refine B7Q ?_
  refine k9 84 1 ?_
  refine A0U n (fun i (y : (List (Value × List EnV) × Option Addr × Nat) × Option Addr × Nat) => [.own 84 1 (.slice y.1.2.1 i y.1.2.2) i (y.1.1.map (·.1)), Y3 y.1.1, .own 3 1 (.slice y.2.1 i y.2.2) i (F9 (List.replicate i (-1))),
   .pt bm (.cells #[.int .i64 wn, .int .i64 n, .int .i64 k, .int .i64 cid, .int .i64 sn, .int .i64 0, .int .i64 0, .slice (some ⟨bp, 0, none⟩) (wn + 1) (wn + 1), .slice y.2.1 i y.2.2, .slice none 0 0, .slice none 0 0, .slice y.1.2.1 i y.1.2.2, .slice (some ⟨bs, 0, none⟩) n n, .int .i64 0] 106),
   .own 3 1 (.slice (some ⟨bp, 0, none⟩) (wn + 1) (wn + 1)) (wn + 1) (F9 (List.replicate (wn + 1) 0)), .own 3 1 (.slice (some ⟨bs, 0, none⟩) n n) n (A22 (List.replicate n 0)),
   .pt b1 (.cells #[.int .i64 wn, .int .i64 n, .int .i64 k, .int .i64 cid, .int .i64 sn] 23)]) (fun i y => y.1.1.length = i ∧ y.1.1.map (·.2) = List.replicate i (newE k)) (([], none, 0), none, 0) ⟨rfl, rfl⟩ ?_
  ·rintro i ⟨⟨ts, ya, yc⟩, la, lc⟩ hi ⟨hlen, hmap⟩ L hL
   simp only at hlen hmap ⊢
   obtain ⟨lz, hlz⟩ : ∃ z, z = F9 (List.replicate i (-1)) := ⟨_, rfl⟩
   rw [← hlz]
   by_cases hlt : i < n
   ·have hlt' : ((i : Nat) : Int) < (n : Nat) := by omega
    (have zz:=trivial;repeat((first|clear zz|with_reducible first|refine A3 ?_|refine A5 fun _=>?_|refine A4 fun _=>?_|refine D6 fun _=>?_|refine D3 (hK:=fun _=>?_)|refine D7 (hK:=fun _=>?_)|refine D8 (hK:=fun _=>?_)|refine D5 (hK:=fun _=>?_)|refine D4 (hK:=fun _=>?_));try simp(disch:=first|omega|assumption|((repeat(first|exact A1|exact uH|apply A2|apply uT));first|done|fail)|(simp;first|done|omega|fail))[hlt, hlt']))
    refine u5 (e := 3) (k := 1) (q := i) (r := 1) (xs := lz) (news := [.int .i64 (-1)]) (by (repeat constructor)) (P6.own (by (repeat constructor))) (by decide) (by simp) (by simp) (by simp only [maxLen]; omega) (by omega) fun a1 c1 => ?_
    (have zz:=trivial;repeat((first|clear zz|with_reducible first|refine A3 ?_|refine A5 fun _=>?_|refine A4 fun _=>?_);try simp(disch:=first|omega|assumption|((repeat(first|exact A1|exact uH|apply A2|apply uT));first|done|fail)|(simp;first|done|omega|fail))[]))
    refine H2 A5q (fun w' _ => C3U w' k (by omega)) ?_
    intro y u hu
    subst hu
    refine T6 (e := 218) (k := 4) (v := u) (q := (newE k).length) (xs := (newE k).flatMap H0) (by (repeat constructor)) fun ua uc hu => ?_
    subst hu
    (have zz:=trivial;repeat((first|clear zz|with_reducible first|refine A3 ?_|refine A5 fun _=>?_|refine A4 fun _=>?_|refine D6 fun _=>?_|refine D3 (hK:=fun _=>?_)|refine D7 (hK:=fun _=>?_)|refine D8 (hK:=fun _=>?_)|refine D5 (hK:=fun _=>?_)|refine D4 (hK:=fun _=>?_));try simp(disch:=first|omega|assumption|((repeat(first|exact A1|exact uH|apply A2|apply uT));first|done|fail)|(simp;first|done|omega|fail))[]))
    refine u5 (e := 84) (k := 1) (q := i) (r := 1) (xs := ts.map (·.1)) (news := [.slice ua (newE k).length uc]) (by (repeat constructor)) (P6.own (by (repeat constructor))) (by decide) rfl (by simp) (by simp only [maxLen]; omega) (by omega) fun a' c' => ?_
    (have zz:=trivial;repeat((first|clear zz|with_reducible first|refine A3 ?_|refine A5 fun _=>?_|refine A4 fun _=>?_);try simp(disch:=first|omega|assumption|((repeat(first|exact A1|exact uH|apply A2|apply uT));first|done|fail)|(simp;first|done|omega|fail))[]))
    refine a7 (r := .slice ua (newE k).length uc) (l := newE k) (ts := ts) (by (repeat' constructor)) ?_
    have h := hL hlt ((ts ++ [(.slice ua (newE k).length uc, newE k)], a', c'), a1, c1) ⟨by simp [hlen], by rw [List.map_append, hmap, List.replicate_succ']; rfl⟩
    have hz : lz ++ [Value.int .i64 (-1)] = F9 (List.replicate (i + 1) (-1)) := by rw [hlz, List.replicate_succ']; simp [F9]
    simp only [List.map_append, List.map_cons, List.map_nil] at h
    rw [← hz] at h
    exact Sels.tw (by (repeat' constructor)) h
   ·obtain rfl : i = n := by omega
    (have zz:=trivial;repeat((first|clear zz|with_reducible first|refine A3 ?_|refine A5 fun _=>?_|refine A4 fun _=>?_);try simp(disch:=first|omega|assumption|((repeat(first|exact A1|exact uH|apply A2|apply uT));first|done|fail)|(simp;first|done|omega|fail))[Int.lt_irrefl]))
    refine H2 A5x (fun w' _ => C27 w' sn (by omega)) ?_
    rintro _ slv rfl
    refine T6 (e := 270) (k := 2) (v := slv) (q := (List.replicate sn noR).length) (xs := (List.replicate sn noR).flatMap V8) (by (repeat constructor)) fun sa sc hu => ?_
    subst hu
    (have zz:=trivial;repeat((first|clear zz|with_reducible first|refine A3 ?_|refine A5 fun _=>?_|refine A4 fun _=>?_);try simp(disch:=first|omega|assumption|((repeat(first|exact A1|exact uH|apply A2|apply uT));first|done|fail)|(simp;first|done|omega|fail))[]))
    refine H2 A5g (fun w' _ => C3S w' sn (by omega)) ?_
    rintro _ kev rfl
    refine T6 (e := 277) (k := 2) (v := kev) (q := (List.replicate sn ((0, 0) : Int × Int)).length) (xs := (List.replicate sn ((0, 0) : Int × Int)).flatMap kpC) (by (repeat constructor)) fun ka kc hu => ?_
    subst hu
    (have zz:=trivial;repeat((first|clear zz|with_reducible first|refine A3 ?_|refine A5 fun _=>?_|refine A4 fun _=>?_);try simp(disch:=first|omega|assumption|((repeat(first|exact A1|exact uH|apply A2|apply uT));first|done|fail)|(simp;first|done|omega|fail))[]))
    refine B1 ⟨bm, .slice (some ⟨bp, 0, none⟩) (wn + 1) (wn + 1), .slice la i lc, .slice sa (List.replicate sn noR).length sc, .slice ka (List.replicate sn ((0, 0) : Int × Int)).length kc, .slice ya i yc, .slice (some ⟨bs, 0, none⟩) i i, ⟨wn, i, k, cid, sn⟩, 0, 0, List.replicate (wn + 1) 0, List.replicate i (-1), List.replicate sn noR, List.replicate sn (0, 0), ts, List.replicate i 0, 0⟩ ⟨rfl, rfl, rfl, rfl, rfl, rfl, rfl, rfl, hmap, rfl, rfl⟩ ?_
    simp only [S4, e8, n0, hlen, List.length_replicate, ← hlz]
    (repeat' constructor)
 ·intro J hJ
  have e2 : Int.toNat ((wn : Nat) + 1 : Int) = wn + 1 := by omega
  (have zz:=trivial;repeat((first|clear zz|with_reducible first|refine A3 ?_|refine A5 fun _=>?_|refine A4 fun _=>?_);try simp(disch:=first|omega|assumption|((repeat(first|exact A1|exact uH|apply A2|apply uT));first|done|fail)|(simp;first|done|omega|fail))[]))
  refine ⟨?_, ?_, fun _ _ => trivial⟩
  ·refine y3 (by omega) (by omega) (by omega) (by omega) fun bp => ?_
   rw [e2, B7K]
   (have zz:=trivial;repeat((first|clear zz|with_reducible first|refine A3 ?_|refine A5 fun _=>?_|refine A4 fun _=>?_);try simp(disch:=first|omega|assumption|((repeat(first|exact A1|exact uH|apply A2|apply uT));first|done|fail)|(simp;first|done|omega|fail))[]))
   rw [A4E (by (repeat constructor)) (by rfl)]
   refine y3 (by omega) (by omega) (by omega) (by omega) fun bs => ?_
   rw [Int.toNat_natCast, B7F, A4E (by (repeat constructor)) (by rfl)]
   (have zz:=trivial;repeat((first|clear zz|with_reducible first|refine A3 ?_|refine A5 fun _=>?_|refine A4 fun _=>?_);try simp(disch:=first|omega|assumption|((repeat(first|exact A1|exact uH|apply A2|apply uT));first|done|fail)|(simp;first|done|omega|fail))[]))
   rename_i bm
   exact Sels.tw (by simp only [C0G]; (repeat' constructor)) (hJ (bm, bp, bs) trivial)
  ·refine y3 (by omega) (by omega) (by omega) (by omega) fun bs => ?_
   rw [Int.toNat_natCast, B7F]
   (have zz:=trivial;repeat((first|clear zz|with_reducible first|refine A3 ?_|refine A5 fun _=>?_|refine A4 fun _=>?_);try simp(disch:=first|omega|assumption|((repeat(first|exact A1|exact uH|apply A2|apply uT));first|done|fail)|(simp;first|done|omega|fail))[]))
   rw [A4E (by (repeat constructor)) (by rfl)]
   rw [W5 (by omega) (by omega)]
   refine y3 (by omega) (by omega) (by omega) (by omega) fun bp => ?_
   rw [e2, B7K, A4E (by (repeat constructor)) (by rfl)]
   (have zz:=trivial;repeat((first|clear zz|with_reducible first|refine A3 ?_|refine A5 fun _=>?_|refine A4 fun _=>?_);try simp(disch:=first|omega|assumption|((repeat(first|exact A1|exact uH|apply A2|apply uT));first|done|fail)|(simp;first|done|omega|fail))[]))
   rename_i bm
   exact Sels.tw (by simp only [C0G]; (repeat' constructor)) (hJ (bm, bp, bs) trivial)
end Go.Proofs.YtjobgnabneddjaaGreat
namespace Go.Proofs.YtjobgnabneddjaaGreat
open Go
abbrev rsV (l : List V4) : List SlV := l.map (·.1)
def s0 (n : Nat) (i : Int) : Bool := decide (0 ≤ i) && decide (i < n)
def A3V (l : List V4) (i : Int) (x : V4) : List V4 := if 0 ≤ i ∧ i < l.length then l.set i.toNat x else l
theorem A48 (l : List V4) (i : Int) (x : V4) : (A3V l i x).length = l.length := by unfold A3V; split <;> simp
def rsA (x : V4) : Value := match x.1 with
 | .no => .agg #[.int .i64 0, .slice none 0 0]
 | .bld => .agg #[.int .i64 1, .slice none 0 0]
 | .rdy _ => .agg #[.int .i64 2, rsP x]
theorem B3Z (w : World) (a : Option Addr) (n c : Nat) (i : Int) : Fn PR B8 151 #[.slice a n c, .int .i64 i] w (fun u w' => u = .bool (s0 n i) ∧ C7 [] w w') := by
 refine Fn.pure (A7a (TW.go (κ := false) (S := []) ?_))
 unfold A07
 by_cases c1 : 0 ≤ i
 ·(have zz:=trivial;repeat((first|clear zz|with_reducible first|refine A3 ?_|refine A5 fun _=>?_|refine A4 fun _=>?_);try simp(disch:=first|omega|assumption|((repeat(first|exact A1|exact uH|apply A2|apply uT));first|done|fail)|(simp;first|done|omega|fail))[c1]))
  exact B0 (by simp [s0, c1])
 ·(have zz:=trivial;repeat((first|clear zz|with_reducible first|refine A3 ?_|refine A5 fun _=>?_|refine A4 fun _=>?_);try simp(disch:=first|omega|assumption|((repeat(first|exact A1|exact uH|apply A2|apply uT));first|done|fail)|(simp;first|done|omega|fail))[c1]))
  exact B0 (by simp [s0, c1])
theorem C2x (l : List V4) : (l.flatMap V8).all plain = true := by
 rw [List.all_flatMap, List.all_eq_true]
 rintro ⟨y1, y2⟩ hy
 cases y1 <;> rfl
theorem B0A (w : World) (v : Value) (l : List V4) (i : Nat) (x : V4) (hn : l.length ≤ 8) (hi : i < l.length) (hv : G1 w v l.length (l.flatMap V8)) :
  Fn PR B8 152 #[v, .int .i64 (i : Nat), rsA x] w (Rn [] w (fun r u => u = r) fun r => [.own 270 2 r (l.set i x).length ((l.set i x).flatMap V8)]) := by
 refine A5z (TW.go (κ := false) (S := []) ?_)
 unfold A0C
 obtain ⟨a, c, rfl, _⟩ := hv.form
 obtain ⟨s, pa, pn, pc, hs⟩ : ∃ s a n c, rsA x = .agg #[.int .i64 s, .slice a n c] ∧ V8 x = [.int .i64 s, .slice a n c] := by
  obtain ⟨x1, x2⟩ := x
  cases x1
  ·exact ⟨0, _, _, _, rfl, rfl⟩
  ·exact ⟨1, _, _, _, rfl, rfl⟩
  ·exact ⟨2, _, _, _, rfl, rfl⟩
 rw [hs.1]
 (have zz:=trivial;repeat((first|clear zz|with_reducible first|refine A3 ?_|refine A5 fun _=>?_|refine A4 fun _=>?_|refine D6 fun _=>?_|refine D3 (hK:=fun _=>?_)|refine D7 (hK:=fun _=>?_)|refine D8 (hK:=fun _=>?_)|refine D5 (hK:=fun _=>?_)|refine D4 (hK:=fun _=>?_));try simp(disch:=first|omega|assumption|((repeat(first|exact A1|exact uH|apply A2|apply uT));first|done|fail)|(simp;first|done|omega|fail))[]))
 refine u5 (e := 270) (k := 2) (q := 0) (r := l.length) (xs := []) (news := l.flatMap V8) (by (repeat constructor)) (fun w' hw' => hv.ks hw'.ks (by simp)) (by decide) (P7 s7 l) (C2x l) (by simp only [maxLen]; omega) (by omega) fun a' c' => ?_
 rw [List.nil_append, Nat.zero_add]
 refine s9 (e := 270) (k := 2) (v := .slice a' l.length c') (q := l.length) (xs := l.flatMap V8) (by (repeat constructor)) (by omega) fun g gc hg => ?_
 cases hg
 (have zz:=trivial;repeat((first|clear zz|with_reducible first|refine A3 ?_|refine A5 fun _=>?_|refine A4 fun _=>?_);try simp(disch:=first|omega|assumption|((repeat(first|exact A1|exact uH|apply A2|apply uT));first|done|fail)|(simp;first|done|omega|fail))[hi]))
 refine U0 (by (repeat constructor)) (by simp) (by rw [P7 s7]; show i * 2 + 2 ≤ _; omega) (by simp) ?_
 refine B1 _ rfl ?_
 have := A91 (f := V8) (k := 2) s7 l i x hi
 rw [List.length_set, ← this, hs.2]
 (repeat' constructor)
theorem V4.cell {w : World} {a : Option Addr} {c : Nat} {l : List V4} (hv : G1 w (.slice a l.length c) l.length (l.flatMap V8)) {i : Nat} (hi : i < l.length) : ∃ b o, a = some ⟨b, o, none⟩ ∧ w.cell? ⟨b, o + i * 2, none⟩ = (V8 l[i])[0]? ∧ w.cell? ⟨b, o + i * 2 + 1, none⟩ = (V8 l[i])[1]? := by
 rcases hv with ⟨h0, _⟩ | ⟨b, o, c', e, hr⟩
 ·omega
 cases e
 have h0 := d8 s7 l i 0 (by omega)
 have h1 := d8 s7 l i 1 (by omega)
 rw [List.getElem?_eq_getElem hi] at h0 h1
 have hc := s7 l[i]
 simp only [Option.bind_some] at h0 h1
 refine ⟨b, o, rfl, ?_, ?_⟩
 ·obtain ⟨v, hv⟩ : ∃ v, (V8 l[i])[0]? = some v := ⟨_, List.getElem?_eq_getElem (show _ < (V8 l[i]).length by rw [s7]; omega)⟩
  rw [hv] at h0 ⊢
  exact hr.get h0
 ·obtain ⟨v, hv⟩ : ∃ v, (V8 l[i])[1]? = some v := ⟨_, List.getElem?_eq_getElem (show _ < (V8 l[i]).length by rw [s7]; omega)⟩
  rw [hv] at h1 ⊢
  have := hr.get h1
  rwa [← Nat.add_assoc] at this
def S7 (l : List V4) (i : Int) : List V4 := A3V l i (.bld, none, 0, 0)
def n4 (l : List V4) (i : Int) : List V4 := A3V l i noR
def B3V (l : List V4) (i : Int) : Bool := match H4 (rsV l) i with | .bld => true | _ => false
def flR (l : List V4) (i : Int) (p : List E6) : Bool := B3V l i && decide (K4 p = 0)
def A0H (l : List V4) (i : Int) (p : List E6) (x : Option Addr × Nat × Nat) : List V4 := if flR l i p then A3V l i (.rdy p, x) else l
theorem C6y {l : List V4} {k : Nat} (h : k < l.length) : H4 (rsV l) (k : Nat) = l[k].1 := by
 unfold H4 rsV
 rw [if_pos (by simp only [List.length_map]; omega), Int.toNat_natCast, List.getD_eq_getElem?_getD, List.getElem?_map, List.getElem?_eq_getElem h]; rfl
theorem B9c (w : World) (v : Value) (l : List V4) (i : Int) (hn : l.length ≤ 8) (hv : G1 w v l.length (l.flatMap V8)) :
  Fn PR B8 96 #[v, .int .i64 i] w (Rn [] w (fun r u => u = .tuple #[if s0 l.length i then r else v, .bool (s0 l.length i)]) fun r => if s0 l.length i then [.own 270 2 r (S7 l i).length ((S7 l i).flatMap V8)] else []) := by
 refine A4k (TW.go (κ := false) (S := []) ?_)
 unfold w7
 obtain ⟨a, c, rfl, _⟩ := hv.form
 (have zz:=trivial;repeat((first|clear zz|with_reducible first|refine A3 ?_|refine A5 fun _=>?_|refine A4 fun _=>?_);try simp(disch:=first|omega|assumption|((repeat(first|exact A1|exact uH|apply A2|apply uT));first|done|fail)|(simp;first|done|omega|fail))[]))
 refine C1 g5 (fun w' _ => B3Z w' a l.length c i) ?_
 cases hi : s0 l.length i with
 | false =>
  (have zz:=trivial;repeat((first|clear zz|with_reducible first|refine A3 ?_|refine A5 fun _=>?_|refine A4 fun _=>?_);try simp(disch:=first|omega|assumption|((repeat(first|exact A1|exact uH|apply A2|apply uT));first|done|fail)|(simp;first|done|omega|fail))[]))
  exact B1 (.slice a l.length c) (by simp) Sels.nil
 | true =>
  obtain ⟨k, rfl⟩ : ∃ k : Nat, i = k := ⟨i.toNat, by simp [s0] at hi; omega⟩
  have hk : k < l.length := by simp [s0] at hi; exact hi
  have e : S7 l k = l.set k (.bld, none, 0, 0) := by unfold S7 A3V; rw [if_pos (by omega)]; rfl
  rw [e]
  (have zz:=trivial;repeat((first|clear zz|with_reducible first|refine A3 ?_|refine A5 fun _=>?_|refine A4 fun _=>?_);try simp(disch:=first|omega|assumption|((repeat(first|exact A1|exact uH|apply A2|apply uT));first|done|fail)|(simp;first|done|omega|fail))[]))
  refine H2 Y0 (fun w' hw' => B0A w' _ l k (.bld, none, 0, 0) hn hk (hv.ks hw'.ks (by simp))) ?_
  rintro _ r rfl
  (have zz:=trivial;repeat((first|clear zz|with_reducible first|refine A3 ?_|refine A5 fun _=>?_|refine A4 fun _=>?_);try simp(disch:=first|omega|assumption|((repeat(first|exact A1|exact uH|apply A2|apply uT));first|done|fail)|(simp;first|done|omega|fail))[]))
  exact B1 r (by simp) (Sels.cons Sel.here Sels.nil)
theorem B95 (w : World) (v : Value) (l : List V4) (i : Int) (hn : l.length ≤ 8) (hv : G1 w v l.length (l.flatMap V8)) :
  Fn PR B8 99 #[v, .int .i64 i] w (Rn [] w (fun r u => u = .tuple #[if s0 l.length i then r else v, .bool (s0 l.length i)]) fun r => if s0 l.length i then [.own 270 2 r (n4 l i).length ((n4 l i).flatMap V8)] else []) := by
 refine A4S (TW.go (κ := false) (S := []) ?_)
 unfold x7
 obtain ⟨a, c, rfl, _⟩ := hv.form
 (have zz:=trivial;repeat((first|clear zz|with_reducible first|refine A3 ?_|refine A5 fun _=>?_|refine A4 fun _=>?_);try simp(disch:=first|omega|assumption|((repeat(first|exact A1|exact uH|apply A2|apply uT));first|done|fail)|(simp;first|done|omega|fail))[]))
 refine C1 g5 (fun w' _ => B3Z w' a l.length c i) ?_
 cases hi : s0 l.length i with
 | false =>
  (have zz:=trivial;repeat((first|clear zz|with_reducible first|refine A3 ?_|refine A5 fun _=>?_|refine A4 fun _=>?_);try simp(disch:=first|omega|assumption|((repeat(first|exact A1|exact uH|apply A2|apply uT));first|done|fail)|(simp;first|done|omega|fail))[]))
  exact B1 (.slice a l.length c) (by simp) Sels.nil
 | true =>
  obtain ⟨k, rfl⟩ : ∃ k : Nat, i = k := ⟨i.toNat, by simp [s0] at hi; omega⟩
  have hk : k < l.length := by simp [s0] at hi; exact hi
  have e : n4 l k = l.set k noR := by unfold n4 A3V; rw [if_pos (by omega)]; rfl
  rw [e]
  (have zz:=trivial;repeat((first|clear zz|with_reducible first|refine A3 ?_|refine A5 fun _=>?_|refine A4 fun _=>?_);try simp(disch:=first|omega|assumption|((repeat(first|exact A1|exact uH|apply A2|apply uT));first|done|fail)|(simp;first|done|omega|fail))[]))
  refine H2 Y0 (fun w' hw' => B0A w' _ l k noR hn hk (hv.ks hw'.ks (by simp))) ?_
  rintro _ r rfl
  (have zz:=trivial;repeat((first|clear zz|with_reducible first|refine A3 ?_|refine A5 fun _=>?_|refine A4 fun _=>?_);try simp(disch:=first|omega|assumption|((repeat(first|exact A1|exact uH|apply A2|apply uT));first|done|fail)|(simp;first|done|omega|fail))[]))
  exact B1 r (by simp) (Sels.cons Sel.here Sels.nil)
theorem C00 (w : World) (v : Value) (l : List V4) (i : Int) (p : List E6) (pa : Option Addr) (pc : Nat) (hn : l.length ≤ 8) (hp : p.length ≤ 1000000) (hv : G1 w v l.length (l.flatMap V8)) (hpv : G1 w (.slice pa p.length pc) p.length (p.flatMap J0)) :
  Fn PR B8 97 #[v, .int .i64 i, .slice pa p.length pc] w (Rn [] w (fun r u => u = .tuple #[if flR l i p then r else v, .bool (flR l i p)]) fun r => if flR l i p then [.own 270 2 r (A0H l i p (pa, p.length, pc)).length ((A0H l i p (pa, p.length, pc)).flatMap V8)] else []) := by
 refine A5u (TW.go (κ := false) (S := []) ?_)
 unfold z8
 obtain ⟨a, c, rfl, _⟩ := hv.form
 (have zz:=trivial;repeat((first|clear zz|with_reducible first|refine A3 ?_|refine A5 fun _=>?_|refine A4 fun _=>?_);try simp(disch:=first|omega|assumption|((repeat(first|exact A1|exact uH|apply A2|apply uT));first|done|fail)|(simp;first|done|omega|fail))[]))
 refine C1 g5 (fun w' _ => B3Z w' a l.length c i) ?_
 cases hi : s0 l.length i with
 | false =>
  have hb : flR l i p = false := by unfold flR B3V H4; rw [if_neg (by simp [s0] at hi; simp; omega)]; rfl
  rw [hb]
  (have zz:=trivial;repeat((first|clear zz|with_reducible first|refine A3 ?_|refine A5 fun _=>?_|refine A4 fun _=>?_);try simp(disch:=first|omega|assumption|((repeat(first|exact A1|exact uH|apply A2|apply uT));first|done|fail)|(simp;first|done|omega|fail))[]))
  exact B1 (.slice a l.length c) rfl Sels.nil
 | true =>
  obtain ⟨k, rfl⟩ : ∃ k : Nat, i = k := ⟨i.toNat, by simp [s0] at hi; omega⟩
  have hk : k < l.length := by simp [s0] at hi; exact hi
  have hk' : ¬ l.length ≤ k := by omega
  obtain ⟨b, o, rfl, h0, _⟩ := V4.cell hv hk
  have hgs := C6y hk
  obtain ⟨⟨x1, x2⟩, hlk⟩ : ∃ x, x = l[k] := ⟨_, rfl⟩
  rw [← hlk] at h0 hgs
  cases x1 with
  | no =>
   have hb : flR l k p = false := by unfold flR B3V; rw [hgs]; rfl
   have h0' : w.cell? ⟨b, o + k * 2, none⟩ = some (.int .i64 0) := h0
   rw [hb]
   (have zz:=trivial;repeat((first|clear zz|with_reducible first|refine A3 ?_|refine A5 fun _=>?_|refine A4 fun _=>?_);try simp(disch:=first|omega|assumption|((repeat(first|exact A1|exact uH|apply A2|apply uT));first|done|fail)|(simp;first|done|omega|fail))[h0', hk, hk']))
   exact B1 (.slice none 0 0) rfl Sels.nil
  | rdy q =>
   have hb : flR l k p = false := by unfold flR B3V; rw [hgs]; rfl
   have h0' : w.cell? ⟨b, o + k * 2, none⟩ = some (.int .i64 2) := h0
   rw [hb]
   (have zz:=trivial;repeat((first|clear zz|with_reducible first|refine A3 ?_|refine A5 fun _=>?_|refine A4 fun _=>?_);try simp(disch:=first|omega|assumption|((repeat(first|exact A1|exact uH|apply A2|apply uT));first|done|fail)|(simp;first|done|omega|fail))[h0', hk, hk']))
   exact B1 (.slice none 0 0) rfl Sels.nil
  | bld =>
   have h0' : w.cell? ⟨b, o + k * 2, none⟩ = some (.int .i64 1) := h0
   (have zz:=trivial;repeat((first|clear zz|with_reducible first|refine A3 ?_|refine A5 fun _=>?_|refine A4 fun _=>?_);try simp(disch:=first|omega|assumption|((repeat(first|exact A1|exact uH|apply A2|apply uT));first|done|fail)|(simp;first|done|omega|fail))[h0', hk, hk']))
   refine C1 A3f (fun w' hw' => C1G w' _ p hp (hpv.ks hw'.ks (by simp))) ?_
   by_cases hc : K4 p = 0
   ·have hb : flR l k p = true := by unfold flR B3V; rw [hgs, decide_eq_true hc]; rfl
    have e : A0H l k p (pa, p.length, pc) = l.set k (.rdy p, pa, p.length, pc) := by unfold A0H A3V; rw [hb, if_pos rfl, if_pos (by omega)]; rfl
    rw [hb, e, hc]
    (have zz:=trivial;repeat((first|clear zz|with_reducible first|refine A3 ?_|refine A5 fun _=>?_|refine A4 fun _=>?_);try simp(disch:=first|omega|assumption|((repeat(first|exact A1|exact uH|apply A2|apply uT));first|done|fail)|(simp;first|done|omega|fail))[]))
    refine H2 Y0 (fun w' hw' => B0A w' _ l k (.rdy p, pa, p.length, pc) hn hk (hv.ks hw'.ks (by simp))) ?_
    rintro _ r rfl
    (have zz:=trivial;repeat((first|clear zz|with_reducible first|refine A3 ?_|refine A5 fun _=>?_|refine A4 fun _=>?_);try simp(disch:=first|omega|assumption|((repeat(first|exact A1|exact uH|apply A2|apply uT));first|done|fail)|(simp;first|done|omega|fail))[]))
    exact B1 r rfl (Sels.cons Sel.here Sels.nil)
   ·have hb : flR l k p = false := by unfold flR B3V; rw [hgs, decide_eq_false hc]; rfl
    rw [hb]
    (have zz:=trivial;repeat((first|clear zz|with_reducible first|refine A3 ?_|refine A5 fun _=>?_|refine A4 fun _=>?_);try simp(disch:=first|omega|assumption|((repeat(first|exact A1|exact uH|apply A2|apply uT));first|done|fail)|(simp;first|done|omega|fail))[hc]))
    exact B1 (.slice none 0 0) rfl Sels.nil
end Go.Proofs.YtjobgnabneddjaaGreat
namespace Go.Proofs.YtjobgnabneddjaaGreat
open Go
def Z0 (now d : Int) : Int := if 0 ≤ d ∧ d ≤ 1000000 ∧ now + d ≤ 1000000000 then now + d else now
theorem B6w {now d : Int} (h : 0 ≤ now ∧ now ≤ 1000000000) : 0 ≤ Z0 now d ∧ Z0 now d ≤ 1000000000 := by unfold Z0; split <;> omega
theorem C3s (w : World) (b : Nat) (c : CfgV) (pc ps pk tv pv : Value) (now d : Int) (hn : 0 ≤ now ∧ now ≤ 1000000000) (hw : LW false [b] w [E0 b c pc ps pk tv pv (.int .i64 now)] w) :
  Fn PR B8 100 #[.pointer (some ⟨b, 0, none⟩), .int .i64 d] w (Rn [b] w (fun (_ : Unit) u => u = .tuple #[]) fun _ => [E0 b c pc ps pk tv pv (.int .i64 (Z0 now d))]) := by
 refine A8f (TW.goH (κ := false) (S := [b]) ?_ hw)
 unfold A1r
 simp only [E0, E2]
 by_cases c1 : 0 ≤ d
 case neg =>
  (have zz:=trivial;repeat((first|clear zz|with_reducible first|refine A3 ?_|refine A5 fun _=>?_|refine A4 fun _=>?_);try simp(disch:=first|omega|assumption|((repeat(first|exact A1|exact uH|apply A2|apply uT));first|done|fail)|(simp;first|done|omega|fail))[c1]))
  refine B1 () rfl ?_
  simp only [Z0, if_neg (show ¬ (0 ≤ d ∧ d ≤ 1000000 ∧ now + d ≤ 1000000000) by omega)]
  (repeat' constructor)
 by_cases c2 : d ≤ 1000000
 case neg =>
  have c2' : 1000000 < d := by omega
  (have zz:=trivial;repeat((first|clear zz|with_reducible first|refine A3 ?_|refine A5 fun _=>?_|refine A4 fun _=>?_);try simp(disch:=first|omega|assumption|((repeat(first|exact A1|exact uH|apply A2|apply uT));first|done|fail)|(simp;first|done|omega|fail))[c1, c2, c2']))
  refine B1 () rfl ?_
  simp only [Z0, if_neg (show ¬ (0 ≤ d ∧ d ≤ 1000000 ∧ now + d ≤ 1000000000) by omega)]
  (repeat' constructor)
 have c2' : ¬ 1000000 < d := by omega
 by_cases c3 : now ≤ 1000000000 - d
 case neg =>
  (have zz:=trivial;repeat((first|clear zz|with_reducible first|refine A3 ?_|refine A5 fun _=>?_|refine A4 fun _=>?_);try simp(disch:=first|omega|assumption|((repeat(first|exact A1|exact uH|apply A2|apply uT));first|done|fail)|(simp;first|done|omega|fail))[c1, c2, c2', c3]))
  refine B1 () rfl ?_
  simp only [Z0, if_neg (show ¬ (0 ≤ d ∧ d ≤ 1000000 ∧ now + d ≤ 1000000000) by omega)]
  (repeat' constructor)
 ·(have zz:=trivial;repeat((first|clear zz|with_reducible first|refine A3 ?_|refine A5 fun _=>?_|refine A4 fun _=>?_);try simp(disch:=first|omega|assumption|((repeat(first|exact A1|exact uH|apply A2|apply uT));first|done|fail)|(simp;first|done|omega|fail))[c1, c2, c2', c3]))
  refine B1 () rfl ?_
  simp only [Z0, if_pos (show (0 ≤ d ∧ d ≤ 1000000 ∧ now + d ≤ 1000000000) by omega)]
  (repeat' constructor)
theorem C1V (w : World) (b : Nat) (c : CfgV) (ep cur : Int) (piv lov slv kev tav plv : Value) (now d : Int) (hn : 0 ≤ now ∧ now ≤ 1000000000) (hw : LW false [b] w [e8 b c ep cur piv lov slv kev tav plv now] w) :
  Fn PR B8 101 #[.pointer (some ⟨b, 0, none⟩), .int .i64 d] w (Rn [b] w (fun (_ : Unit) u => u = .tuple #[]) fun _ => [e8 b c ep cur piv lov slv kev tav plv (Z0 now d)]) := by
 refine A1z (TW.goH (κ := false) (S := [b]) ?_ hw)
 unfold j0
 simp only [e8, n0]
 by_cases c1 : 0 ≤ d
 case neg =>
  (have zz:=trivial;repeat((first|clear zz|with_reducible first|refine A3 ?_|refine A5 fun _=>?_|refine A4 fun _=>?_);try simp(disch:=first|omega|assumption|((repeat(first|exact A1|exact uH|apply A2|apply uT));first|done|fail)|(simp;first|done|omega|fail))[c1]))
  refine B1 () rfl ?_
  simp only [Z0, if_neg (show ¬ (0 ≤ d ∧ d ≤ 1000000 ∧ now + d ≤ 1000000000) by omega)]
  (repeat' constructor)
 by_cases c2 : d ≤ 1000000
 case neg =>
  have c2' : 1000000 < d := by omega
  (have zz:=trivial;repeat((first|clear zz|with_reducible first|refine A3 ?_|refine A5 fun _=>?_|refine A4 fun _=>?_);try simp(disch:=first|omega|assumption|((repeat(first|exact A1|exact uH|apply A2|apply uT));first|done|fail)|(simp;first|done|omega|fail))[c1, c2, c2']))
  refine B1 () rfl ?_
  simp only [Z0, if_neg (show ¬ (0 ≤ d ∧ d ≤ 1000000 ∧ now + d ≤ 1000000000) by omega)]
  (repeat' constructor)
 have c2' : ¬ 1000000 < d := by omega
 by_cases c3 : now + d ≤ 1000000000
 case neg =>
  (have zz:=trivial;repeat((first|clear zz|with_reducible first|refine A3 ?_|refine A5 fun _=>?_|refine A4 fun _=>?_);try simp(disch:=first|omega|assumption|((repeat(first|exact A1|exact uH|apply A2|apply uT));first|done|fail)|(simp;first|done|omega|fail))[c1, c2, c2', c3]))
  refine B1 () rfl ?_
  simp only [Z0, if_neg (show ¬ (0 ≤ d ∧ d ≤ 1000000 ∧ now + d ≤ 1000000000) by omega)]
  (repeat' constructor)
 ·(have zz:=trivial;repeat((first|clear zz|with_reducible first|refine A3 ?_|refine A5 fun _=>?_|refine A4 fun _=>?_);try simp(disch:=first|omega|assumption|((repeat(first|exact A1|exact uH|apply A2|apply uT));first|done|fail)|(simp;first|done|omega|fail))[c1, c2, c2', c3]))
  refine B1 () rfl ?_
  simp only [Z0, if_pos (show (0 ≤ d ∧ d ≤ 1000000 ∧ now + d ≤ 1000000000) by omega)]
  (repeat' constructor)
end Go.Proofs.YtjobgnabneddjaaGreat
namespace Go.Proofs.YtjobgnabneddjaaGreat
open Go
structure ActV where
 k : Int
 n : Int
 pool : List E6
 pa : Option Addr
 pc : Nat
def ActV.pv (a : ActV) : Value := .slice a.pa a.pool.length a.pc
def ActV.val (a : ActV) : Value := .agg #[.int .i64 a.k, .int .i64 a.n, a.pv]
structure WoG where
 cn : Int
 cells : List Int
 own : List Int
 tv : Value
 pv : Value
 ls : List SlH
 keep : List (Int × Int)
 ts : List (Value × List EnV)
 pl : List Nat
 now : Int
def WoH.ug (m : WoH) (d : WoG) : WoH := { m with cn := d.cn, cells := d.cells, own := d.own, tv := d.tv, pv := d.pv, ls := d.ls, keep := d.keep, ts := d.ts, pl := d.pl, now := d.now }
def WoH.dg (m : WoH) : WoG := ⟨m.cn, m.cells, m.own, m.tv, m.pv, m.ls, m.keep, m.ts, m.pl, m.now⟩
structure XS where
 c : CfgV
 ep : Int
 cur : Int
 pins : List Int
 locks : List Int
 sl : List V4
 keep : List (Int × Int)
 tabs : List (List EnV)
 pl : List Nat
 now : Int
def XH.xs (x : XH) : XS := ⟨x.c, x.ep, x.cur, x.pins, x.locks, x.sl, x.keep, x.ts.map (·.2), x.pl, x.now⟩
def P8 (a : ActV) (x : WS) (y : XS) : WS :=
 if a.k = 1 then { x with cells := H5 x.cells 0 (IntKind.i64.wrap (D2 x.cells 0 + 1)) }
 else if a.k = 2 then if (0 ≤ a.n ∧ a.n < y.c.sh) ∧ y.locks.getD a.n.toNat 0 < 0 then { x with own := W7 x.own a.n 99 } else x
 else if a.k = 3 then if (0 ≤ a.n ∧ a.n < y.c.sh) ∧ y.locks.getD a.n.toNat 0 = 99 then { x with own := N4 x.own a.n 99 } else x
 else if a.k = 4 then { x with sl := s8 (l5 x.sl a.n .bld) a.n a.pool }
 else if a.k = 5 then { x with sl := l5 x.sl a.n .no }
 else if a.k = 6 then if -1 ≤ a.n ∧ a.n < y.c.sl then { x with cells := H5 x.cells 1 (a.n + 1) } else x
 else if a.k = 7 then { x with now := Z0 x.now a.n }
 else x
def S3 (a : ActV) (y : XS) : XS :=
 if a.k = 1 then { y with ep := y.ep + 1 }
 else if a.k = 2 then if (0 ≤ a.n ∧ a.n < y.c.sh) ∧ y.locks.getD a.n.toNat 0 < 0 then { y with locks := y.locks.set a.n.toNat 99 } else y
 else if a.k = 3 then if (0 ≤ a.n ∧ a.n < y.c.sh) ∧ y.locks.getD a.n.toNat 0 = 99 then { y with locks := y.locks.set a.n.toNat (-1) } else y
 else if a.k = 4 then { y with sl := if s0 y.sl.length a.n then A0H (S7 y.sl a.n) a.n a.pool (a.pa, a.pool.length, a.pc) else y.sl }
 else if a.k = 5 then { y with sl := n4 y.sl a.n }
 else if a.k = 6 then if -1 ≤ a.n ∧ a.n < y.c.sl then { y with cur := a.n + 1 } else y
 else if a.k = 7 then { y with now := Z0 y.now a.n }
 else y
structure HapOk (m : WoH) (x : XH) (a : ActV) : Prop where
 cells : 2 ≤ m.cells.length ∧ m.cells.length ≤ 1024
 own : m.own.length ≤ 1024
 ls : m.ls.length ≤ 8
 now : 0 ≤ m.now ∧ m.now ≤ 1000000000
 xnow : 0 ≤ x.now ∧ x.now ≤ 1000000000
 locks : x.locks.length = x.c.sh
 sh : x.c.sh ≤ 16
 csl : x.c.sl ≤ 8
 sl : x.sl.length ≤ 8
 ep : 0 ≤ x.ep ∧ x.ep ≤ 1000000
 pool : a.pool.length ≤ 1000
theorem B8q {S : List Nat} {w0 w' : World} {Hc Hk : List Res} {P : World → Prop} (h : ∀ w1, KS false S w0 w1 → P w1) (hw' : LW false S w0 (Hc ++ Hk) w') : ∀ w'', KS false (B5 Hc) w' w'' → P w'' := fun w'' hk => by
 refine h _ (hw'.ks.then hk fun x hx => ?_)
 obtain ⟨r, hr, hxr⟩ := N9.1 hx
 exact (hw'.own r (List.mem_append_left _ hr) x hxr).1
def D22 (m : WoH) (x : XH) (a : ActV) (y : WoG × XH) : Prop := (m.ug y.1).ws = P8 a m.ws x.xs ∧ y.2.b = x.b ∧ y.2.xs = S3 a x.xs ∧ y.1.ts = m.ts ∧ y.2.ts = x.ts
set_option maxHeartbeats 2000000 in
theorem C1J (w : World) (m : WoH) (x : XH) (a : ActV) (h : HapOk m x a) (hv : ∀ w', KS false (B5 (C8 m ++ S4 x)) w w' → G1 w' a.pv a.pool.length (a.pool.flatMap J0)) (hw : LW false (B5 (C8 m ++ S4 x)) w (C8 m ++ S4 x) w) :
  Fn PR B8 44 #[.pointer (some ⟨m.b, 0, none⟩), .pointer (some ⟨x.b, 0, none⟩), a.val] w (Rn (B5 (C8 m ++ S4 x)) w (fun (y : WoG × XH) u => u = .tuple #[] ∧ D22 m x a y) fun y => C8 (m.ug y.1) ++ S4 y.2) := by
 refine A3g (TW.goH (κ := false) ?_ hw)
 unfold s5
 obtain ⟨hcl, how, hls, hnow, hxnow, hlo, hsh, hcsl, hsl, hep, hpl⟩ := h
 obtain ⟨k, n, p, pa, pc⟩ := a
 simp only [ActV.pv] at hv
 simp only at hpl
 generalize hS : B5 (C8 m ++ S4 x) = S at *
 simp only [C8, S4, E0, E2, e8, n0, ActV.val, ActV.pv, List.cons_append, List.nil_append]
 (have zz:=trivial;repeat((first|clear zz|with_reducible first|refine A3 ?_|refine A5 fun _=>?_|refine A4 fun _=>?_);try simp(disch:=first|omega|assumption|((repeat(first|exact A1|exact uH|apply A2|apply uT));first|done|fail)|(simp;first|done|omega|fail))[]))
 rename_i ba
 by_cases k1 : k = 1
 ·subst k1
  (have zz:=trivial;repeat((first|clear zz|with_reducible first|refine A3 ?_|refine A5 fun _=>?_|refine A4 fun _=>?_);try simp(disch:=first|omega|assumption|((repeat(first|exact A1|exact uH|apply A2|apply uT));first|done|fail)|(simp;first|done|omega|fail))[]))
  refine C6 (Hc := D1 m.bc m.cn m.cv m.ov m.cells m.own) A8l (fun w' _ hs => C6B w' m.bc m.cn m.cv m.ov m.cells m.own 0 1 hcl.2 (by omega) hs) (by unfold D1; (repeat' constructor)) ?_
  rintro n1 v rfl
  simp only [D1, List.cons_append, List.nil_append]
  (have zz:=trivial;repeat((first|clear zz|with_reducible first|refine A3 ?_|refine A5 fun _=>?_|refine A4 fun _=>?_);try simp(disch:=first|omega|assumption|((repeat(first|exact A1|exact uH|apply A2|apply uT));first|done|fail)|(simp;first|done|omega|fail))[]))
  refine B1 ({ m.dg with cn := n1, cells := H5 m.cells 0 (IntKind.i64.wrap (D2 m.cells 0 + 1)) }, { x with ep := x.ep + 1 }) ⟨rfl, rfl, rfl, rfl, rfl, rfl⟩ ?_
  simp only [C8, S4, E0, E2, e8, n0, WoH.ug, WoH.dg, List.cons_append, List.nil_append]
  (repeat' constructor)
 by_cases k2 : k = 2
 ·subst k2
  by_cases g1 : 0 ≤ n
  case neg =>
   (have zz:=trivial;repeat((first|clear zz|with_reducible first|refine A3 ?_|refine A5 fun _=>?_|refine A4 fun _=>?_);try simp(disch:=first|omega|assumption|((repeat(first|exact A1|exact uH|apply A2|apply uT));first|done|fail)|(simp;first|done|omega|fail))[g1]))
   refine B1 (m.dg, x) ⟨rfl, by unfold P8; simp [g1]; rfl, rfl, by unfold S3; simp [g1], rfl, rfl⟩ ?_
   simp only [C8, S4, E0, E2, e8, n0, WoH.ug, WoH.dg, List.cons_append, List.nil_append]
   (repeat' constructor)
  by_cases g2 : n < x.c.sh
  case neg =>
   (have zz:=trivial;repeat((first|clear zz|with_reducible first|refine A3 ?_|refine A5 fun _=>?_|refine A4 fun _=>?_);try simp(disch:=first|omega|assumption|((repeat(first|exact A1|exact uH|apply A2|apply uT));first|done|fail)|(simp;first|done|omega|fail))[g1, g2]))
   refine B1 (m.dg, x) ⟨rfl, by unfold P8; simp [XH.xs, g2]; rfl, rfl, by unfold S3; simp [XH.xs, g2], rfl, rfl⟩ ?_
   simp only [C8, S4, E0, E2, e8, n0, WoH.ug, WoH.dg, List.cons_append, List.nil_append]
   (repeat' constructor)
  obtain ⟨i, rfl⟩ : ∃ i : Nat, n = i := ⟨n.toNat, by omega⟩
  have hi : i < x.locks.length := by omega
  have hi' : ¬ x.locks.length ≤ i := by omega
  have hg := A15 hi
  refine s9 (e := 3) (k := 1) (v := x.lov) (q := x.locks.length) (xs := F9 x.locks) (by (repeat constructor)) (by omega) fun g gc hgl => ?_
  rw [hgl]
  obtain ⟨z, hz⟩ : ∃ z, z = x.locks.getD i 0 := ⟨_, rfl⟩
  rw [← hz] at hg
  have hgg := (List.getElem?_eq_some_iff.1 hg).2
  by_cases g3 : z < 0
  case neg =>
   (have zz:=trivial;repeat((first|clear zz|with_reducible first|refine A3 ?_|refine A5 fun _=>?_|refine A4 fun _=>?_);try simp(disch:=first|omega|assumption|((repeat(first|exact A1|exact uH|apply A2|apply uT));first|done|fail)|(simp;first|done|omega|fail))[g1, g2, g3, hg, hgg, hi, hi']))
   refine B1 (m.dg, { x with lov := .slice (some ⟨g, 0, none⟩) x.locks.length gc }) ⟨rfl, ?_, rfl, ?_, rfl, rfl⟩ ?_
   ·unfold P8; simp only [XH.xs, Int.toNat_natCast, ← hz]; simp [g3]; rfl
   ·unfold S3; simp only [XH.xs, Int.toNat_natCast, ← hz]; simp [g3]
   simp only [C8, S4, E0, E2, e8, n0, WoH.ug, WoH.dg, List.cons_append, List.nil_append]
   (repeat' constructor)
  (have zz:=trivial;repeat((first|clear zz|with_reducible first|refine A3 ?_|refine A5 fun _=>?_|refine A4 fun _=>?_);try simp(disch:=first|omega|assumption|((repeat(first|exact A1|exact uH|apply A2|apply uT));first|done|fail)|(simp;first|done|omega|fail))[g1, g2, g3, hg, hgg, hi, hi']))
  refine C6 (Hc := D1 m.bc m.cn m.cv m.ov m.cells m.own) A1E (fun w' _ hs => B5w w' m.bc m.cn m.cv m.ov m.cells m.own (i : Nat) 99 how hs) (by unfold D1; (repeat' constructor)) ?_
  rintro n1 v ⟨r, rfl⟩
  simp only [D1, List.cons_append, List.nil_append]
  (have zz:=trivial;repeat((first|clear zz|with_reducible first|refine A3 ?_|refine A5 fun _=>?_|refine A4 fun _=>?_);try simp(disch:=first|omega|assumption|((repeat(first|exact A1|exact uH|apply A2|apply uT));first|done|fail)|(simp;first|done|omega|fail))[g1, hi, hi']))
  refine U0 (by (repeat constructor)) (by simp) (by simp; omega) (by simp) ?_
  have e : Y5 (F9 x.locks) i (Value.int .i64 (99)).cells.toList = F9 (x.locks.set i (99)) := A18 hi _
  rw [e]
  refine B1 ({ m.dg with cn := n1, own := W7 m.own (i : Nat) 99 }, { x with lov := .slice (some ⟨g, 0, none⟩) x.locks.length gc, locks := x.locks.set i (99) }) ⟨rfl, ?_, rfl, ?_, rfl, rfl⟩ ?_
  ·unfold P8; simp only [XH.xs, Int.toNat_natCast, ← hz]; simp [g2, g3]; rfl
  ·unfold S3; simp only [XH.xs, Int.toNat_natCast, ← hz]; simp [g2, g3]
  simp only [C8, S4, E0, E2, e8, n0, WoH.ug, WoH.dg, List.cons_append, List.nil_append, List.length_set]
  (repeat' constructor)
 by_cases k3 : k = 3
 ·subst k3
  by_cases g1 : 0 ≤ n
  case neg =>
   (have zz:=trivial;repeat((first|clear zz|with_reducible first|refine A3 ?_|refine A5 fun _=>?_|refine A4 fun _=>?_);try simp(disch:=first|omega|assumption|((repeat(first|exact A1|exact uH|apply A2|apply uT));first|done|fail)|(simp;first|done|omega|fail))[g1]))
   refine B1 (m.dg, x) ⟨rfl, by unfold P8; simp [g1]; rfl, rfl, by unfold S3; simp [g1], rfl, rfl⟩ ?_
   simp only [C8, S4, E0, E2, e8, n0, WoH.ug, WoH.dg, List.cons_append, List.nil_append]
   (repeat' constructor)
  by_cases g2 : n < x.c.sh
  case neg =>
   (have zz:=trivial;repeat((first|clear zz|with_reducible first|refine A3 ?_|refine A5 fun _=>?_|refine A4 fun _=>?_);try simp(disch:=first|omega|assumption|((repeat(first|exact A1|exact uH|apply A2|apply uT));first|done|fail)|(simp;first|done|omega|fail))[g1, g2]))
   refine B1 (m.dg, x) ⟨rfl, by unfold P8; simp [XH.xs, g2]; rfl, rfl, by unfold S3; simp [XH.xs, g2], rfl, rfl⟩ ?_
   simp only [C8, S4, E0, E2, e8, n0, WoH.ug, WoH.dg, List.cons_append, List.nil_append]
   (repeat' constructor)
  obtain ⟨i, rfl⟩ : ∃ i : Nat, n = i := ⟨n.toNat, by omega⟩
  have hi : i < x.locks.length := by omega
  have hi' : ¬ x.locks.length ≤ i := by omega
  have hg := A15 hi
  refine s9 (e := 3) (k := 1) (v := x.lov) (q := x.locks.length) (xs := F9 x.locks) (by (repeat constructor)) (by omega) fun g gc hgl => ?_
  rw [hgl]
  obtain ⟨z, hz⟩ : ∃ z, z = x.locks.getD i 0 := ⟨_, rfl⟩
  rw [← hz] at hg
  have hgg := (List.getElem?_eq_some_iff.1 hg).2
  by_cases g3 : z = 99
  case neg =>
   (have zz:=trivial;repeat((first|clear zz|with_reducible first|refine A3 ?_|refine A5 fun _=>?_|refine A4 fun _=>?_);try simp(disch:=first|omega|assumption|((repeat(first|exact A1|exact uH|apply A2|apply uT));first|done|fail)|(simp;first|done|omega|fail))[g1, g2, g3, hg, hgg, hi, hi']))
   refine B1 (m.dg, { x with lov := .slice (some ⟨g, 0, none⟩) x.locks.length gc }) ⟨rfl, ?_, rfl, ?_, rfl, rfl⟩ ?_
   ·unfold P8; simp only [XH.xs, Int.toNat_natCast, ← hz]; simp [g3]; rfl
   ·unfold S3; simp only [XH.xs, Int.toNat_natCast, ← hz]; simp [g3]
   simp only [C8, S4, E0, E2, e8, n0, WoH.ug, WoH.dg, List.cons_append, List.nil_append]
   (repeat' constructor)
  (have zz:=trivial;repeat((first|clear zz|with_reducible first|refine A3 ?_|refine A5 fun _=>?_|refine A4 fun _=>?_);try simp(disch:=first|omega|assumption|((repeat(first|exact A1|exact uH|apply A2|apply uT));first|done|fail)|(simp;first|done|omega|fail))[g1, g2, g3, hg, hgg, hi, hi']))
  refine C6 (Hc := D1 m.bc m.cn m.cv m.ov m.cells m.own) y7 (fun w' _ hs => B17 w' m.bc m.cn m.cv m.ov m.cells m.own (i : Nat) 99 how hs) (by unfold D1; (repeat' constructor)) ?_
  rintro n1 v ⟨r, rfl⟩
  simp only [D1, List.cons_append, List.nil_append]
  (have zz:=trivial;repeat((first|clear zz|with_reducible first|refine A3 ?_|refine A5 fun _=>?_|refine A4 fun _=>?_);try simp(disch:=first|omega|assumption|((repeat(first|exact A1|exact uH|apply A2|apply uT));first|done|fail)|(simp;first|done|omega|fail))[g1, hi, hi']))
  refine U0 (by (repeat constructor)) (by simp) (by simp; omega) (by simp) ?_
  have e : Y5 (F9 x.locks) i (Value.int .i64 (-1)).cells.toList = F9 (x.locks.set i (-1)) := A18 hi _
  rw [e]
  refine B1 ({ m.dg with cn := n1, own := N4 m.own (i : Nat) 99 }, { x with lov := .slice (some ⟨g, 0, none⟩) x.locks.length gc, locks := x.locks.set i (-1) }) ⟨rfl, ?_, rfl, ?_, rfl, rfl⟩ ?_
  ·unfold P8; simp only [XH.xs, Int.toNat_natCast, ← hz]; simp [g2, g3]; rfl
  ·unfold S3; simp only [XH.xs, Int.toNat_natCast, ← hz]; simp [g2, g3]
  simp only [C8, S4, E0, E2, e8, n0, WoH.ug, WoH.dg, List.cons_append, List.nil_append, List.length_set]
  (repeat' constructor)
 by_cases k4 : k = 4
 ·subst k4
  (have zz:=trivial;repeat((first|clear zz|with_reducible first|refine A3 ?_|refine A5 fun _=>?_|refine A4 fun _=>?_);try simp(disch:=first|omega|assumption|((repeat(first|exact A1|exact uH|apply A2|apply uT));first|done|fail)|(simp;first|done|omega|fail))[]))
  refine C6 (Hc := G3 m.bs m.sv m.ls) A6q (fun w' _ hs => C2a w' m.bs m.sv m.ls n hls hs) (by unfold G3; (repeat' constructor)) ?_
  rintro _ v hv'
  simp only [G3, List.cons_append, List.nil_append]
  (have zz:=trivial;repeat((first|clear zz|with_reducible first|refine A3 ?_|refine A5 fun _=>?_|refine A4 fun _=>?_);try simp(disch:=first|omega|assumption|((repeat(first|exact A1|exact uH|apply A2|apply uT));first|done|fail)|(simp;first|done|omega|fail))[]))
  refine C6 (Hc := G3 m.bs m.sv (S8 m.ls n .bld)) A7M (fun w' hw' hs => C3y w' m.bs m.sv (S8 m.ls n .bld) n (.slice pa p.length pc) p (by rw [B1a]; exact hls) hpl (B8q hv hw') hs) (by unfold G3; (repeat' constructor)) ?_
  rintro ls2 v2 ⟨hv2, hl2, hsp⟩
  rw [B0e] at hsp
  simp only [G3, List.cons_append, List.nil_append]
  (have zz:=trivial;repeat((first|clear zz|with_reducible first|refine A3 ?_|refine A5 fun _=>?_|refine A4 fun _=>?_);try simp(disch:=first|omega|assumption|((repeat(first|exact A1|exact uH|apply A2|apply uT));first|done|fail)|(simp;first|done|omega|fail))[]))
  refine H2 A3s (fun w' hw' => B9c w' x.slv x.sl n hsl (P6.own (e := 270) (k := 2) (by (repeat constructor)) w' hw')) ?_
  rintro r1 v3 rfl
  cases hi : s0 x.sl.length n with
  | false =>
   (have zz:=trivial;repeat((first|clear zz|with_reducible first|refine A3 ?_|refine A5 fun _=>?_|refine A4 fun _=>?_);try simp(disch:=first|omega|assumption|((repeat(first|exact A1|exact uH|apply A2|apply uT));first|done|fail)|(simp;first|done|omega|fail))[]))
   refine B1 ({ m.dg with ls := ls2 }, x) ⟨rfl, ?_, rfl, ?_, rfl, rfl⟩ ?_
   ·unfold P8; simp [WoH.ws, WoH.ug, WoH.dg, hsp]; rfl
   ·unfold S3; simp [XH.xs, hi]
   simp only [C8, S4, E0, E2, e8, n0, WoH.ug, WoH.dg, List.cons_append, List.nil_append]
   (repeat' constructor)
  | true =>
   simp only [if_true]
   have hbl : (S7 x.sl n).length = x.sl.length := A48 _ _ _
   refine T6 (e := 270) (k := 2) (v := r1) (q := (S7 x.sl n).length) (xs := (S7 x.sl n).flatMap V8) (by (repeat constructor)) fun sa sc hu => ?_
   subst hu
   (have zz:=trivial;repeat((first|clear zz|with_reducible first|refine A3 ?_|refine A5 fun _=>?_|refine A4 fun _=>?_);try simp(disch:=first|omega|assumption|((repeat(first|exact A1|exact uH|apply A2|apply uT));first|done|fail)|(simp;first|done|omega|fail))[]))
   refine H2 A4a (fun w' hw' => C00 w' (.slice sa (S7 x.sl n).length sc) (S7 x.sl n) n p pa pc (by omega) (by omega) (P6.own (e := 270) (k := 2) (by (repeat constructor)) w' hw') (hv w' hw'.ks)) ?_
   rintro r2 v4 rfl
   cases hfl : flR (S7 x.sl n) n p with
   | false =>
    (have zz:=trivial;repeat((first|clear zz|with_reducible first|refine A3 ?_|refine A5 fun _=>?_|refine A4 fun _=>?_);try simp(disch:=first|omega|assumption|((repeat(first|exact A1|exact uH|apply A2|apply uT));first|done|fail)|(simp;first|done|omega|fail))[]))
    refine B1 ({ m.dg with ls := ls2 }, { x with slv := .slice sa (S7 x.sl n).length sc, sl := S7 x.sl n }) ⟨rfl, ?_, rfl, ?_, rfl, rfl⟩ ?_
    ·unfold P8; simp [WoH.ws, WoH.ug, WoH.dg, hsp]; rfl
    ·unfold S3; simp [XH.xs, hi, A0H, hfl]
    simp only [C8, S4, E0, E2, e8, n0, WoH.ug, WoH.dg, List.cons_append, List.nil_append]
    (repeat' constructor)
   | true =>
    simp only [if_true]
    refine T6 (e := 270) (k := 2) (v := r2) (q := (A0H (S7 x.sl n) n p (pa, p.length, pc)).length) (xs := (A0H (S7 x.sl n) n p (pa, p.length, pc)).flatMap V8) (by (repeat constructor)) fun ra rc hu => ?_
    subst hu
    (have zz:=trivial;repeat((first|clear zz|with_reducible first|refine A3 ?_|refine A5 fun _=>?_|refine A4 fun _=>?_);try simp(disch:=first|omega|assumption|((repeat(first|exact A1|exact uH|apply A2|apply uT));first|done|fail)|(simp;first|done|omega|fail))[]))
    refine B1 ({ m.dg with ls := ls2 }, { x with slv := .slice ra (A0H (S7 x.sl n) n p (pa, p.length, pc)).length rc, sl := A0H (S7 x.sl n) n p (pa, p.length, pc) }) ⟨rfl, ?_, rfl, ?_, rfl, rfl⟩ ?_
    ·unfold P8; simp [WoH.ws, WoH.ug, WoH.dg, hsp]; rfl
    ·unfold S3; simp [XH.xs, hi]
    simp only [C8, S4, E0, E2, e8, n0, WoH.ug, WoH.dg, List.cons_append, List.nil_append]
    (repeat' constructor)
 by_cases k5 : k = 5
 ·subst k5
  (have zz:=trivial;repeat((first|clear zz|with_reducible first|refine A3 ?_|refine A5 fun _=>?_|refine A4 fun _=>?_);try simp(disch:=first|omega|assumption|((repeat(first|exact A1|exact uH|apply A2|apply uT));first|done|fail)|(simp;first|done|omega|fail))[]))
  refine C6 (Hc := G3 m.bs m.sv m.ls) A60 (fun w' _ hs => C2M w' m.bs m.sv m.ls n hls hs) (by unfold G3; (repeat' constructor)) ?_
  rintro _ v hv'
  simp only [G3, List.cons_append, List.nil_append]
  (have zz:=trivial;repeat((first|clear zz|with_reducible first|refine A3 ?_|refine A5 fun _=>?_|refine A4 fun _=>?_);try simp(disch:=first|omega|assumption|((repeat(first|exact A1|exact uH|apply A2|apply uT));first|done|fail)|(simp;first|done|omega|fail))[]))
  refine H2 A3l (fun w' hw' => B95 w' x.slv x.sl n hsl (P6.own (e := 270) (k := 2) (by (repeat constructor)) w' hw')) ?_
  rintro r1 v3 rfl
  cases hi : s0 x.sl.length n with
  | false =>
   refine T6 (e := 270) (k := 2) (v := x.slv) (q := x.sl.length) (xs := x.sl.flatMap V8) (by (repeat constructor)) fun sa sc hu => ?_
   rw [hu]
   (have zz:=trivial;repeat((first|clear zz|with_reducible first|refine A3 ?_|refine A5 fun _=>?_|refine A4 fun _=>?_);try simp(disch:=first|omega|assumption|((repeat(first|exact A1|exact uH|apply A2|apply uT));first|done|fail)|(simp;first|done|omega|fail))[]))
   refine B1 ({ m.dg with ls := S8 m.ls n .no }, { x with slv := .slice sa x.sl.length sc }) ⟨rfl, ?_, rfl, ?_, rfl, rfl⟩ ?_
   ·unfold P8; simp [WoH.ws, WoH.ug, WoH.dg, B0e]; rfl
   ·have e : n4 x.sl n = x.sl := by unfold n4 A3V; simp [s0] at hi; rw [if_neg (by omega)]
    unfold S3; simp [XH.xs, e]
   simp only [C8, S4, E0, E2, e8, n0, WoH.ug, WoH.dg, List.cons_append, List.nil_append]
   (repeat' constructor)
  | true =>
   simp only [if_true]
   refine T6 (e := 270) (k := 2) (v := r1) (q := (n4 x.sl n).length) (xs := (n4 x.sl n).flatMap V8) (by (repeat constructor)) fun sa sc hu => ?_
   subst hu
   (have zz:=trivial;repeat((first|clear zz|with_reducible first|refine A3 ?_|refine A5 fun _=>?_|refine A4 fun _=>?_);try simp(disch:=first|omega|assumption|((repeat(first|exact A1|exact uH|apply A2|apply uT));first|done|fail)|(simp;first|done|omega|fail))[]))
   refine B1 ({ m.dg with ls := S8 m.ls n .no }, { x with slv := .slice sa (n4 x.sl n).length sc, sl := n4 x.sl n }) ⟨rfl, ?_, rfl, ?_, rfl, rfl⟩ ?_
   ·unfold P8; simp [WoH.ws, WoH.ug, WoH.dg, B0e]; rfl
   ·unfold S3; simp [XH.xs]
   simp only [C8, S4, E0, E2, e8, n0, WoH.ug, WoH.dg, List.cons_append, List.nil_append]
   (repeat' constructor)
 by_cases k6 : k = 6
 ·subst k6
  by_cases g1 : -1 ≤ n
  case neg =>
   (have zz:=trivial;repeat((first|clear zz|with_reducible first|refine A3 ?_|refine A5 fun _=>?_|refine A4 fun _=>?_);try simp(disch:=first|omega|assumption|((repeat(first|exact A1|exact uH|apply A2|apply uT));first|done|fail)|(simp;first|done|omega|fail))[g1]))
   refine B1 (m.dg, x) ⟨rfl, by unfold P8; simp [g1]; rfl, rfl, by unfold S3; simp [g1], rfl, rfl⟩ ?_
   simp only [C8, S4, E0, E2, e8, n0, WoH.ug, WoH.dg, List.cons_append, List.nil_append]
   (repeat' constructor)
  by_cases g2 : n < x.c.sl
  case neg =>
   (have zz:=trivial;repeat((first|clear zz|with_reducible first|refine A3 ?_|refine A5 fun _=>?_|refine A4 fun _=>?_);try simp(disch:=first|omega|assumption|((repeat(first|exact A1|exact uH|apply A2|apply uT));first|done|fail)|(simp;first|done|omega|fail))[g1, g2]))
   refine B1 (m.dg, x) ⟨rfl, by unfold P8; simp [XH.xs, g2]; rfl, rfl, by unfold S3; simp [XH.xs, g2], rfl, rfl⟩ ?_
   simp only [C8, S4, E0, E2, e8, n0, WoH.ug, WoH.dg, List.cons_append, List.nil_append]
   (repeat' constructor)
  (have zz:=trivial;repeat((first|clear zz|with_reducible first|refine A3 ?_|refine A5 fun _=>?_|refine A4 fun _=>?_);try simp(disch:=first|omega|assumption|((repeat(first|exact A1|exact uH|apply A2|apply uT));first|done|fail)|(simp;first|done|omega|fail))[g1, g2]))
  refine C6 (Hc := D1 m.bc m.cn m.cv m.ov m.cells m.own) j5 (fun w' _ hs => A9A w' m.bc m.cn m.cv m.ov m.cells m.own 1 (n + 1) hcl.2 hs) (by unfold D1; (repeat' constructor)) ?_
  rintro n1 v rfl
  simp only [D1, List.cons_append, List.nil_append]
  (have zz:=trivial;repeat((first|clear zz|with_reducible first|refine A3 ?_|refine A5 fun _=>?_|refine A4 fun _=>?_);try simp(disch:=first|omega|assumption|((repeat(first|exact A1|exact uH|apply A2|apply uT));first|done|fail)|(simp;first|done|omega|fail))[]))
  refine B1 ({ m.dg with cn := n1, cells := H5 m.cells 1 (n + 1) }, { x with cur := n + 1 }) ⟨rfl, ?_, rfl, ?_, rfl, rfl⟩ ?_
  ·unfold P8; simp [XH.xs, g1, g2]; rfl
  ·unfold S3; simp [XH.xs, g1, g2]
  simp only [C8, S4, E0, E2, e8, n0, WoH.ug, WoH.dg, List.cons_append, List.nil_append]
  (repeat' constructor)
 by_cases k7 : k = 7
 ·subst k7
  (have zz:=trivial;repeat((first|clear zz|with_reducible first|refine A3 ?_|refine A5 fun _=>?_|refine A4 fun _=>?_);try simp(disch:=first|omega|assumption|((repeat(first|exact A1|exact uH|apply A2|apply uT));first|done|fail)|(simp;first|done|omega|fail))[]))
  refine C6 (Hc := [E0 m.b m.c (.pointer (some ⟨m.bc, 0, none⟩)) (.pointer (some ⟨m.bs, 0, none⟩)) (.pointer (some ⟨m.bk, 0, none⟩)) m.tv m.pv (.int .i64 m.now)]) A7k (fun w' _ hs => C3s w' m.b m.c _ _ _ m.tv m.pv m.now n hnow hs) (by unfold E0 E2; (repeat' constructor)) ?_
  rintro _ v rfl
  simp only [E0, E2, List.cons_append, List.nil_append]
  (have zz:=trivial;repeat((first|clear zz|with_reducible first|refine A3 ?_|refine A5 fun _=>?_|refine A4 fun _=>?_);try simp(disch:=first|omega|assumption|((repeat(first|exact A1|exact uH|apply A2|apply uT));first|done|fail)|(simp;first|done|omega|fail))[]))
  refine C6 (Hc := [e8 x.b x.c x.ep x.cur x.piv x.lov x.slv x.kev x.tav x.plv x.now]) A1N (fun w' _ hs => C1V w' x.b x.c x.ep x.cur x.piv x.lov x.slv x.kev x.tav x.plv x.now n hxnow hs) (by unfold e8 n0; (repeat' constructor)) ?_
  rintro _ v rfl
  simp only [e8, n0, List.cons_append, List.nil_append]
  (have zz:=trivial;repeat((first|clear zz|with_reducible first|refine A3 ?_|refine A5 fun _=>?_|refine A4 fun _=>?_);try simp(disch:=first|omega|assumption|((repeat(first|exact A1|exact uH|apply A2|apply uT));first|done|fail)|(simp;first|done|omega|fail))[]))
  refine B1 ({ m.dg with now := Z0 m.now n }, { x with now := Z0 x.now n }) ⟨rfl, ?_, rfl, ?_, rfl, rfl⟩ ?_
  ·unfold P8; simp; rfl
  ·unfold S3; simp [XH.xs]
  simp only [C8, S4, E0, E2, e8, n0, WoH.ug, WoH.dg, List.cons_append, List.nil_append]
  (repeat' constructor)
 ·(have zz:=trivial;repeat((first|clear zz|with_reducible first|refine A3 ?_|refine A5 fun _=>?_|refine A4 fun _=>?_);try simp(disch:=first|omega|assumption|((repeat(first|exact A1|exact uH|apply A2|apply uT));first|done|fail)|(simp;first|done|omega|fail))[k1, k2, k3, k4, k5, k6, k7]))
  refine B1 (m.dg, x) ⟨rfl, by unfold P8; simp [k1, k2, k3, k4, k5, k6, k7]; rfl, rfl, by unfold S3; simp [k1, k2, k3, k4, k5, k6, k7], rfl, rfl⟩ ?_
  simp only [C8, S4, E0, E2, e8, n0, WoH.ug, WoH.dg, List.cons_append, List.nil_append]
  (repeat' constructor)
end Go.Proofs.YtjobgnabneddjaaGreat
namespace Go.Proofs.YtjobgnabneddjaaGreat
open Go
structure GI (N E : Nat) (j : JW) (x : WS) : Prop where
 ok : WsOk x
 n : 1 ≤ N ∧ N ≤ 16
 sh : x.c.sh = (N : Nat)
 tl : x.tabs.length = N
 te : ∀ t ∈ x.tabs, TabOk x.c.cp.toNat t
 pl : x.places.length = N
 ow : x.own.length = N
 jt : TabOk 0 j.table ∨ TabOk x.c.cp.toNat j.table
 ep : 0 ≤ D2 x.cells 0 ∧ D2 x.cells 0 ≤ E
 cur : 0 ≤ D2 x.cells 1 ∧ D2 x.cells 1 ≤ 500
 now : 0 ≤ x.now ∧ x.now ≤ 1000000000
 text : j.text.size ≤ 100
 key : j.key.size < 2 ^ 60
 shard : 0 ≤ j.shard ∧ j.shard < N
 slot : -1 ≤ j.slot ∧ j.slot ≤ 500
 st : 0 ≤ j.st ∧ j.st ≤ 10
 jep : 0 ≤ j.ep ∧ j.ep ≤ E
 jt2 : 6 ≤ j.st → j.st < 10 → TabOk x.c.cp.toNat j.table
theorem GI.stage {N E : Nat} {j : JW} {x : WS} (h : GI N E j x) (k : Nat) (hk : k < 10) (hs : j.st = (k : Nat)) : GI N E (D0 k { j with st := j.st + 1 } x).1 (D0 k { j with st := j.st + 1 } x).2.1 := by
 have hst : 0 ≤ j.st + 1 ∧ j.st + 1 ≤ 10 := by omega
 have hcase : k = 0 ∨ k = 1 ∨ k = 2 ∨ k = 3 ∨ k = 4 ∨ k = 5 ∨ k = 6 ∨ k = 7 ∨ k = 8 ∨ k = 9 := by omega
 have hn := h.n
 have hcur := h.cur
 rcases hcase with rfl | rfl | rfl | rfl | rfl | rfl | rfl | rfl | rfl | rfl
 ·show GI N E (jw0 _ x).1 (jw0 _ x).2.1
  unfold jw0
  by_cases c1 : G0 x.c j.who < 0
  ·rw [if_pos c1]; exact { h with st := by simp [JW.refuse], jt2 := fun _ (h6 : (10 : Int) < 10) => by omega }
  ·rw [if_neg c1]
   by_cases c2 : (E1 j.text).2.2 = 0
   ·rw [if_neg (by simpa using c2)]
    have h3 := h.sh
    have : T2 (l7 (E1 j.text).1) x.c.sh < N := by
     unfold T2; rw [if_neg (by omega), h3, Int.toNat_natCast]; exact Nat.mod_lt _ (by omega)
    exact { h with st := hst, key := A9Q _, jep := h.ep, jt2 := fun (h6 : 6 ≤ j.st + 1) _ => by omega, shard := ⟨Int.natCast_nonneg _, by show ((T2 (l7 (E1 j.text).1) x.c.sh : Nat) : Int) < N; omega⟩ }
   ·rw [if_pos c2]; exact { h with st := by simp [JW.refuse], jt2 := fun _ (h6 : (10 : Int) < 10) => by omega }
 ·have e0 : D2 (H5 x.cells (G0 x.c j.who) (IntKind.i64.wrap (j.ep + 1))) 0 = D2 x.cells 0 := f8 _ _ _ _ _ (Or.inl rfl)
  have e1 : D2 (H5 x.cells (G0 x.c j.who) (IntKind.i64.wrap (j.ep + 1))) 1 = D2 x.cells 1 := f8 _ _ _ _ _ (Or.inr rfl)
  exact { h with st := hst, jt2 := fun (h6 : 6 ≤ j.st + 1) _ => by omega, ok := ⟨h.ok.wk, by simp only [D0, jw1, A0k]; exact h.ok.cells, h.ok.own, h.ok.sl, h.ok.keep⟩, ep := by simp only [D0, jw1]; rw [e0]; exact h.ep, cur := by simp only [D0, jw1]; rw [e1]; exact h.cur }
 ·show GI N E (jw2 _ x).1 (jw2 _ x).2.1
  unfold jw2
  by_cases c1 : D2 x.cells 0 = j.ep
  ·rw [if_pos c1]; exact { h with st := hst, jt2 := fun (h6 : 6 ≤ j.st + 1) _ => by omega }
  ·rw [if_neg c1]; exact { h with st := by simp, jep := h.ep, jt2 := fun (h6 : (6 : Int) ≤ 1) _ => by omega }
 ·exact { h with st := hst, jt2 := fun (h6 : 6 ≤ j.st + 1) _ => by omega, ok := ⟨h.ok.wk, h.ok.cells, by simp only [D0, jw3, A0W]; exact h.ok.own, h.ok.sl, h.ok.keep⟩, ow := by simp only [D0, jw3, A0W]; exact h.ow }
 ·have e : IntKind.i64.wrap (D2 x.cells 1 - 1) = D2 x.cells 1 - 1 := W5 (by omega) (by omega)
  exact { h with st := hst, jt2 := fun (h6 : 6 ≤ j.st + 1) _ => by omega, slot := by show -1 ≤ IntKind.i64.wrap (D2 x.cells 1 - 1) ∧ IntKind.i64.wrap (D2 x.cells 1 - 1) ≤ 500; rw [e]; omega }
 ·have hsd := h.shard
  have htl := h.tl
  have key : TabOk x.c.cp.toNat (x.tabs.getD j.shard.toNat []) := by
   rw [List.getD_eq_getElem?_getD, List.getElem?_eq_getElem (by omega)]
   exact h.te _ (List.getElem_mem _)
  exact { h with st := hst, jt := Or.inr key, jt2 := fun _ _ => key }
 ·exact { h with st := hst, jt := h.jt.imp (fun g => (A7q g h.key).1) (fun g => (A7q g h.key).1), jt2 := fun _ _ => (A7q (h.jt2 (by omega) (by omega)) h.key).1 }
 ·have key := h.jt2 (by omega) (by omega)
  refine { h with st := hst, tl := by simp only [D0, jw7, List.length_set]; exact h.tl, te := fun t ht => ?_, ok := ⟨h.ok.wk, h.ok.cells, h.ok.own, h.ok.sl, h.ok.keep⟩, jt2 := fun _ _ => key }
  rcases List.mem_or_eq_of_mem_set (show t ∈ x.tabs.set j.shard.toNat j.table from ht) with ht | rfl
  ·exact h.te t ht
  ·exact key
 ·exact { h with st := hst, jt2 := fun _ _ => h.jt2 (by omega) (by omega), ok := ⟨h.ok.wk, h.ok.cells, by simp only [D0, jw8, n8]; exact h.ok.own, h.ok.sl, h.ok.keep⟩, ow := by simp only [D0, jw8, n8]; exact h.ow }
 ·have e0 : D2 (H5 x.cells (G0 x.c j.who) 0) 0 = D2 x.cells 0 := f8 _ _ _ _ _ (Or.inl rfl)
  have e1 : D2 (H5 x.cells (G0 x.c j.who) 0) 1 = D2 x.cells 1 := f8 _ _ _ _ _ (Or.inr rfl)
  exact { h with st := hst, jt2 := fun _ (h6 : j.st + 1 < 10) => by omega, ok := ⟨h.ok.wk, by simp only [D0, jw9, A0k]; exact h.ok.cells, h.ok.own, h.ok.sl, h.ok.keep⟩, ep := by simp only [D0, jw9]; rw [e0]; exact h.ep, cur := by simp only [D0, jw9]; rw [e1]; exact h.cur }
theorem GI.step {N E : Nat} {j : JW} {x : WS} (h : GI N E j x) : GI N E (j.step x).1 (j.step x).2.1 := by
 cases hr : j.ready x with
 | false => rw [A6G hr]; exact h
 | true =>
  have hs := h.st
  have hl := A73 hr
  rw [A0J hr]
  exact h.stage _ (by omega) (by omega)
theorem B8W (l : List Int) (i k v : Int) : D2 (H5 l i v) k = if i = k ∧ 0 ≤ i ∧ i < l.length then v else D2 l k := by
 by_cases c : i = k
 ·subst c
  rw [A11]
  by_cases d : 0 ≤ i ∧ i < l.length
  ·rw [if_pos d, if_pos ⟨rfl, d⟩]
  ·rw [if_neg d, if_neg (by omega)]
   unfold D2; rw [if_neg d]
 ·rw [m0 _ _ c, if_neg (by omega)]
theorem GI.hap {N E : Nat} {j : JW} {x : WS} (h : GI N E j x) (hE : E ≤ 1000) (a : ActV) (y : XS) (hc : y.c = x.c) (hcs : x.c.sl ≤ 8) : GI N (E + 1) j (P8 a x y) := by
 have hep := h.ep
 have hcl := h.ok.cells
 have hwk := h.ok.wk
 have up : GI N (E + 1) j x := { h with ep := by omega, jep := by have := h.jep; omega }
 unfold P8
 split
 ·have e0 : D2 (H5 x.cells 0 (IntKind.i64.wrap (D2 x.cells 0 + 1))) 0 = D2 x.cells 0 + 1 := by
   rw [A11, if_pos (by omega)]; exact W5 (by omega) (by omega)
  have e1 : D2 (H5 x.cells 0 (IntKind.i64.wrap (D2 x.cells 0 + 1))) 1 = D2 x.cells 1 := m0 _ _ (by omega)
  exact { up with ep := by simp only; rw [e0]; omega, cur := by simp only; rw [e1]; exact h.cur, ok := ⟨h.ok.wk, by simp only [A0k]; exact hcl, h.ok.own, h.ok.sl, h.ok.keep⟩ }
 split
 ·split
  ·exact { up with ok := ⟨h.ok.wk, h.ok.cells, by simp only [A0W]; exact h.ok.own, h.ok.sl, h.ok.keep⟩, ow := by simp only [A0W]; exact h.ow }
  ·exact up
 split
 ·split
  ·exact { up with ok := ⟨h.ok.wk, h.ok.cells, by simp only [n8]; exact h.ok.own, h.ok.sl, h.ok.keep⟩, ow := by simp only [n8]; exact h.ow }
  ·exact up
 split
 ·exact { up with ok := ⟨h.ok.wk, h.ok.cells, h.ok.own, by simp only [C0j, A3j]; exact h.ok.sl, h.ok.keep⟩ }
 split
 ·exact { up with ok := ⟨h.ok.wk, h.ok.cells, h.ok.own, by simp only [A3j]; exact h.ok.sl, h.ok.keep⟩ }
 split
 ·split
  ·rename_i hn
   rw [hc] at hn
   have e1 : D2 (H5 x.cells 1 (a.n + 1)) 1 = a.n + 1 := by rw [A11, if_pos (by omega)]
   have e0 : D2 (H5 x.cells 1 (a.n + 1)) 0 = D2 x.cells 0 := m0 _ _ (by omega)
   exact { up with ep := by simp only; rw [e0]; exact up.ep, cur := by simp only; rw [e1]; omega, ok := ⟨h.ok.wk, by simp only [A0k]; exact hcl, h.ok.own, h.ok.sl, h.ok.keep⟩ }
  ·exact up
 split
 ·exact { up with now := B6w h.now, ok := ⟨h.ok.wk, h.ok.cells, h.ok.own, h.ok.sl, h.ok.keep⟩ }
 ·exact up
end Go.Proofs.YtjobgnabneddjaaGreat
namespace Go.Proofs.YtjobgnabneddjaaGreat
open Go
structure PinJ (N E : Nat) (who pd e : Int) (j : JW) (x : WS) (y : XS) : Prop where
 g : GI N E j x
 hwho : j.who = who
 w0 : 0 ≤ who ∧ who ≤ 60
 lk : y.locks = x.own
 yc : y.c = x.c
 ec : D2 x.cells 0 = e
 free : ∀ i, i < N → x.own.getD i 0 < 0 → x.own.getD i 0 = -1
 held : 4 ≤ j.st → j.st ≤ 8 → ∀ i : Nat, i < N → (x.own.getD i 0 = who ↔ (i : Int) = j.shard)
 none : ¬ (4 ≤ j.st ∧ j.st ≤ 8) → ∀ i, i < N → x.own.getD i 0 ≠ who
 off : G0 x.c who < 0 → j.st = 0 ∨ j.st = 10
 p0 : 0 ≤ G0 x.c who → (j.st = 0 ∨ j.st = 10) → D2 x.cells (G0 x.c who) = 0
 p2 : 2 ≤ j.st → j.st ≤ 9 → D2 x.cells (G0 x.c who) = j.ep + 1
 pd0 : j.st ≤ 2 → pd = 0
 pd3 : 3 ≤ j.st → j.st ≤ 9 → pd = j.ep + 1
def pdN (pd e : Int) (j : JW) : Int := if j.st = 3 ∧ pd = 0 then e + 1 else pd
theorem c8 {pd e : Int} {j : JW} (h : j.st ≠ 3 ∨ pd ≠ 0) : pdN pd e j = pd := by unfold pdN; rw [if_neg (by omega)]
theorem j7 {l : List Int} {i k : Nat} {v : Int} (hi : i < l.length) : (l.set i v).getD k 0 = if i = k then v else l.getD k 0 := by
 rw [List.getD_eq_getElem?_getD, List.getElem?_set]
 by_cases c : i = k
 ·subst c; rw [if_pos rfl, if_pos hi, if_pos rfl]; rfl
 ·rw [if_neg c, if_neg c, ← List.getD_eq_getElem?_getD]
theorem PinJ.stage {N E : Nat} {who pd e : Int} {j : JW} {x : WS} {y : XS} (h : PinJ N E who pd e j x y) (hE : E ≤ 1000) (k : Nat) (hk : k < 10) (hs : j.st = (k : Nat)) (hr : j.ready x = true) :
  PinJ N E who (pdN pd e (D0 k { j with st := j.st + 1 } x).1) e (D0 k { j with st := j.st + 1 } x).1 (D0 k { j with st := j.st + 1 } x).2.1 { y with locks := (D0 k { j with st := j.st + 1 } x).2.1.own } := by
 have hw := h.hwho
 subst hw
 have hw : j.who = j.who := rfl
 have hg := h.g.stage k hk hs
 have hcase : k = 0 ∨ k = 1 ∨ k = 2 ∨ k = 3 ∨ k = 4 ∨ k = 5 ∨ k = 6 ∨ k = 7 ∨ k = 8 ∨ k = 9 := by omega
 have hn := h.g.n
 have hwk := h.g.ok.wk
 have hcl := h.g.ok.cells
 have hsd := h.g.shard
 have how := h.g.ow
 have hjep := h.g.jep
 have hw0 := h.w0
 have hpr : 0 ≤ G0 x.c j.who → 2 ≤ G0 x.c j.who ∧ G0 x.c j.who < x.cells.length := by unfold G0; intro h1; split at h1 <;> split <;> omega
 have hoff := h.off
 have hno := h.none
 have hhe := h.held
 rcases hcase with rfl | rfl | rfl | rfl | rfl | rfl | rfl | rfl | rfl | rfl
 ·have hno' := hno (by omega)
  have hpd := h.pd0 (by omega)
  have hp0 := fun g => h.p0 g (Or.inl (by omega))
  rw [show D0 0 { j with st := j.st + 1 } x = jw0 { j with st := j.st + 1 } x from rfl] at hg ⊢
  unfold jw0 at hg ⊢
  simp only at hg ⊢
  by_cases c1 : G0 x.c j.who < 0
  ·rw [if_pos c1] at hg ⊢
   rw [c8 (Or.inl (by simp [JW.refuse]))]
   exact ⟨hg, hw, h.w0, rfl, h.yc, h.ec, h.free, fun _ (h8 : (10 : Int) ≤ 8) => by omega, fun _ => hno', fun _ => Or.inr rfl, fun g _ => hp0 g, fun _ (h9 : (10 : Int) ≤ 9) => by omega, fun (h2 : (10 : Int) ≤ 2) => by omega, fun _ (h9 : (10 : Int) ≤ 9) => by omega⟩
  rw [if_neg c1] at hg ⊢
  by_cases c2 : (E1 j.text).2.2 = 0
  case neg =>
   rw [if_pos c2] at hg ⊢
   rw [c8 (Or.inl (by simp [JW.refuse]))]
   exact ⟨hg, hw, h.w0, rfl, h.yc, h.ec, h.free, fun _ (h8 : (10 : Int) ≤ 8) => by omega, fun _ => hno', fun _ => Or.inr rfl, fun g _ => hp0 g, fun _ (h9 : (10 : Int) ≤ 9) => by omega, fun (h2 : (10 : Int) ≤ 2) => by omega, fun _ (h9 : (10 : Int) ≤ 9) => by omega⟩
  rw [if_neg (by simpa using c2)] at hg ⊢
  rw [c8 (Or.inl (by simp only [JW.rd]; omega))]
  exact ⟨hg, hw, h.w0, rfl, h.yc, h.ec, h.free, fun (h4 : 4 ≤ j.st + 1) _ => by omega, fun _ => hno', fun g => absurd g c1, fun g (h1 : j.st + 1 = 0 ∨ j.st + 1 = 10) => by omega, fun (h2 : 2 ≤ j.st + 1) _ => by omega, fun _ => hpd, fun (h3 : 3 ≤ j.st + 1) _ => by omega⟩
 ·have hno' := hno (by omega)
  have hpd := h.pd0 (by omega)
  have hp : 0 ≤ G0 x.c j.who := by have := hoff; omega
  have hp' := hpr hp
  have e0 : D2 (H5 x.cells (G0 x.c j.who) (j.ep + 1)) 0 = D2 x.cells 0 := by rw [B8W, if_neg (by omega)]
  have e1 : D2 (H5 x.cells (G0 x.c j.who) (j.ep + 1)) (G0 x.c j.who) = j.ep + 1 := by rw [B8W, if_pos (by omega)]
  rw [show D0 1 { j with st := j.st + 1 } x = ({ j with st := j.st + 1 }, { x with cells := H5 x.cells (G0 x.c j.who) (IntKind.i64.wrap (j.ep + 1)) }, x9) from rfl, W5 (by omega) (by omega)] at hg ⊢
  rw [c8 (Or.inl (show j.st + 1 ≠ 3 by omega))]
  exact ⟨hg, hw, h.w0, rfl, h.yc, by simp only; rw [e0]; exact h.ec, h.free, fun (h4 : 4 ≤ j.st + 1) _ => by omega, fun _ => hno', fun g => by simp only at g; omega, fun g (h1 : j.st + 1 = 0 ∨ j.st + 1 = 10) => by omega, fun _ _ => e1, fun _ => hpd, fun (h3 : 3 ≤ j.st + 1) _ => by omega⟩
 ·have hno' := hno (by omega)
  have hpd := h.pd0 (by omega)
  have hp2 := h.p2 (by omega) (by omega)
  have hec := h.ec
  rw [show D0 2 { j with st := j.st + 1 } x = jw2 { j with st := j.st + 1 } x from rfl] at hg ⊢
  unfold jw2 at hg ⊢
  simp only at hg ⊢
  by_cases c1 : D2 x.cells 0 = j.ep
  ·rw [if_pos c1] at hg ⊢
   have e : pdN pd e { j with st := j.st + 1 } = j.ep + 1 := by unfold pdN; rw [if_pos ⟨show j.st + 1 = 3 by omega, hpd⟩]; omega
   simp only [e]
   exact ⟨hg, hw, h.w0, rfl, h.yc, h.ec, h.free, fun (h4 : 4 ≤ j.st + 1) _ => by omega, fun _ => hno', fun g => by have := hoff g; omega, fun g (h1 : j.st + 1 = 0 ∨ j.st + 1 = 10) => by omega, fun _ _ => hp2, fun (h2 : j.st + 1 ≤ 2) => by omega, fun _ _ => rfl⟩
  ·rw [if_neg c1] at hg ⊢
   rw [c8 (Or.inl (show (1 : Int) ≠ 3 by omega))]
   exact ⟨hg, hw, h.w0, rfl, h.yc, h.ec, h.free, fun (h4 : (4 : Int) ≤ 1) _ => by omega, fun _ => hno', fun g => by have := hoff g; omega, fun g (h1 : (1 : Int) = 0 ∨ (1 : Int) = 10) => by omega, fun (h2 : (2 : Int) ≤ 1) _ => by omega, fun _ => hpd, fun (h3 : (3 : Int) ≤ 1) _ => by omega⟩
 ·have hpd := h.pd3 (by omega) (by omega)
  have hp2 := h.p2 (by omega) (by omega)
  have hno' := hno (by omega)
  obtain ⟨s, hs2⟩ : ∃ s : Nat, j.shard = s := ⟨j.shard.toNat, by omega⟩
  have hsN : s < N := by omega
  have hf : x.own.getD s 0 = -1 := by
   refine h.free s hsN ?_
   unfold JW.ready at hr
   rw [hs, hs2, B20 (by omega)] at hr
   simpa using hr
  have hlo : W7 x.own j.shard j.who = x.own.set s j.who := by
   unfold W7; rw [if_pos (by omega), hs2, A3b (by omega), if_pos hf]
  rw [show D0 3 { j with st := j.st + 1 } x = ({ j with st := j.st + 1 }, { x with own := W7 x.own j.shard j.who }, x9) from rfl, hlo] at hg ⊢
  rw [c8 (Or.inl (show j.st + 1 ≠ 3 by omega))]
  refine ⟨hg, hw, h.w0, rfl, h.yc, h.ec, fun i hi => ?_, fun _ _ i hi => ?_, fun (hx : ¬ (4 ≤ j.st + 1 ∧ j.st + 1 ≤ 8)) => by omega, fun g => by have := hoff g; omega, fun g (h1 : j.st + 1 = 0 ∨ j.st + 1 = 10) => by omega, fun _ _ => hp2, fun (h2 : j.st + 1 ≤ 2) => by omega, fun _ _ => hpd⟩
  ·simp only
   rw [j7 (by omega)]
   split
   ·omega
   ·exact h.free i hi
  ·simp only
   rw [j7 (by omega), hs2]
   split
   ·rename_i hq; simp [hq]
   ·rename_i hq
    have := hno' i hi
    constructor
    ·intro g; exact absurd g this
    ·intro g; omega
 ·have hpd := h.pd3 (by omega) (by omega)
  have hp2 := h.p2 (by omega) (by omega)
  have hh := hhe (by omega) (by omega)
  rw [c8 (Or.inl (show j.st + 1 ≠ 3 by omega))]
  exact ⟨hg, hw, h.w0, rfl, h.yc, h.ec, h.free, fun _ _ => hh, fun (hx : ¬ (4 ≤ j.st + 1 ∧ j.st + 1 ≤ 8)) => by omega, fun g => by have := hoff g; omega, fun g (h1 : j.st + 1 = 0 ∨ j.st + 1 = 10) => by omega, fun _ _ => hp2, fun (h2 : j.st + 1 ≤ 2) => by omega, fun _ _ => hpd⟩
 ·have hpd := h.pd3 (by omega) (by omega)
  have hp2 := h.p2 (by omega) (by omega)
  have hh := hhe (by omega) (by omega)
  rw [c8 (Or.inl (show j.st + 1 ≠ 3 by omega))]
  exact ⟨hg, hw, h.w0, rfl, h.yc, h.ec, h.free, fun _ _ => hh, fun (hx : ¬ (4 ≤ j.st + 1 ∧ j.st + 1 ≤ 8)) => by omega, fun g => by have := hoff g; omega, fun g (h1 : j.st + 1 = 0 ∨ j.st + 1 = 10) => by omega, fun _ _ => hp2, fun (h2 : j.st + 1 ≤ 2) => by omega, fun _ _ => hpd⟩
 ·have hpd := h.pd3 (by omega) (by omega)
  have hp2 := h.p2 (by omega) (by omega)
  have hh := hhe (by omega) (by omega)
  rw [c8 (Or.inl (show j.st + 1 ≠ 3 by omega))]
  exact ⟨hg, hw, h.w0, rfl, h.yc, h.ec, h.free, fun _ _ => hh, fun (hx : ¬ (4 ≤ j.st + 1 ∧ j.st + 1 ≤ 8)) => by omega, fun g => by have := hoff g; omega, fun g (h1 : j.st + 1 = 0 ∨ j.st + 1 = 10) => by omega, fun _ _ => hp2, fun (h2 : j.st + 1 ≤ 2) => by omega, fun _ _ => hpd⟩
 ·have hpd := h.pd3 (by omega) (by omega)
  have hp2 := h.p2 (by omega) (by omega)
  have hh := hhe (by omega) (by omega)
  rw [c8 (Or.inl (show j.st + 1 ≠ 3 by omega))]
  exact ⟨hg, hw, h.w0, rfl, h.yc, h.ec, h.free, fun _ _ => hh, fun (hx : ¬ (4 ≤ j.st + 1 ∧ j.st + 1 ≤ 8)) => by omega, fun g => by have := hoff g; omega, fun g (h1 : j.st + 1 = 0 ∨ j.st + 1 = 10) => by omega, fun _ _ => hp2, fun (h2 : j.st + 1 ≤ 2) => by omega, fun _ _ => hpd⟩
 ·have hpd := h.pd3 (by omega) (by omega)
  have hp2 := h.p2 (by omega) (by omega)
  have hh := hhe (by omega) (by omega)
  obtain ⟨s, hs2⟩ : ∃ s : Nat, j.shard = s := ⟨j.shard.toNat, by omega⟩
  have hsN : s < N := by omega
  have hf : x.own.getD s 0 = j.who := (hh s hsN).2 hs2.symm
  have hlo : N4 x.own j.shard j.who = x.own.set s (-1) := by
   unfold N4; rw [if_pos (by omega), hs2, A3b (by omega), if_pos hf]
  rw [show D0 8 { j with st := j.st + 1 } x = ({ j with st := j.st + 1 }, { x with own := N4 x.own j.shard j.who }, x9) from rfl, hlo] at hg ⊢
  rw [c8 (Or.inl (show j.st + 1 ≠ 3 by omega))]
  refine ⟨hg, hw, h.w0, rfl, h.yc, h.ec, fun i hi => ?_, fun _ (h8 : j.st + 1 ≤ 8) => by omega, fun _ i hi => ?_, fun g => by have := hoff g; omega, fun g (h1 : j.st + 1 = 0 ∨ j.st + 1 = 10) => by omega, fun _ _ => hp2, fun (h2 : j.st + 1 ≤ 2) => by omega, fun _ _ => hpd⟩
  ·simp only
   rw [j7 (by omega)]
   split
   ·intro; rfl
   ·exact h.free i hi
  ·simp only
   rw [j7 (by omega)]
   split
   ·omega
   ·rename_i hq
    intro g
    have := (hh i hi).1 g
    omega
 ·have hpd := h.pd3 (by omega) (by omega)
  have hno' := hno (by omega)
  have e0 : D2 (H5 x.cells (G0 x.c j.who) 0) 0 = D2 x.cells 0 := f8 _ _ _ _ _ (Or.inl rfl)
  rw [show D0 9 { j with st := j.st + 1 } x = ({ j with st := j.st + 1 }, { x with cells := H5 x.cells (G0 x.c j.who) 0 }, false, true, false) from rfl] at hg ⊢
  rw [c8 (Or.inl (show j.st + 1 ≠ 3 by omega))]
  exact ⟨hg, hw, h.w0, rfl, h.yc, by simp only; rw [e0]; exact h.ec, h.free, fun _ (h8 : j.st + 1 ≤ 8) => by omega, fun _ => hno', fun _ => Or.inr (show j.st + 1 = 10 by omega), fun g _ => by simp only; rw [A11, if_pos (by have := hpr g; omega)], fun _ (h9 : j.st + 1 ≤ 9) => by omega, fun (h2 : j.st + 1 ≤ 2) => by omega, fun _ (h9 : j.st + 1 ≤ 9) => by omega⟩
theorem PinJ.step {N E : Nat} {who pd e : Int} {j : JW} {x : WS} {y : XS} (h : PinJ N E who pd e j x y) (hE : E ≤ 1000) : PinJ N E who (pdN pd e (j.step x).1) e (j.step x).1 (j.step x).2.1 { y with locks := (j.step x).2.1.own } := by
 cases hr : j.ready x with
 | false =>
  rw [A6G hr]
  have e1 : pdN pd e j = pd := by
   by_cases c : j.st = 3
   ·have h1 := h.pd3 (by omega) (by omega)
    have h2 := h.g.jep
    exact c8 (Or.inr (by omega))
   ·exact c8 (Or.inl c)
  simp only [e1]
  exact ⟨h.g, h.hwho, h.w0, rfl, h.yc, h.ec, h.free, h.held, h.none, h.off, h.p0, h.p2, h.pd0, h.pd3⟩
 | true =>
  have hs := h.g.st
  have hl := A73 hr
  rw [A0J hr]
  exact h.stage hE _ (by omega) (by omega) hr
theorem PinJ.put {N E E' : Nat} {who pd e e' : Int} {j : JW} {x x' : WS} {y y' : XS} (h : PinJ N E who pd e j x y) (hg : GI N E' j x') (hc : x'.c = x.c) (hy : y'.c = x.c) (hl : y'.locks = x'.own) (he : D2 x'.cells 0 = e')
  (hp : 0 ≤ G0 x.c who → D2 x'.cells (G0 x.c who) = D2 x.cells (G0 x.c who))
  (ho : ∀ i, i < N → x'.own.getD i 0 = x.own.getD i 0 ∨ (x.own.getD i 0 ≠ who ∧ x'.own.getD i 0 ≠ who ∧ (x'.own.getD i 0 < 0 → x'.own.getD i 0 = -1))) : PinJ N E' who pd e' j x' y' := by
 have hoff := h.off
 have hw0 := h.w0
 refine ⟨hg, h.hwho, h.w0, hl, by rw [hy, hc], he, fun i hi hf => ?_, fun h4 h8 i hi => ?_, fun hx i hi => ?_, by rw [hc]; exact h.off, by rw [hc]; exact fun g g2 => by rw [hp g]; exact h.p0 g g2, by rw [hc]; exact fun g g2 => by rw [hp (by omega)]; exact h.p2 g g2, h.pd0, h.pd3⟩
 ·rcases ho i hi with ho | ho
  ·rw [ho] at hf ⊢; exact h.free i hi hf
  ·exact ho.2.2 hf
 ·have := h.held h4 h8 i hi
  rcases ho i hi with ho | ho
  ·rw [ho]; exact this
  ·constructor
   ·intro g; exact absurd g ho.2.1
   ·intro g; exact absurd (this.2 g) ho.1
 ·have := h.none hx i hi
  rcases ho i hi with ho | ho
  ·rw [ho]; exact this
  ·exact ho.2.1
theorem C17 (a : ActV) (y : XS) : (S3 a y).c = y.c := by
 unfold S3
 repeat' split
 all_goals rfl
theorem PinJ.hap {N E : Nat} {who pd e : Int} {j : JW} {x : WS} {y : XS} (h : PinJ N E who pd e j x y) (hE : E ≤ 1000) (a : ActV) (hcs : x.c.sl ≤ 8) :
  PinJ N (E + 1) who pd (if a.k = 1 then e + 1 else e) j (P8 a x y) { S3 a y with locks := (P8 a x y).own } := by
 have hg := h.g.hap hE a y h.yc hcs
 have hyc := h.yc
 have hlk := h.lk
 have hsh := h.g.sh
 have how := h.g.ow
 have hw0 := h.w0
 have hwk := h.g.ok.wk
 have hcl := h.g.ok.cells
 have hep := h.g.ep
 have hec := h.ec
 have hpr : 0 ≤ G0 x.c who → 2 ≤ G0 x.c who ∧ G0 x.c who < x.cells.length := by unfold G0; intro h1; split at h1 <;> split <;> omega
 have hy : ({ S3 a y with locks := (P8 a x y).own } : XS).c = x.c := by show (S3 a y).c = x.c; rw [C17, hyc]
 have hu : GI N (E + 1) j x := { h.g with ep := by omega, jep := by have := h.g.jep; omega }
 generalize hX : S3 a y = y' at *
 have same : ∀ i, i < N → x.own.getD i 0 = x.own.getD i 0 ∨ (x.own.getD i 0 ≠ who ∧ x.own.getD i 0 ≠ who ∧ (x.own.getD i 0 < 0 → x.own.getD i 0 = -1)) := fun i _ => Or.inl rfl
 unfold P8 at hg hy ⊢
 by_cases k1 : a.k = 1
 ·rw [if_pos k1] at hg hy ⊢
  rw [if_pos k1]
  have e0 : D2 (H5 x.cells 0 (IntKind.i64.wrap (D2 x.cells 0 + 1))) 0 = D2 x.cells 0 + 1 := by
   rw [A11, if_pos (by omega)]; exact W5 (by omega) (by omega)
  exact h.put hg rfl hy rfl (by simp only; rw [e0, hec]) (fun g => m0 _ _ (by have := hpr g; omega)) same
 rw [if_neg k1] at hg hy ⊢
 rw [if_neg k1]
 by_cases k2 : a.k = 2
 ·rw [if_pos k2] at hg hy ⊢
  by_cases c : (0 ≤ a.n ∧ a.n < y.c.sh) ∧ y.locks.getD a.n.toNat 0 < 0
  case neg => rw [if_neg c] at hg hy ⊢; exact h.put hg rfl hy rfl hec (fun _ => rfl) same
  rw [if_pos c] at hg hy ⊢
  obtain ⟨n, hn⟩ : ∃ n : Nat, a.n = n := ⟨a.n.toNat, by omega⟩
  rw [hn, hyc, hsh, hlk, Int.toNat_natCast] at c
  have hnN : n < N := by omega
  have hf := h.free n hnN c.2
  have hlo : W7 x.own a.n 99 = x.own.set n 99 := by
   unfold W7; rw [if_pos (by omega), hn, A3b (by omega), if_pos hf]
  rw [hlo] at hg hy ⊢
  refine h.put hg rfl hy rfl hec (fun _ => rfl) fun i hi => ?_
  simp only
  rw [j7 (by omega)]
  by_cases d : n = i
  ·subst d; rw [if_pos rfl, hf]; right; omega
  ·rw [if_neg d]; exact Or.inl rfl
 rw [if_neg k2] at hg hy ⊢
 by_cases k3 : a.k = 3
 ·rw [if_pos k3] at hg hy ⊢
  by_cases c : (0 ≤ a.n ∧ a.n < y.c.sh) ∧ y.locks.getD a.n.toNat 0 = 99
  case neg => rw [if_neg c] at hg hy ⊢; exact h.put hg rfl hy rfl hec (fun _ => rfl) same
  rw [if_pos c] at hg hy ⊢
  obtain ⟨n, hn⟩ : ∃ n : Nat, a.n = n := ⟨a.n.toNat, by omega⟩
  rw [hn, hyc, hsh, hlk, Int.toNat_natCast] at c
  have hnN : n < N := by omega
  have hlo : N4 x.own a.n 99 = x.own.set n (-1) := by
   unfold N4; rw [if_pos (by omega), hn, A3b (by omega), if_pos c.2]
  rw [hlo] at hg hy ⊢
  refine h.put hg rfl hy rfl hec (fun _ => rfl) fun i hi => ?_
  simp only
  rw [j7 (by omega)]
  by_cases d : n = i
  ·subst d; rw [if_pos rfl, c.2]; right; omega
  ·rw [if_neg d]; exact Or.inl rfl
 rw [if_neg k3] at hg hy ⊢
 by_cases k4 : a.k = 4
 ·rw [if_pos k4] at hg hy ⊢; exact h.put hg rfl hy rfl hec (fun _ => rfl) same
 rw [if_neg k4] at hg hy ⊢
 by_cases k5 : a.k = 5
 ·rw [if_pos k5] at hg hy ⊢; exact h.put hg rfl hy rfl hec (fun _ => rfl) same
 rw [if_neg k5] at hg hy ⊢
 by_cases k6 : a.k = 6
 ·rw [if_pos k6] at hg hy ⊢
  by_cases c : -1 ≤ a.n ∧ a.n < y.c.sl
  case neg => rw [if_neg c] at hg hy ⊢; exact h.put hg rfl hy rfl hec (fun _ => rfl) same
  rw [if_pos c] at hg hy ⊢
  exact h.put hg rfl hy rfl (by simp only; rw [m0 _ _ (by omega)]; exact hec) (fun g => m0 _ _ (by have := hpr g; omega)) same
 rw [if_neg k6] at hg hy ⊢
 by_cases k7 : a.k = 7
 ·rw [if_pos k7] at hg hy ⊢; exact h.put hg rfl hy rfl hec (fun _ => rfl) same
 rw [if_neg k7] at hg hy ⊢; exact h.put hg rfl hy rfl hec (fun _ => rfl) same
theorem B4c : TabOk 0 ([] : List EnV) := ⟨rfl, by omega, fun x hx => by simp at hx, by decide +kernel⟩
theorem GI.new {c : CfgV} (hok : M7 c = true) (who : Int) (text : ByteArray) (ht : text.size ≤ 100) : GI c.sh.toNat 0 (D9 who text) (H6 c) := by
 have hw := C1Q hok
 simp only [M7, W0, Bool.and_eq_true, decide_eq_true_eq] at hok
 have e0 : D2 (H6 c).cells 0 = 0 := A3Z _ _
 have e1 : D2 (H6 c).cells 1 = 0 := A3Z _ _
 refine ⟨hw, by omega, by show c.sh = _; omega, by simp [H6], fun t h => ?_, by simp [H6], by simp [H6], Or.inl B4c, by rw [e0]; omega, by rw [e1]; omega, by simp [H6], ht, by simp [D9, L9], by simp only [D9]; omega, by simp [D9], by simp [D9], by simp [D9], fun h => by simp [D9] at h⟩
 rw [(List.mem_replicate.1 (show t ∈ List.replicate c.sh.toNat (newE c.cp.toNat) from h)).2]
 exact TabOk.new (n := c.cp.toNat) (by omega)
structure XI (E : Nat) (y : XS) : Prop where
 sh : 1 ≤ y.c.sh ∧ y.c.sh ≤ 16
 csl : y.c.sl ≤ 8
 now : 0 ≤ y.now ∧ y.now ≤ 1000000000
 locks : (y.locks.length : Int) = y.c.sh
 sl : y.sl.length ≤ 8
 ep : 0 ≤ y.ep ∧ y.ep ≤ E
theorem C1Y (l : List V4) (i : Int) (p : List E6) (x : Option Addr × Nat × Nat) : (A0H l i p x).length = l.length := by unfold A0H; split; exact A48 _ _ _; rfl
theorem XI.hap {E : Nat} {y : XS} (h : XI E y) (a : ActV) : XI (E + 1) (S3 a y) := by
 have hep := h.ep
 have up : XI (E + 1) y := { h with ep := by omega }
 unfold S3
 split
 ·exact { up with ep := by simp only; omega }
 split
 ·split
  ·exact { up with locks := by simp only [List.length_set]; exact h.locks }
  ·exact up
 split
 ·split
  ·exact { up with locks := by simp only [List.length_set]; exact h.locks }
  ·exact up
 split
 ·refine { up with sl := ?_ }
  simp only
  split
  ·rw [C1Y, show (S7 y.sl a.n).length = y.sl.length from A48 _ _ _]; exact h.sl
  ·exact h.sl
 split
 ·exact { up with sl := by simp only; rw [show (n4 y.sl a.n).length = y.sl.length from A48 _ _ _]; exact h.sl }
 split
 ·split
  ·exact { up with }
  ·exact up
 split
 ·exact { up with now := B6w h.now }
 ·exact up
theorem XI.lk {E : Nat} {y : XS} (h : XI E y) {l : List Int} (hl : (l.length : Int) = y.c.sh) : XI E { y with locks := l } := { h with locks := hl }
end Go.Proofs.YtjobgnabneddjaaGreat
namespace Go.Proofs.YtjobgnabneddjaaGreat
open Go
abbrev JA := JW × Value × WoG × N5
def jsH (b : Nat) (m : WoH) (a : JA) : List Res := F3 b a.1 a.2.1 (m.ug a.2.2.1) a.2.2.2
def j8 (m : WoH) (a : JA) : WS := (m.ug a.2.2.1).ws
structure JsC (cp : Nat) (a : JA) : Prop where
 tab : ∀ t ∈ a.2.2.2, TabOk 0 t.2 ∨ TabOk cp t.2
 sub : A23 a.2.2.1.ts a.2.2.2
 tb : (a.2.1, a.1.table) ∈ a.2.2.2
theorem JsC.ok {N E : Nat} {m : WoH} {a : JA} {cp : Nat} (h : JsC cp a) (hE : E ≤ 1000) (hg : GI N E a.1 (j8 m a)) (hcp : (j8 m a).c.cp.toNat = cp) : JwOk a.1 a.2.1 (m.ug a.2.2.1) a.2.2.2 := by
 obtain ⟨j, tv, d, P⟩ := a
 have hts : d.ts.length = N := by have := hg.tl; simpa [j8, WoH.ws, WoH.ug] using this
 have hn := hg.n
 have hpl : d.pl.length = N := hg.pl
 have how : d.own.length = N := hg.ow
 have hsh : m.c.sh = (N : Nat) := hg.sh
 have htx : j.text.size ≤ 100 := hg.text
 have hsl : -1 ≤ j.slot ∧ j.slot ≤ 500 := hg.slot
 have hsd : 0 ≤ j.shard ∧ j.shard < N := hg.shard
 have h0 : 0 ≤ D2 d.cells 0 ∧ D2 d.cells 0 ≤ E := hg.ep
 have h1 : 0 ≤ D2 d.cells 1 ∧ D2 d.cells 1 ≤ 500 := hg.cur
 have key : ∀ t : List EnV, TabOk 0 t ∨ TabOk cp t → Q6 t ∧ t.length ≤ 64 := fun t ht => by
  rcases ht with ht | ht
  ·exact ⟨ht.keys, by rw [ht.len]; omega⟩
  ·exact ⟨ht.keys, by rw [ht.len]; exact ht.few⟩
 have hjt := key _ (h.tab _ h.tb)
 simp only at hjt
 refine ⟨hg.ok, ⟨by show d.ts.length ≤ _; omega, by show d.pl.length = d.ts.length; omega, fun t ht => ?_, fun t ht => (key _ (h.tab _ (h.sub _ ht))).1, by show d.own.length ≤ _; omega, h.sub⟩, h.tb, by show (d.ts.length : Int) = m.c.sh; omega, by show j.text.size < _; omega, hg.key, by show 0 ≤ j.shard ∧ j.shard < (d.ts.length : Int); omega, hjt.1, by show j.table.length ≤ _; omega, by show -1 ≤ j.slot ∧ j.slot ≤ _; omega, by show 0 ≤ D2 d.cells 0 ∧ D2 d.cells 0 ≤ _; omega, by show 0 ≤ D2 d.cells 1 ∧ D2 d.cells 1 ≤ _; omega⟩
 have := (key _ (h.tab _ (h.sub _ ht))).2; omega
def WoG.uz (d : WoG) (z : WoZ) : WoG := { d with cn := z.cn, cells := z.cells, own := z.own, tv := z.tv, ts := z.ts }
theorem C1z {N E : Nat} (w' : World) (b : Nat) (m : WoH) (a : JA) (cp : Nat) (hc : JsC cp a) (hE : E ≤ 1000) (hg : GI N E a.1 (j8 m a)) (hcp : (j8 m a).c.cp.toNat = cp) (hs : LW false (B5 (jsH b m a)) w' (jsH b m a) w') :
  Fn PR B8 20 #[.pointer (some ⟨b, 0, none⟩), .pointer (some ⟨m.b, 0, none⟩)] w' (Rn (B5 (jsH b m a)) w' (fun (a' : JA) u => u = M4 (a.1.step (j8 m a)).2.2 ∧ a'.1 = (a.1.step (j8 m a)).1 ∧ j8 m a' = (a.1.step (j8 m a)).2.1 ∧ JsC cp a' ∧ A23 a.2.2.2 a'.2.2.2) (jsH b m)) := by
 have hg' := hg.step
 obtain ⟨j, tv, d, P⟩ := a
 refine (B4Y w' b j tv (m.ug d) P (hc.ok hE hg hcp) hg.st hs).mono fun u w'' hr => ?_
 obtain ⟨y, ⟨h1, h2, h3, h4, h5⟩, h6⟩ := hr
 have e2 : j8 m ((j.step (m.ug d).ws).1, y.1, d.uz y.2.1, y.2.2) = (j.step (m.ug d).ws).2.1 := h2
 refine ⟨((j.step (m.ug d).ws).1, y.1, d.uz y.2.1, y.2.2), ⟨h1, rfl, e2, ⟨fun t ht => ?_, h3, h4⟩, h5.1⟩, h6⟩
 rcases h5.2 t ht with h | h
 ·exact hc.tab t h
 ·rw [h]
  have hj := hg'.jt
  have ec : (j.step (m.ug d).ws).2.1.c.cp.toNat = cp := by rw [← e2]; exact hcp
  rw [show j8 m (j, tv, d, P) = (m.ug d).ws from rfl, ec] at hj
  exact hj
theorem C70 {N E : Nat} {S : List Nat} {w0 : World} {H Hk : List Res} {X : Nat → Prop} {K : Value → WP} (b : Nat) (m : WoH) (a : JA) (cp : Nat) (hc : JsC cp a) (hE : E ≤ 1000) (hg : GI N E a.1 (j8 m a)) (hcp : (j8 m a).c.cp.toNat = cp) (hs : Sels (jsH b m a ++ Hk) H)
  (hK : ∀ a' : JA, a'.1 = (a.1.step (j8 m a)).1 → j8 m a' = (a.1.step (j8 m a)).2.1 → JsC cp a' → A23 a.2.2.2 a'.2.2.2 → TW false S w0 (jsH b m a' ++ Hk) (K (M4 (a.1.step (j8 m a)).2.2))) :
  TW false S w0 H (B4 PR X 20 [.pointer (some ⟨b, 0, none⟩), .pointer (some ⟨m.b, 0, none⟩)] K) := by
 refine Sels.tw hs ?_
 refine C6 (Hc := jsH b m a) (Hk := Hk) p6 (fun w' hw' hs => C1z w' b m a cp hc hE hg hcp hs) (B1F _ _) ?_
 rintro a' v ⟨rfl, k1, k2, k3, k4⟩
 exact hK a' k1 k2 k3 k4
theorem GI.hapOk {N E : Nat} {j : JW} {m : WoH} {x : XH} {a : ActV} (hg : GI N E j m.ws) (hx : XI E x.xs) (hE : E ≤ 1000) (hls : m.ls.length ≤ 8) (ha : a.pool.length ≤ 8) : HapOk m x a := by
 have h1 : m.cells.length = _ := hg.ok.cells
 have h2 := hg.ok.wk
 have h3 : m.own.length = N := hg.ow
 have h4 := hg.n
 exact ⟨by omega, by omega, hls, hg.now, hx.now, hx.locks, hx.sh.2, hx.csl, hx.sl, by have := hx.ep; show 0 ≤ x.xs.ep ∧ x.xs.ep ≤ _; omega, by omega⟩
theorem C48 {N E : Nat} {S : List Nat} {w0 : World} {H Hk : List Res} {X : Nat → Prop} {K : Value → WP} (b : Nat) (m : WoH) (a : JA) (x : XH) (ac : ActV) (cp : Nat) (hc : JsC cp a) (hE : E ≤ 1000) (hg : GI N E a.1 (j8 m a)) (hx : XI E x.xs) (ha : ac.pool.length ≤ 8) (hv : ∀ w', KS false S w0 w' → G1 w' ac.pv ac.pool.length (ac.pool.flatMap J0))
  (hs : Sels (jsH b m a ++ (S4 x ++ Hk)) H)
  (hK : ∀ (a' : JA) (x' : XH), a'.1 = a.1 → j8 m a' = P8 ac (j8 m a) x.xs → x'.b = x.b → x'.xs = S3 ac x.xs → x'.ts = x.ts → JsC cp a' → A23 a.2.2.2 a'.2.2.2 → TW false S w0 (jsH b m a' ++ (S4 x' ++ Hk)) (K (.tuple #[]))) :
  TW false S w0 H (B4 PR X 44 [.pointer (some ⟨m.b, 0, none⟩), .pointer (some ⟨x.b, 0, none⟩), ac.val] K) := by
 obtain ⟨j, tv, d, P⟩ := a
 have hls : (m.ug d).ls.length ≤ 8 := by have := hg.ok.sl; simpa [j8, WoH.ws] using this
 have hperm : ∀ (d : WoG) (x : XH), (jsH b m (j, tv, d, P) ++ (S4 x ++ Hk)).Perm ((C8 (m.ug d) ++ S4 x) ++ (E9 b j tv :: Y3 P :: Hk)) := fun d x => by
  simp only [jsH, F3, List.cons_append]
  refine List.Perm.trans ?_ (List.perm_middle (l₁ := C8 (m.ug d) ++ S4 x)).symm
  refine List.Perm.cons _ ?_
  refine List.Perm.trans ?_ (List.perm_middle (l₁ := C8 (m.ug d) ++ S4 x)).symm
  refine List.Perm.cons _ ?_
  rw [List.append_assoc]
 refine Sels.tw hs ?_
 refine TW.perm ?_ (hperm d x)
 refine C6 (Hc := C8 (m.ug d) ++ S4 x) (Hk := E9 b j tv :: Y3 P :: Hk) A3N (fun w' hw' hs => C1J w' (m.ug d) x ac (GI.hapOk (j := j) hg hx hE hls ha) (B8q hv hw') hs) (B1F _ _) ?_
 rintro ⟨d', x'⟩ v ⟨rfl, h1, h2, h3, h4, h5⟩
 refine TW.perm ?_ (hperm d' x').symm
 exact hK (j, tv, d', P) x' rfl h1 h2 h3 h5 ⟨hc.tab, fun t ht => hc.sub t (by rw [← show d'.ts = d.ts from h4]; exact ht), hc.tb⟩ (fun t ht => ht)
end Go.Proofs.YtjobgnabneddjaaGreat
namespace Go.Proofs.YtjobgnabneddjaaGreat
open Go
def A5a (T : List EnV) (p : List E6) (key : ByteArray) (idle : Int) : Nat → List EnV
 | 0 => T
 | n + 1 => (K9 (A5a T p key idle n) p key false 0 idle).1
def B5y (T : List EnV) (p : List E6) (key : ByteArray) (idle : Int) (n : Nat) : AnsV := (K9 (A5a T p key idle n) p key false 0 idle).2.1
theorem C2s {cp : Nat} {p : List E6} {key : ByteArray} {idle : Int} (hcp : 1 ≤ cp ∧ cp ≤ 64) (hp : p ≠ []) (hc : K4 p = 0) (hi : 0 ≤ idle ∧ idle ≤ 1000000) :
  ∃ b, B5y (newE cp) p key idle 0 = ⟨0, b, true, 0⟩ ∧ B5y (newE cp) p key idle 1 = ⟨0, b, false, 0⟩ ∧ (C9 (A5a (newE cp) p key idle 2)).length = 1 := by
 have hno : Q5 (newE cp) key := A8G.2 (by rw [V5]; simp)
 have hk0 := B2S (p := p) (now := 0) hno.find
 have hne : ∀ l : List EnV, ¬ ((K7 l p key 0).2 = false ∧ p = []) := fun l h => hp h.2
 have hlen : (newE cp).length = cp := by rw [A3x]; omega
 obtain ⟨u, hu, hperm⟩ := B6r (a := newE cp) (x := A1w (newE cp) p key 0 idle) rfl hno (by rw [V5, hlen]; simp; omega)
 have d0 : K9 (newE cp) p key false 0 idle = (u, ⟨0, l3 (newE cp) p key 0, true, 0⟩, true) := by
  unfold K9
  rw [if_neg (hne _), if_neg (by simp), hu, hk0]; rfl
 have hin := C38 (hne (newE cp)) hc
 obtain ⟨j, hj, hul, hfj, _⟩ := A5L hu rfl
 have hfj : E3 u key = (j : Nat) := hfj
 have hat : Z1 u key = A1w (newE cp) p key 0 idle := by
  unfold Z1
  rw [hfj, Int.toNat_natCast, hul, List.getD_eq_getElem?_getD, List.getElem?_set, if_pos rfl, if_pos hj]; rfl
 have hdl : IntKind.i64.wrap ((0 : Int) + idle) = idle := by rw [W5 (by omega) (by omega)]; omega
 have hk1 : K7 u p key 0 = (l3 (newE cp) p key 0, true) := by
  unfold K7
  rw [hat]
  simp only [A1w, hdl]
  rw [if_neg (by omega)]
 have hf1 : (C9 u).length = 1 := by rw [hperm.length_eq, V5]; rfl
 have hp1 : l3 u p key 0 = l3 (newE cp) p key 0 := by
  rw [show l3 u p key 0 = (if (K7 u p key 0).2 then (K7 u p key 0).1 else A4n p (Y4 key)) from rfl, hk1]; rfl
 refine ⟨l3 (newE cp) p key 0, ?_, ?_, ?_⟩
 ·unfold B5y A5a; rw [d0]
 ·unfold B5y A5a A5a
  rw [d0]
  simp only
  unfold K9
  rw [if_neg (hne _), if_neg (by simp)]
  cases hq : K1 u (A1w u p key 0 idle) with
  | none => have := B4P hq; simp only [A1w] at this; omega
  | some v => simp only [hk1, hp1]; rfl
 ·unfold A5a A5a A5a
  rw [d0]
  simp only
  unfold K9
  rw [if_neg (hne _), if_neg (by simp)]
  cases hq : K1 u (A1w u p key 0 idle) with
  | none => have := B4P hq; simp only [A1w] at this; omega
  | some v =>
   simp only
   rcases B2J (x := A1w u p key 0 idle) rfl hq with ⟨h0, h1⟩ | ⟨h0, h1⟩
   ·have hl := h1.length_eq
    simp only [List.length_cons] at hl; omega
   ·have h0 : E3 u key < 0 := h0
    omega
theorem GI.mix {N E : Nat} {j k : JW} {x x' : WS} (h : GI N E k x) (g : GI N E j x') (hc : x'.c = x.c) : GI N E k x' :=
 { ok := g.ok, n := g.n, sh := g.sh, tl := g.tl, te := g.te, pl := g.pl, ow := g.ow, jt := by rw [hc]; exact h.jt, ep := g.ep, cur := g.cur, now := g.now, text := h.text, key := h.key, shard := h.shard, slot := h.slot, st := h.st, jep := h.jep, jt2 := by rw [hc]; exact h.jt2 }
def F7 (j : JW) : Prop := 4 ≤ j.st ∧ j.st ≤ 8
def dn (j : JW) : Nat := if 8 ≤ j.st then 1 else 0
structure OwnT (c : CfgV) (text : ByteArray) (s : Nat) (a : Int) (j : JW) : Prop where
 who : j.who = a
 txt : j.text = text
 pin : 0 ≤ G0 c a
 a0 : 0 ≤ a
 rd : 1 ≤ j.st → j.key = l7 (E1 text).1 ∧ j.shard = (s : Nat) ∧ j.closing = false
 sl : 5 ≤ j.st → j.slot = 0 ∧ j.now = 0
structure WldT (c : CfgV) (p : List E6) (s N : Nat) (x : WS) : Prop where
 cc : x.c = c
 cur : D2 x.cells 1 = 1
 now : x.now = 0
 sl : H4 x.sl 0 = .rdy p
 oth : ∀ i, i < N → i ≠ s → x.tabs.getD i [] = newE c.cp.toNat
structure Two (N : Nat) (c : CfgV) (p : List E6) (text : ByteArray) (s : Nat) (T : Nat → List EnV) (A : Nat → AnsV) (a b : Int) (j k : JW) (x : WS) : Prop where
 gj : GI N 0 j x
 gk : GI N 0 k x
 w : WldT c p s N x
 oj : OwnT c text s a j
 ok : OwnT c text s b k
 own1 : F7 j → x.own.getD s 0 = a
 own2 : F7 k → x.own.getD s 0 = b
 own3 : ¬ F7 j → ¬ F7 k → x.own.getD s 0 = -1
 excl : F7 j → ¬ F7 k
 tab : x.tabs.getD s [] = T (dn j + dn k)
 lj : j.st = 6 → j.table = x.tabs.getD s []
 lk : k.st = 6 → k.table = x.tabs.getD s []
 dj : j.st = 7 → j.table = T (dn k + 1) ∧ j.ans = A (dn k)
 dk : k.st = 7 → k.table = T (dn j + 1) ∧ k.ans = A (dn j)
 aj : 8 ≤ j.st → k.st < 8 → j.ans = A 0
 ak : 8 ≤ k.st → j.st < 8 → k.ans = A 0
 ab : 8 ≤ j.st → 8 ≤ k.st → (j.ans = A 0 ∧ k.ans = A 1) ∨ (j.ans = A 1 ∧ k.ans = A 0)
theorem Two.swap {N : Nat} {c : CfgV} {p : List E6} {text : ByteArray} {s : Nat} {T : Nat → List EnV} {A : Nat → AnsV} {a b : Int} {j k : JW} {x : WS} (h : Two N c p text s T A a b j k x) : Two N c p text s T A b a k j x :=
 ⟨h.gk, h.gj, h.w, h.ok, h.oj, h.own2, h.own1, fun g1 g2 => h.own3 g2 g1, fun g1 g2 => h.excl g2 g1, by rw [Nat.add_comm]; exact h.tab, h.lk, h.lj, h.dk, h.dj, h.ak, h.aj, fun g1 g2 => (h.ab g2 g1).elim (fun g => Or.inr ⟨g.2, g.1⟩) (fun g => Or.inl ⟨g.2, g.1⟩)⟩
structure TwoOk (N : Nat) (c : CfgV) (p : List E6) (text : ByteArray) (s : Nat) (T : Nat → List EnV) (A : Nat → AnsV) : Prop where
 good : (E1 text).2.2 = 0
 cl : A1s (E1 text).1 (E1 text).2.1 = false
 sd : T2 (l7 (E1 text).1) c.sh = s
 sN : s < N
 tT : ∀ n, T (n + 1) = (K9 (T n) p (l7 (E1 text).1) false 0 c.idle).1
 tA : ∀ n, A n = (K9 (T n) p (l7 (E1 text).1) false 0 c.idle).2.1
theorem Two.stage {N : Nat} {c : CfgV} {p : List E6} {text : ByteArray} {s : Nat} {T : Nat → List EnV} {A : Nat → AnsV} {a b : Int} {j k : JW} {x : WS} (h : Two N c p text s T A a b j k x) (ht : TwoOk N c p text s T A) (hab : a ≠ b) (q : Nat) (hq : q < 10) (hs : j.st = (q : Nat)) (hr : j.ready x = true) :
  Two N c p text s T A a b (D0 q { j with st := j.st + 1 } x).1 k (D0 q { j with st := j.st + 1 } x).2.1 ∧ (D0 q { j with st := j.st + 1 } x).1.st = j.st + 1 := by
 have hw := h.oj.who
 subst hw
 have htx := h.oj.txt
 subst htx
 have hc := h.w.cc
 subst hc
 have hw : j.who = j.who := rfl
 have htx : j.text = j.text := rfl
 have hc : x.c = x.c := rfl
 have hg := h.gj.stage q hq hs
 have hcase : q = 0 ∨ q = 1 ∨ q = 2 ∨ q = 3 ∨ q = 4 ∨ q = 5 ∨ q = 6 ∨ q = 7 ∨ q = 8 ∨ q = 9 := by omega
 have hn := h.gj.n
 have hpin := h.oj.pin
 have ha0 := h.oj.a0
 have hb0 := h.ok.a0
 have hwk := h.gj.ok.wk
 have hcl := h.gj.ok.cells
 have how := h.gj.ow
 have hep := h.gj.ep
 have hjep := h.gj.jep
 have htl := h.gj.tl
 have hsN := ht.sN
 have hex := h.excl
 have hpr : 2 ≤ G0 x.c j.who ∧ G0 x.c j.who < x.cells.length := by unfold G0 at hpin ⊢; split at hpin <;> split <;> omega
 have c0 : ¬ (8 : Int) ≤ j.st → dn j = 0 := fun g => if_neg g
 rcases hcase with rfl | rfl | rfl | rfl | rfl | rfl | rfl | rfl | rfl | rfl
 ·have ncj : ¬ F7 j := by unfold F7; omega
  have hdj := c0 (by omega)
  rw [show D0 0 { j with st := j.st + 1 } x = jw0 { j with st := j.st + 1 } x from rfl] at hg ⊢
  unfold jw0 at hg ⊢
  simp only at hg ⊢
  rw [if_neg (by omega), if_neg (by simp [ht.good])] at hg ⊢
  have ncj' : ∀ j' : JW, j'.st = j.st + 1 → ¬ F7 j' := fun j' e => by unfold F7; omega
  have hdj' : ∀ j' : JW, j'.st = j.st + 1 → dn j' = 0 := fun j' e => if_neg (by omega)
  refine ⟨?_, rfl⟩
  obtain ⟨j', hj'⟩ : ∃ j', j' = ({ ({ j with st := j.st + 1 } : JW).rd x.c.sh with ep := D2 x.cells 0 } : JW) := ⟨_, rfl⟩
  rw [← hj'] at hg ⊢
  have e1 : j'.st = j.st + 1 := by rw [hj']; rfl
  have hg : GI N 0 j' x := hg
  show Two N x.c p j.text s T A j.who b j' k x
  refine { gj := hg, gk := h.gk, w := h.w, oj := ⟨by rw [hj']; exact hw, by rw [hj']; exact htx, hpin, ha0, fun _ => by rw [hj']; exact ⟨rfl, by simp only [JW.rd]; rw [ht.sd], ht.cl⟩, fun g => by omega⟩, ok := h.ok, own1 := fun g => absurd g (ncj' _ e1), own2 := h.own2, own3 := fun _ g2 => h.own3 ncj g2, excl := fun g => absurd g (ncj' _ e1), tab := by rw [hdj' _ e1, ← hdj]; exact h.tab, lj := fun g => by omega, lk := h.lk, dj := fun g => by omega, dk := fun g => by rw [hdj' _ e1, ← hdj]; exact h.dk g, aj := fun g => by omega, ak := fun g _ => h.ak g (by omega), ab := fun g => by omega }
 ·have ncj : ¬ F7 j := by unfold F7; omega
  have hdj := c0 (by omega)
  have ncj' : ¬ F7 { j with st := j.st + 1 } := by unfold F7; simp only; omega
  have hdj' : dn { j with st := j.st + 1 } = 0 := if_neg (by simp only; omega)
  have e1 : D2 (H5 x.cells (G0 x.c j.who) (IntKind.i64.wrap (j.ep + 1))) 1 = D2 x.cells 1 := f8 _ _ _ _ _ (Or.inr rfl)
  rw [show D0 1 { j with st := j.st + 1 } x = ({ j with st := j.st + 1 }, { x with cells := H5 x.cells (G0 x.c j.who) (IntKind.i64.wrap (j.ep + 1)) }, x9) from rfl] at hg ⊢
  refine ⟨?_, rfl⟩
  exact { gj := hg, gk := h.gk.mix hg rfl, w := ⟨hc, by simp only; rw [e1]; exact h.w.cur, h.w.now, h.w.sl, h.w.oth⟩, oj := ⟨hw, htx, hpin, ha0, fun _ => h.oj.rd (by omega), fun (g : 5 ≤ j.st + 1) => by omega⟩, ok := h.ok, own1 := fun g => absurd g ncj', own2 := h.own2, own3 := fun _ g2 => h.own3 ncj g2, excl := fun g => absurd g ncj', tab := by rw [hdj', ← hdj]; exact h.tab, lj := fun (g : j.st + 1 = 6) => by omega, lk := h.lk, dj := fun (g : j.st + 1 = 7) => by omega, dk := fun g => by rw [hdj', ← hdj]; exact h.dk g, aj := fun (g : 8 ≤ j.st + 1) => by omega, ak := fun g _ => h.ak g (by omega), ab := fun (g : 8 ≤ j.st + 1) => by omega }
 ·have ncj : ¬ F7 j := by unfold F7; omega
  have hdj := c0 (by omega)
  have ncj' : ¬ F7 { j with st := j.st + 1 } := by unfold F7; simp only; omega
  have hdj' : dn { j with st := j.st + 1 } = 0 := if_neg (by simp only; omega)
  rw [show D0 2 { j with st := j.st + 1 } x = jw2 { j with st := j.st + 1 } x from rfl] at hg ⊢
  unfold jw2 at hg ⊢
  rw [if_pos (show D2 x.cells 0 = j.ep by omega)] at hg ⊢
  refine ⟨?_, rfl⟩
  exact { gj := hg, gk := h.gk, w := h.w, oj := ⟨hw, htx, hpin, ha0, fun _ => h.oj.rd (by omega), fun (g : 5 ≤ j.st + 1) => by omega⟩, ok := h.ok, own1 := fun g => absurd g ncj', own2 := h.own2, own3 := fun _ g2 => h.own3 ncj g2, excl := fun g => absurd g ncj', tab := by rw [hdj', ← hdj]; exact h.tab, lj := fun (g : j.st + 1 = 6) => by omega, lk := h.lk, dj := fun (g : j.st + 1 = 7) => by omega, dk := fun g => by rw [hdj', ← hdj]; exact h.dk g, aj := fun (g : 8 ≤ j.st + 1) => by omega, ak := fun g _ => h.ak g (by omega), ab := fun (g : 8 ≤ j.st + 1) => by omega }
 ·have ncj : ¬ F7 j := by unfold F7; omega
  have hdj := c0 (by omega)
  have cj' : F7 { j with st := j.st + 1 } := by unfold F7; simp only; omega
  have hdj' : dn { j with st := j.st + 1 } = 0 := if_neg (by simp only; omega)
  have hsh := (h.oj.rd (by omega)).2.1
  have hf : x.own.getD s 0 < 0 := by
   unfold JW.ready at hr
   rw [hs, hsh, B20 (by omega)] at hr
   simpa using hr
  have nck : ¬ F7 k := fun g => by have := h.own2 g; omega
  have hf := h.own3 ncj nck
  have hlo : W7 x.own j.shard j.who = x.own.set s j.who := by
   unfold W7; rw [if_pos (by omega), hsh, A3b (by omega), if_pos hf]
  rw [show D0 3 { j with st := j.st + 1 } x = ({ j with st := j.st + 1 }, { x with own := W7 x.own j.shard j.who }, x9) from rfl, hlo] at hg ⊢
  refine ⟨?_, rfl⟩
  exact { gj := hg, gk := h.gk.mix hg rfl, w := ⟨hc, h.w.cur, h.w.now, h.w.sl, h.w.oth⟩, oj := ⟨hw, htx, hpin, ha0, fun _ => h.oj.rd (by omega), fun (g : 5 ≤ j.st + 1) => by omega⟩, ok := h.ok, own1 := fun _ => by simp only; rw [j7 (by omega), if_pos rfl], own2 := fun g => absurd g nck, own3 := fun g => absurd cj' g, excl := fun _ => nck, tab := by rw [hdj', ← hdj]; exact h.tab, lj := fun (g : j.st + 1 = 6) => by omega, lk := h.lk, dj := fun (g : j.st + 1 = 7) => by omega, dk := fun g => by rw [hdj', ← hdj]; exact h.dk g, aj := fun (g : 8 ≤ j.st + 1) => by omega, ak := fun g _ => h.ak g (by omega), ab := fun (g : 8 ≤ j.st + 1) => by omega }
 ·have cj : F7 j := by unfold F7; omega
  have hdj := c0 (by omega)
  have nck := hex cj
  have hz : IntKind.i64.wrap (D2 x.cells 1 - 1) = 0 := by rw [h.w.cur]; rfl
  rw [show D0 4 { j with st := j.st + 1 } x = ({ j with st := j.st + 1, slot := IntKind.i64.wrap (D2 x.cells 1 - 1), now := x.now }, x, true, false, false) from rfl, hz, h.w.now] at hg ⊢
  refine ⟨?_, rfl⟩
  have hdj' : ∀ (sl nw : Int), dn { j with st := j.st + 1, slot := sl, now := nw } = 0 := fun _ _ => if_neg (by simp only; omega)
  exact { gj := hg, gk := h.gk, w := h.w, oj := ⟨hw, htx, hpin, ha0, fun _ => h.oj.rd (by omega), fun _ => ⟨rfl, rfl⟩⟩, ok := h.ok, own1 := fun _ => h.own1 cj, own2 := fun g => absurd g nck, own3 := fun g => absurd (show F7 _ from ⟨show 4 ≤ j.st + 1 by omega, show j.st + 1 ≤ 8 by omega⟩) g, excl := fun _ => nck, tab := by rw [hdj', ← hdj]; exact h.tab, lj := fun (g : j.st + 1 = 6) => by omega, lk := h.lk, dj := fun (g : j.st + 1 = 7) => by omega, dk := fun g => by rw [hdj', ← hdj]; exact h.dk g, aj := fun (g : 8 ≤ j.st + 1) => by omega, ak := fun g _ => h.ak g (by omega), ab := fun (g : 8 ≤ j.st + 1) => by omega }
 ·have cj : F7 j := by unfold F7; omega
  have hdj := c0 (by omega)
  have nck := hex cj
  have hsh := (h.oj.rd (by omega)).2.1
  have e5 : x.tabs.getD j.shard.toNat [] = x.tabs.getD s [] := by rw [hsh, Int.toNat_natCast]
  rw [show D0 5 { j with st := j.st + 1 } x = ({ j with st := j.st + 1, table := x.tabs.getD j.shard.toNat [] }, x, x9) from rfl, e5] at hg ⊢
  refine ⟨?_, rfl⟩
  have hdj' : ∀ t, dn { j with st := j.st + 1, table := t } = 0 := fun _ => if_neg (by simp only; omega)
  exact { gj := hg, gk := h.gk, w := h.w, oj := ⟨hw, htx, hpin, ha0, fun _ => h.oj.rd (by omega), fun _ => h.oj.sl (by omega)⟩, ok := h.ok, own1 := fun _ => h.own1 cj, own2 := fun g => absurd g nck, own3 := fun g => absurd (show F7 _ from ⟨show 4 ≤ j.st + 1 by omega, show j.st + 1 ≤ 8 by omega⟩) g, excl := fun _ => nck, tab := by rw [hdj', ← hdj]; exact h.tab, lj := fun _ => rfl, lk := h.lk, dj := fun (g : j.st + 1 = 7) => by omega, dk := fun g => by rw [hdj', ← hdj]; exact h.dk g, aj := fun (g : 8 ≤ j.st + 1) => by omega, ak := fun g _ => h.ak g (by omega), ab := fun (g : 8 ≤ j.st + 1) => by omega }
 ·have cj : F7 j := by unfold F7; omega
  have hdj := c0 (by omega)
  have nck := hex cj
  obtain ⟨r1, r2, r3⟩ := h.oj.rd (by omega)
  obtain ⟨s1, s2⟩ := h.oj.sl (by omega)
  have hl := h.lj (by omega)
  have htab := h.tab
  rw [hdj, Nat.zero_add] at htab
  have hpo : K6 x 0 = p := by unfold K6; rw [h.w.sl]
  have e : K9 j.table (K6 x j.slot) j.key j.closing j.now x.c.idle = K9 (T (dn k)) p (l7 (E1 j.text).1) false 0 x.c.idle := by rw [hl, htab, s1, hpo, r1, r3, s2]
  rw [show D0 6 { j with st := j.st + 1 } x = ({ j with st := j.st + 1, table := (K9 j.table (K6 x j.slot) j.key j.closing j.now x.c.idle).1, ans := (K9 j.table (K6 x j.slot) j.key j.closing j.now x.c.idle).2.1 }, x, false, false, decide (0 ≤ j.slot) && !B6J x j.slot) from rfl, e, ← ht.tT, ← ht.tA] at hg ⊢
  refine ⟨?_, rfl⟩
  have hdj' : ∀ t u, dn { j with st := j.st + 1, table := t, ans := u } = 0 := fun _ _ => if_neg (by simp only; omega)
  exact { gj := hg, gk := h.gk, w := h.w, oj := ⟨hw, htx, hpin, ha0, fun _ => h.oj.rd (by omega), fun _ => h.oj.sl (by omega)⟩, ok := h.ok, own1 := fun _ => h.own1 cj, own2 := fun g => absurd g nck, own3 := fun g => absurd (show F7 _ from ⟨show 4 ≤ j.st + 1 by omega, show j.st + 1 ≤ 8 by omega⟩) g, excl := fun _ => nck, tab := by rw [hdj', ← hdj]; exact h.tab, lj := fun (g : j.st + 1 = 6) => by omega, lk := h.lk, dj := fun _ => ⟨rfl, rfl⟩, dk := fun g => by rw [hdj', ← hdj]; exact h.dk g, aj := fun (g : 8 ≤ j.st + 1) => by omega, ak := fun g _ => h.ak g (by omega), ab := fun (g : 8 ≤ j.st + 1) => by omega }
 ·have cj : F7 j := by unfold F7; omega
  have hdj := c0 (by omega)
  have nck := hex cj
  obtain ⟨r1, r2, r3⟩ := h.oj.rd (by omega)
  obtain ⟨d1, d2⟩ := h.dj (by omega)
  have e7 : x.tabs.set j.shard.toNat j.table = x.tabs.set s j.table := by rw [r2, Int.toNat_natCast]
  rw [show D0 7 { j with st := j.st + 1 } x = ({ j with st := j.st + 1 }, { x with tabs := x.tabs.set j.shard.toNat j.table }, x9) from rfl, e7] at hg ⊢
  refine ⟨?_, rfl⟩
  have hdj' : dn { j with st := j.st + 1 } = 1 := if_pos (by simp only; omega)
  have g1 : (x.tabs.set s j.table).getD s [] = j.table := by rw [List.getD_eq_getElem?_getD, List.getElem?_set, if_pos rfl, if_pos (by omega)]; rfl
  have g2 : ∀ i, i ≠ s → (x.tabs.set s j.table).getD i [] = x.tabs.getD i [] := fun i hi => by rw [List.getD_eq_getElem?_getD, List.getElem?_set, if_neg (by omega), ← List.getD_eq_getElem?_getD]
  have nk : k.st < 8 → dn k = 0 := fun g => if_neg (by omega)
  have yk : 8 ≤ k.st → dn k = 1 := fun g => if_pos g
  have ak := h.ak
  exact { gj := hg, gk := h.gk.mix hg rfl, w := ⟨hc, h.w.cur, h.w.now, h.w.sl, fun i hi hne => by simp only; rw [g2 i hne]; exact h.w.oth i hi hne⟩, oj := ⟨hw, htx, hpin, ha0, fun _ => h.oj.rd (by omega), fun _ => h.oj.sl (by omega)⟩, ok := h.ok, own1 := fun _ => h.own1 cj, own2 := fun g => absurd g nck, own3 := fun g => absurd (show F7 _ from ⟨show 4 ≤ j.st + 1 by omega, show j.st + 1 ≤ 8 by omega⟩) g, excl := fun _ => nck, tab := by simp only; rw [g1, hdj', d1, Nat.add_comm], lj := fun (g : j.st + 1 = 6) => by omega, lk := fun g => absurd (show F7 k by unfold F7; omega) nck, dj := fun (g : j.st + 1 = 7) => by omega, dk := fun g => absurd (show F7 k by unfold F7; omega) nck, aj := fun _ g => by simp only; rw [d2, nk g], ak := fun _ (g : j.st + 1 < 8) => by omega, ab := fun _ g => Or.inr ⟨by simp only; rw [d2, yk g], ak g (by omega)⟩ }
 ·have cj : F7 j := by unfold F7; omega
  have hdj : dn j = 1 := if_pos (by omega)
  have nck := hex cj
  have hsh := (h.oj.rd (by omega)).2.1
  have hf := h.own1 cj
  have hlo : N4 x.own j.shard j.who = x.own.set s (-1) := by
   unfold N4; rw [if_pos (by omega), hsh, A3b (by omega), if_pos hf]
  rw [show D0 8 { j with st := j.st + 1 } x = ({ j with st := j.st + 1 }, { x with own := N4 x.own j.shard j.who }, x9) from rfl, hlo] at hg ⊢
  refine ⟨?_, rfl⟩
  have hdj' : dn { j with st := j.st + 1 } = 1 := if_pos (by simp only; omega)
  have ncj' : ¬ F7 { j with st := j.st + 1 } := by unfold F7; simp only; omega
  exact { gj := hg, gk := h.gk.mix hg rfl, w := ⟨hc, h.w.cur, h.w.now, h.w.sl, h.w.oth⟩, oj := ⟨hw, htx, hpin, ha0, fun _ => h.oj.rd (by omega), fun _ => h.oj.sl (by omega)⟩, ok := h.ok, own1 := fun g => absurd g ncj', own2 := fun g => absurd g nck, own3 := fun _ _ => by simp only; rw [j7 (by omega), if_pos rfl], excl := fun g => absurd g ncj', tab := by rw [hdj', ← hdj]; exact h.tab, lj := fun (g : j.st + 1 = 6) => by omega, lk := h.lk, dj := fun (g : j.st + 1 = 7) => by omega, dk := fun g => absurd (show F7 k by unfold F7; omega) nck, aj := fun _ g => h.aj (by omega) g, ak := fun _ (g : j.st + 1 < 8) => by omega, ab := fun _ g => h.ab (by omega) g }
 ·have ncj : ¬ F7 j := by unfold F7; omega
  have hdj : dn j = 1 := if_pos (by omega)
  have e1 : D2 (H5 x.cells (G0 x.c j.who) 0) 1 = D2 x.cells 1 := f8 _ _ _ _ _ (Or.inr rfl)
  rw [show D0 9 { j with st := j.st + 1 } x = ({ j with st := j.st + 1 }, { x with cells := H5 x.cells (G0 x.c j.who) 0 }, false, true, false) from rfl] at hg ⊢
  refine ⟨?_, rfl⟩
  have hdj' : dn { j with st := j.st + 1 } = 1 := if_pos (by simp only; omega)
  have ncj' : ¬ F7 { j with st := j.st + 1 } := by unfold F7; simp only; omega
  exact { gj := hg, gk := h.gk.mix hg rfl, w := ⟨hc, by simp only; rw [e1]; exact h.w.cur, h.w.now, h.w.sl, h.w.oth⟩, oj := ⟨hw, htx, hpin, ha0, fun _ => h.oj.rd (by omega), fun _ => h.oj.sl (by omega)⟩, ok := h.ok, own1 := fun g => absurd g ncj', own2 := h.own2, own3 := fun _ g => h.own3 ncj g, excl := fun g => absurd g ncj', tab := by rw [hdj', ← hdj]; exact h.tab, lj := fun (g : j.st + 1 = 6) => by omega, lk := h.lk, dj := fun (g : j.st + 1 = 7) => by omega, dk := fun g => by have := h.dk g; rw [hdj] at this; rw [hdj']; exact this, aj := fun _ g => h.aj (by omega) g, ak := fun _ (g : j.st + 1 < 8) => by omega, ab := fun _ g => h.ab (by omega) g }
theorem Two.step {N : Nat} {c : CfgV} {p : List E6} {text : ByteArray} {s : Nat} {T : Nat → List EnV} {A : Nat → AnsV} {a b : Int} {j k : JW} {x : WS} (h : Two N c p text s T A a b j k x) (ht : TwoOk N c p text s T A) (hab : a ≠ b) :
  Two N c p text s T A a b (j.step x).1 k (j.step x).2.1 ∧ ((j.step x).1.st = j.st + 1 ∧ j.st < 10 ∧ ¬ (j.st = 3 ∧ F7 k) ∨ (j.step x).1.st = j.st ∧ (j.st = 10 ∨ j.st = 3 ∧ F7 k)) := by
 cases hr : j.ready x with
 | false =>
  rw [A6G hr]
  refine ⟨h, Or.inr ⟨rfl, ?_⟩⟩
  have hs := h.gj.st
  by_cases c1 : j.st = 10
  ·exact Or.inl c1
  have c2 : j.st = 3 := by
   unfold JW.ready at hr
   rw [decide_eq_true (by omega), Bool.true_and, Bool.or_eq_false_iff] at hr
   simpa using hr.1
  refine Or.inr ⟨c2, ?_⟩
  have hsh := (h.oj.rd (by omega)).2.1
  have how := h.gj.ow
  have hsN := ht.sN
  have ncj : ¬ F7 j := by unfold F7; omega
  have hno : ¬ x.own.getD s 0 < 0 := by
   unfold JW.ready at hr
   rw [c2, hsh, B20 (by omega)] at hr
   simpa using hr
  exact Classical.byContradiction fun g => by
   have := h.own3 ncj g
   omega
 | true =>
  have hs := h.gj.st
  have hl := A73 hr
  rw [A0J hr]
  obtain ⟨h1, h2⟩ := h.stage ht hab j.st.toNat (by omega) (by omega) hr
  refine ⟨h1, Or.inl ⟨h2, hl, fun g => ?_⟩⟩
  have hsh := (h.oj.rd (by omega)).2.1
  have how := h.gj.ow
  have hsN := ht.sN
  have e1 := h.own2 g.2
  have e2 := h.ok.a0
  unfold JW.ready at hr
  rw [g.1, hsh, B20 (by omega)] at hr
  have : x.own.getD s 0 < 0 := by simpa using hr
  omega
theorem C5g {a : ActV} {x : WS} {y : XS} (h : a.k ≠ 1) : D2 (P8 a x y).cells 0 = D2 x.cells 0 := by
 unfold P8
 rw [if_neg h]
 by_cases k2 : a.k = 2
 ·rw [if_pos k2]; split <;> rfl
 rw [if_neg k2]
 by_cases k3 : a.k = 3
 ·rw [if_pos k3]; split <;> rfl
 rw [if_neg k3]
 by_cases k4 : a.k = 4
 ·rw [if_pos k4]
 rw [if_neg k4]
 by_cases k5 : a.k = 5
 ·rw [if_pos k5]
 rw [if_neg k5]
 by_cases k6 : a.k = 6
 ·rw [if_pos k6]
  split
  ·exact m0 _ _ (by omega)
  ·rfl
 rw [if_neg k6]
 by_cases k7 : a.k = 7
 ·rw [if_pos k7]
 rw [if_neg k7]
theorem GI.hap0 {N E : Nat} {j : JW} {x : WS} (h : GI N E j x) (hE : E ≤ 1000) (a : ActV) (ha : a.k ≠ 1) (y : XS) (hc : y.c = x.c) (hcs : x.c.sl ≤ 8) : GI N E j (P8 a x y) :=
 { h.hap hE a y hc hcs with ep := by rw [C5g ha]; exact h.ep, jep := h.jep }
theorem B4e {α β : Type} (f : α → List β) : ∀ (L : List α) (s : Nat) (t : α), L[s]? = some t → (∀ i u, L[i]? = some u → i ≠ s → f u = []) → L.flatMap f = f t
 | [], s, t, h, _ => by simp at h
 | u :: L, 0, t, h, ho => by
  simp at h; subst h
  rw [List.flatMap_cons]
  have : L.flatMap f = [] := by
   rw [List.flatMap_eq_nil_iff]
   intro v hv
   obtain ⟨i, hi, e⟩ := List.getElem_of_mem hv
   exact ho (i + 1) v (by rw [List.getElem?_cons_succ, List.getElem?_eq_getElem hi, e]) (by omega)
  rw [this, List.append_nil]
 | u :: L, s + 1, t, h, ho => by
  rw [List.flatMap_cons, ho 0 u rfl (by omega), List.nil_append]
  exact B4e f L s t (by simpa using h) fun i v hv hi => ho (i + 1) v (by simpa using hv) (by omega)
theorem Two.live {N : Nat} {c : CfgV} {p : List E6} {text : ByteArray} {s : Nat} {T : Nat → List EnV} {A : Nat → AnsV} {a b : Int} {j k : JW} {x : WS} (h : Two N c p text s T A a b j k x) (ht : TwoOk N c p text s T A) (h1 : 8 ≤ j.st) (h2 : 8 ≤ k.st) (hT : (C9 (T 2)).length = 1) :
  (x.tabs.flatMap M8).length = 1 := by
 have htl := h.gj.tl
 have hsN := ht.sN
 have e : x.tabs[s]? = some (T 2) := by
  have := h.tab
  rw [show dn j = 1 from if_pos h1, show dn k = 1 from if_pos h2, List.getD_eq_getElem?_getD, List.getElem?_eq_getElem (by omega)] at this
  rw [List.getElem?_eq_getElem (by omega)]
  exact congrArg some this
 rw [B4e M8 x.tabs s (T 2) e fun i u hu hi => ?_, A8S, List.length_map, hT]
 have hi2 : i < x.tabs.length := by
  by_cases g : i < x.tabs.length
  ·exact g
  ·rw [List.getElem?_eq_none (by omega)] at hu; cases hu
 have := h.w.oth i (by omega) hi
 rw [List.getD_eq_getElem?_getD, hu] at this
 rw [show u = newE c.cp.toNat from this, A8S, V5]; rfl
def B1y (n : Nat) (j k : JW) : Prop := j.st = 10 ∨ (j.st = 3 ∧ F7 k) ∨ (n : Int) ≤ j.st
theorem B1y.step {n : Nat} {j j' k : JW} (h : B1y n j k) (hj : j'.st = j.st + 1 ∧ j.st < 10 ∧ ¬ (j.st = 3 ∧ F7 k) ∨ j'.st = j.st ∧ (j.st = 10 ∨ j.st = 3 ∧ F7 k)) : B1y (n + 1) j' k := by
 unfold B1y at *
 rcases hj with ⟨h1, h2, h3⟩ | ⟨h1, h2⟩
 ·rcases h with h | h | h
  ·omega
  ·exact absurd h h3
  ·exact Or.inr (Or.inr (by omega))
 ·rcases h2 with h2 | h2
  ·exact Or.inl (by omega)
  ·exact Or.inr (Or.inl ⟨by omega, h2.2⟩)
def twX (c : CfgV) (p : List E6) : WS := { H6 c with sl := s8 (l5 (H6 c).sl 0 .bld) 0 p, cells := H5 (H6 c).cells 1 (0 + 1) }
theorem C2K {l : List SlV} (h : 0 < l.length) (v : SlV) : H4 (l5 l 0 v) 0 = v := by
 unfold H4 l5
 rw [if_pos (show (0 : Int) ≤ 0 ∧ (0 : Int) < l.length by omega), if_pos (by rw [List.length_set]; omega), List.getD_eq_getElem?_getD, List.getElem?_set, if_pos rfl, if_pos (by simpa using h)]; rfl
theorem C0P {x : WS} {y : XS} (p : List E6) (pa : Option Addr) (pc : Nat) : P8 ⟨4, 0, p, pa, pc⟩ x y = { x with sl := s8 (l5 x.sl 0 .bld) 0 p } := rfl
theorem C4u {x : WS} {y : XS} (h : 0 < y.c.sl) : P8 ⟨6, 0, [], none, 0⟩ x y = { x with cells := H5 x.cells 1 (0 + 1) } := by
 have h2 : -1 ≤ (0 : Int) ∧ (0 : Int) < y.c.sl := ⟨by omega, h⟩
 show (if -1 ≤ (0 : Int) ∧ (0 : Int) < y.c.sl then { x with cells := H5 x.cells 1 (0 + 1) } else x) = _
 rw [if_pos h2]
theorem C24 {c : CfgV} (hok : M7 c = true) {p : List E6} (hp : K4 p = 0) {text : ByteArray} (htx : text.size ≤ 100) (h2 : 2 ≤ c.wk) {s : Nat} {T : Nat → List EnV} {A : Nat → AnsV} (ht : TwoOk c.sh.toNat c p text s T A) (h0 : T 0 = newE c.cp.toNat) :
  Two c.sh.toNat c p text s T A 1 2 (D9 1 text) (D9 2 text) (twX c p) := by
 have hok2 := hok
 simp only [M7, W0, Bool.and_eq_true, decide_eq_true_eq] at hok2
 have g1 : ∀ who, GI c.sh.toNat 0 (D9 who text) (twX c p) := fun who => by
  obtain ⟨y, hy⟩ : ∃ y : XS, y.c = c := ⟨⟨c, 0, 0, [], [], [], [], [], [], 0⟩, rfl⟩
  have h1 := (GI.new hok who text htx).hap0 (by omega) ⟨4, 0, p, none, 0⟩ (show (4 : Int) ≠ 1 by omega) y hy (by show c.sl ≤ 8; omega)
  have h2 := h1.hap0 (by omega) ⟨6, 0, [], none, 0⟩ (show (6 : Int) ≠ 1 by omega) y (by rw [C0P]; exact hy) (by show c.sl ≤ 8; omega)
  rw [C4u (by rw [hy]; omega), C0P] at h2
  exact h2
 have hsN := ht.sN
 have hcl : (H6 c).cells.length = 2 + c.wk.toNat := by simp [H6]
 have hsl : (H6 c).sl.length = c.sl.toNat := by simp [H6]
 have htab : ∀ i, i < c.sh.toNat → (twX c p).tabs.getD i [] = newE c.cp.toNat := fun i hi => by
  show (List.replicate c.sh.toNat (newE c.cp.toNat)).getD i [] = _
  rw [List.getD_eq_getElem?_getD, List.getElem?_replicate_of_lt hi]; rfl
 have hown : (twX c p).own.getD s 0 = -1 := by
  show (List.replicate c.sh.toNat (-1 : Int)).getD s 0 = -1
  rw [List.getD_eq_getElem?_getD, List.getElem?_replicate_of_lt hsN]; rfl
 have hc0 : ∀ who, ¬ F7 (D9 who text) := fun who => by unfold F7 D9; simp
 have hd0 : ∀ who, dn (D9 who text) = 0 := fun who => rfl
 have hpin : ∀ who, 1 ≤ who → who ≤ 2 → 0 ≤ G0 c who := fun who h1 h2 => by unfold G0; rw [if_neg (by omega)]; omega
 refine { gj := g1 1, gk := g1 2, w := ⟨rfl, ?_, rfl, ?_, fun i hi _ => htab i hi⟩, oj := ⟨rfl, rfl, hpin 1 (by omega) (by omega), by omega, fun h => by simp [D9] at h, fun h => by simp [D9] at h⟩, ok := ⟨rfl, rfl, hpin 2 (by omega) (by omega), by omega, fun h => by simp [D9] at h, fun h => by simp [D9] at h⟩, own1 := fun h => absurd h (hc0 1), own2 := fun h => absurd h (hc0 2), own3 := fun _ _ => hown, excl := fun h => absurd h (hc0 1), tab := by rw [hd0, hd0, htab s hsN, h0], lj := fun h => by simp [D9] at h, lk := fun h => by simp [D9] at h, dj := fun h => by simp [D9] at h, dk := fun h => by simp [D9] at h, aj := fun h => by simp [D9] at h, ak := fun h => by simp [D9] at h, ab := fun h => by simp [D9] at h }
 ·show D2 (H5 (H6 c).cells 1 (0 + 1)) 1 = 1
  rw [A11, if_pos (by omega)]; rfl
 ·show H4 (s8 (l5 (H6 c).sl 0 .bld) 0 p) 0 = .rdy p
  unfold s8
  rw [C2K (by omega)]
  simp only
  rw [if_pos hp]
  exact C2K (by rw [A3j]; omega) _
end Go.Proofs.YtjobgnabneddjaaGreat
namespace Go.Proofs.YtjobgnabneddjaaGreat
open Go
def B9v (k : ByteArray) : List Value := [.string k]
def L4 (ts : N5) : List ByteArray := ts.flatMap fun t => M8 t.2
abbrev C07 (b : Nat) : Value := .func (.func 146) #[] #[.pointer (some ⟨b, 0, none⟩)]
def RqW (m : WoH) (F : List Res) (w : World) : Prop :=
 (w.cell? ⟨m.b, 8, none⟩ = some m.tv ∧ m.b ∉ B5 F) ∧ RqS m.tv m.ts.length (m.ts.map (·.1)) F w ∧ ∀ t ∈ m.ts, RqS t.1 t.2.length (t.2.flatMap H0) F w
theorem C3Q (l : List EnV) : (M8 l).length ≤ l.length := by
 unfold M8
 rw [List.length_map]
 have : ∀ (m : List EnV) (i : Nat), (Q4 i m).length ≤ m.length := by
  intro m
  induction m with
  | nil => intro i; simp [Q4]
  | cons x m ih => intro i; have := ih (i + 1); simp only [Q4]; split <;> simp <;> omega
 exact this l 0
theorem B6W {ts : N5} {i : Nat} {x : Value × List EnV} (hx : ts[i]? = some x) : L4 (ts.take (i + 1)) = L4 (ts.take i) ++ M8 x.2 := by
 unfold L4
 rw [List.take_add_one, hx, List.flatMap_append]
 simp
theorem C1b {ts : N5} {i n : Nat} {x : Value × List EnV} (hx : ts[i]? = some x) (hn : n < (M8 x.2).length) : (L4 ts)[(L4 (ts.take i)).length + n]? = some (M8 x.2)[n] := by
 have h : L4 ts = L4 (ts.take i) ++ (M8 x.2 ++ L4 (ts.drop (i + 1))) := by
  conv => lhs; rw [← List.take_append_drop (i + 1) ts]
  unfold L4
  rw [List.flatMap_append]
  have := B6W hx
  unfold L4 at this
  rw [this, List.append_assoc]
 rw [h, List.getElem?_append_right (by omega), Nat.add_sub_cancel_left, List.getElem?_append_left hn, List.getElem?_eq_getElem hn]
theorem C3B (b : Nat) (m : WoH) (hn : m.ts.length ≤ 1000) (hl : ∀ t ∈ m.ts, t.2.length ≤ 1000000) : A5A (C07 b) [.pt b (.cells #[.pointer (some ⟨m.b, 0, none⟩)] 26)] (RqW m) ((L4 m.ts).map B9v) := by
 refine ⟨_, _, _, rfl, fun y J E hJ hE stJ stE hy w0 h0 => ?_⟩
 obtain ⟨⟨hc8, hnb⟩, ⟨ta, tc, htv, _⟩, _⟩ := (hJ _ _ _ h0).2
 rw [htv] at hc8
 refine A51 (A5n (TW.at (κ := true) ?_ (hJ _ _ _ h0).1))
 unfold y8
 (have zz:=trivial;repeat((first|clear zz|with_reducible first|refine A3 ?_|refine A5 fun _=>?_|refine A4 fun _=>?_);try simp(disch:=first|omega|assumption|((repeat(first|exact A1|exact uH|apply A2|apply uT));first|done|fail)|(simp;first|done|omega|fail))[hc8]))
 refine A2z m.ts.length (fun i => (L4 (m.ts.take i)).length) (fun _ => _) hJ stJ (by simpa [L4] using h0) fun i a' hi hJi hRi L hL => ?_
 by_cases hlt : i < m.ts.length
 ·obtain ⟨_, ⟨ta2, tc2, htv2, hr⟩, hts⟩ := hRi
  obtain ⟨tb, to', hta, hrow, hnt⟩ := hr (by omega)
  rw [htv] at htv2
  cases htv2
  subst hta
  obtain ⟨x, hx⟩ : ∃ x, m.ts[i]? = some x := ⟨_, List.getElem?_eq_getElem hlt⟩
  have hxm := List.mem_of_getElem? hx
  have h1 := hrow.one (f := (·.1)) hx
  obtain ⟨xa, xc, hxv, hxr⟩ := hts x hxm
  have hlen : (L4 (m.ts.take (i + 1))).length = (L4 (m.ts.take i)).length + (M8 x.2).length := by rw [B6W hx, List.length_append]
  rw [hlen] at hL
  have hxl := hl x hxm
  have hkl := C3Q x.2
  have hRd : ∀ w', KS true (B5 [Res.pt b (.cells #[.pointer (some ⟨m.b, 0, none⟩)] 26)]) a' w' → G1 w' x.1 x.2.length (x.2.flatMap H0) := fun w' hk => by
   rw [hxv]
   by_cases h0 : 0 < x.2.length
   ·obtain ⟨q1, q2, rfl, q4, q5⟩ := hxr h0
    exact Or.inr ⟨q1, q2, xc, rfl, hk.row q5 q4⟩
   ·refine Or.inl ⟨by omega, ?_, xa, xc, by rw [show x.2.length = 0 by omega]⟩
    rw [List.length_eq_zero_iff.1 (show x.2.length = 0 by omega)]; rfl
  rw [hxv] at h1
  (have zz:=trivial;repeat((first|clear zz|with_reducible first|refine A3 ?_|refine A5 fun _=>?_|refine A4 fun _=>?_);try simp(disch:=first|omega|assumption|((repeat(first|exact A1|exact uH|apply A2|apply uT));first|done|fail)|(simp;first|done|omega|fail))[hlt, h1]))
  refine H2 B3z (fun w' hw' => by rw [← hxv]; exact C6E w' x.1 x.2 hxl (hRd w' hw'.ks)) ?_
  rintro _ r rfl
  refine T6 (e := 9) (k := 1) (v := r) (q := (M8 x.2).length) (xs := (M8 x.2).map Value.string) (by (repeat constructor)) fun ra rc hr => ?_
  subst hr
  (have zz:=trivial;repeat((first|clear zz|with_reducible first|refine A3 ?_|refine A5 fun _=>?_|refine A4 fun _=>?_);try simp(disch:=first|omega|assumption|((repeat(first|exact A1|exact uH|apply A2|apply uT));first|done|fail)|(simp;first|done|omega|fail))[]))
  refine A2z (M8 x.2).length (fun n => (L4 (m.ts.take i)).length + n) (fun _ => _) hJ stJ hJi fun n a2 hi2 hJn hRn L2 hL2 => ?_
  by_cases hlt2 : n < (M8 x.2).length
  ·have hg := C1b hx hlt2
   obtain ⟨hgi, hg'⟩ := List.getElem?_eq_some_iff.1 hg
   have hk : ((M8 x.2).map Value.string)[n]? = some (.string (M8 x.2)[n]) := by rw [List.getElem?_map, List.getElem?_eq_getElem hlt2]; rfl
   obtain ⟨kk, hkk⟩ : ∃ kk, kk = (M8 x.2)[n] := ⟨_, rfl⟩
   rw [← hkk] at hg' hk
   refine s9 (e := 9) (k := 1) (v := .slice ra (M8 x.2).length rc) (q := (M8 x.2).length) (xs := (M8 x.2).map Value.string) (by (repeat constructor)) (by omega) fun g gc hgg => ?_
   cases hgg
   have hkk2 := (List.getElem?_eq_some_iff.1 hk).2
   (have zz:=trivial;repeat((first|clear zz|with_reducible first|refine A3 ?_|refine A5 fun _=>?_|refine A4 fun _=>?_);try simp(disch:=first|omega|assumption|((repeat(first|exact A1|exact uH|apply A2|apply uT));first|done|fail)|(simp;first|done|omega|fail))[hlt2, hk, hkk2]))
   refine A7b hJ hE stJ hy hJn (by simpa using hgi) (by rw [List.getElem_map, hg']; rfl) (fun w3 h => ?_) (fun w3 h => ?_)
   ·(have zz:=trivial;repeat((first|clear zz|with_reducible first|refine A3 ?_|refine A5 fun _=>?_|refine A4 fun _=>?_);try simp(disch:=first|omega|assumption|((repeat(first|exact A1|exact uH|apply A2|apply uT));first|done|fail)|(simp;first|done|omega|fail))[]))
    exact fun w' hw' => hL2 hlt2 w' (stJ _ _ _ _ _ h hw')
   ·(have zz:=trivial;repeat((first|clear zz|with_reducible first|refine A3 ?_|refine A5 fun _=>?_|refine A4 fun _=>?_);try simp(disch:=first|omega|assumption|((repeat(first|exact A1|exact uH|apply A2|apply uT));first|done|fail)|(simp;first|done|omega|fail))[]))
    exact A4K stE h
  ·obtain rfl : n = (M8 x.2).length := by omega
   (have zz:=trivial;repeat((first|clear zz|with_reducible first|refine A3 ?_|refine A5 fun _=>?_|refine A4 fun _=>?_);try simp(disch:=first|omega|assumption|((repeat(first|exact A1|exact uH|apply A2|apply uT));first|done|fail)|(simp;first|done|omega|fail))[]))
   exact fun w' hw' => hL hlt w' (stJ _ _ _ _ _ hJn (hw'.sub (by simp)))
 ·obtain rfl : i = m.ts.length := by omega
  rw [List.take_length] at hJi
  (have zz:=trivial;repeat((first|clear zz|with_reducible first|refine A3 ?_|refine A5 fun _=>?_|refine A4 fun _=>?_);try simp(disch:=first|omega|assumption|((repeat(first|exact A1|exact uH|apply A2|apply uT));first|done|fail)|(simp;first|done|omega|fail))[]))
  exact A4B stJ (by simpa using hJi)
theorem C1j (l : List ByteArray) : ∀ x ∈ l.map B9v, x.length = 1 := by
 intro x hx
 obtain ⟨k, _, rfl⟩ := List.mem_map.1 hx
 rfl
theorem B8r (w : World) (m : WoH) (hn : m.ts.length ≤ 1000) (hl : ∀ t ∈ m.ts, t.2.length ≤ 1000000) (hk : (L4 m.ts).length ≤ 1000000) (hm : WoAt w m) (htv : G1 w m.tv m.ts.length (m.ts.map (·.1))) (hts : ∀ t ∈ m.ts, G1 w t.1 t.2.length (t.2.flatMap H0)) :
  Fn PR B8 24 #[.pointer (some ⟨m.b, 0, none⟩)] w (Rn [] w (fun r u => u = r) fun r => [.own 9 1 r (L4 m.ts).length ((L4 m.ts).map Value.string)]) := by
 refine A8p (TW.go (κ := false) (S := []) ?_)
 unfold A1g
 have hRq : ∀ {A F : List Res} {w1 : World}, LW false [] w (A ++ F) w1 → RqW m F w1 := fun hw => by
  have h8 : w.cell? ⟨m.b, 8, none⟩ = some m.tv := by rw [E5 hm.b]; rfl
  have hb := hw.ks.2.1 _ _ (by simp) rfl hm.b
  refine ⟨⟨by rw [E5 hb]; rfl, hw.notin_old (H7 hm.b) (by simp)⟩, RqS.of htv (fun h => by rw [List.length_map]; exact h) hw, fun t ht => RqS.of (hts t ht) (fun h => by rw [A0n]; omega) hw⟩
 (have zz:=trivial;repeat((first|clear zz|with_reducible first|refine A3 ?_|refine A5 fun _=>?_|refine A4 fun _=>?_);try simp(disch:=first|omega|assumption|((repeat(first|exact A1|exact uH|apply A2|apply uT));first|done|fail)|(simp;first|done|omega|fail))[]))
 rename_i bt
 refine H2 (α := Nat) (φ := fun b u => u = C07 b) (Hn := fun b => [.pt b (.cells #[.pointer (some ⟨m.b, 0, none⟩)] 26)]) A7J (fun w' _ => ?_) ?_
 ·refine A8Y (TW.go (κ := false) (S := []) ?_)
  unfold A1V
  (have zz:=trivial;repeat((first|clear zz|with_reducible first|refine A3 ?_|refine A5 fun _=>?_|refine A4 fun _=>?_);try simp(disch:=first|omega|assumption|((repeat(first|exact A1|exact uH|apply A2|apply uT));first|done|fail)|(simp;first|done|omega|fail))[]))
  rename_i b
  exact B1 b rfl (by (repeat' constructor))
 rintro b _ rfl
 refine k9 9 1 ?_
 refine TW.perm ?_ (H' := [.pt b (.cells #[.pointer (some ⟨m.b, 0, none⟩)] 26), .own 9 1 (.slice none 0 0) 0 [], .pt bt (.cells #[.slice none 0 0] 51)]) (List.Perm.swap ..)
 refine A2E (C3B b m hn hl) (C1j _) (fun i (x : Option Addr × Nat) => True) (fun i x => [.own 9 1 (.slice x.1 i x.2) i (((L4 m.ts).map Value.string).take i), .pt bt (.cells #[.slice x.1 i x.2] 51)])
  (fun c (y : Unit) => False) (fun y => []) (none, 0) trivial ?_ ?_ ?_ ?_ (by simp)
 ·intro i _ F w1 _ hw
  exact hRq hw
 ·rintro i hi ⟨xa, xc⟩ F _ K' hK _
  have hi' : i < (L4 m.ts).length := by simpa using hi
  have hst : ((L4 m.ts).map Value.string).take (i + 1) = ((L4 m.ts).map Value.string).take i ++ [Value.string (L4 m.ts)[i]] := by
   rw [List.take_add_one, List.getElem?_map, List.getElem?_eq_getElem hi']; rfl
  simp only [hst] at hK
  simp only [List.getElem_map]
  generalize (L4 m.ts)[i] = p at *
  simp only [B9v, VF.app]
  (have zz:=trivial;repeat((first|clear zz|with_reducible first|refine A3 ?_|refine A5 fun _=>?_|refine A4 fun _=>?_|refine D6 fun _=>?_|refine D3 (hK:=fun _=>?_)|refine D7 (hK:=fun _=>?_)|refine D8 (hK:=fun _=>?_)|refine D5 (hK:=fun _=>?_)|refine D4 (hK:=fun _=>?_));try simp(disch:=first|omega|assumption|((repeat(first|exact A1|exact uH|apply A2|apply uT));first|done|fail)|(simp;first|done|omega|fail))[]))
  refine u5 (e := 9) (k := 1) (q := i) (r := 1) (xs := ((L4 m.ts).map Value.string).take i) (news := [Value.string p]) (by (repeat constructor)) (P6.own (by (repeat constructor))) (by decide) (by simp) (by simp) (by simp only [maxLen]; omega) (by omega) fun a' c' => ?_
  (have zz:=trivial;repeat((first|clear zz|with_reducible first|refine A3 ?_|refine A5 fun _=>?_|refine A4 fun _=>?_);try simp(disch:=first|omega|assumption|((repeat(first|exact A1|exact uH|apply A2|apply uT));first|done|fail)|(simp;first|done|omega|fail))[]))
  refine TW.sub (TW.perm (hK (a', c') trivial) ?_) (H' := .own 9 1 (.slice a' (i + 1) c') (i + 1) (((L4 m.ts).map Value.string).take i ++ [Value.string p]) :: .pt bt (.cells #[.slice a' (i + 1) c'] 51) :: F) ?_
  ·exact List.Perm.refl _
  ·((try simp only [List.cons_append, List.nil_append, List.append_assoc]); (repeat (first | exact List.Sublist.refl _ | exact List.nil_sublist _ | with_reducible apply List.Sublist.cons_cons | apply List.Sublist.cons)); first | done | fail)
 ·rintro ⟨xa, xc⟩ _
  (have zz:=trivial;repeat((first|clear zz|with_reducible first|refine A3 ?_|refine A5 fun _=>?_|refine A4 fun _=>?_);try simp(disch:=first|omega|assumption|((repeat(first|exact A1|exact uH|apply A2|apply uT));first|done|fail)|(simp;first|done|omega|fail))[]))
  refine B1 (.slice xa (L4 m.ts).length xc) rfl ?_
  rw [List.take_of_length_le (by simp)]
  exact Sels.cons Sel.here Sels.nil
 ·rintro _ _ h; exact h.elim
end Go.Proofs.YtjobgnabneddjaaGreat
namespace Go.Proofs.YtjobgnabneddjaaGreat
open Go
end Go.Proofs.YtjobgnabneddjaaGreat
namespace Go.Proofs.YtjobgnabneddjaaGreat
open Go
end Go.Proofs.YtjobgnabneddjaaGreat
namespace Go.Proofs.YtjobgnabneddjaaGreat
open Go
end Go.Proofs.YtjobgnabneddjaaGreat
namespace Go.Proofs.YtjobgnabneddjaaGreat
open Go
end Go.Proofs.YtjobgnabneddjaaGreat
namespace Go.Proofs.YtjobgnabneddjaaGreat
open Go
end Go.Proofs.YtjobgnabneddjaaGreat
namespace Go.Proofs.YtjobgnabneddjaaGreat
open Go
end Go.Proofs.YtjobgnabneddjaaGreat
namespace Go.Proofs.YtjobgnabneddjaaGreat
open Go
end Go.Proofs.YtjobgnabneddjaaGreat
namespace Go.Proofs.YtjobgnabneddjaaGreat
open Go
theorem B1z {K : Value → WP} (a b : Bool) : A0 PR (binOp .neq 4 (.bool a) (.bool b)) K = K (.bool (!(a == b))) := F1 (fun w => by
 have h : (Op.equal 4 (.bool a) (.bool b)).run PR w = .ok (a == b) w := A37 (e := 9999) ty4 w
 simp [binOp, h]) K
def B3H (x : WS) (p : Int) : Prop := D2 x.cells 2 = p ∧ ∀ i : Nat, D2 x.cells ((i : Nat) + 3) = 0
theorem B3H.after {x : WS} {v : Int} (h : B3H x v) (p : List E6) : B3H (K8 x p) v := by
 refine ⟨?_, fun i => ?_⟩
 ·have := B4T (x := x) (p := p) 0
  simp only [Int.natCast_zero, Int.zero_add] at this
  rw [this]; exact h.1
 ·have := B4T (x := x) (p := p) (i + 1)
  rw [show (((i + 1 : Nat) : Int) + 2) = (i : Nat) + 3 by omega] at this
  rw [this]; exact h.2 i
theorem B3H.zero {x : WS} (h : B3H x 0) (i : Nat) : D2 x.cells ((i : Nat) + 2) = 0 := by
 cases i with
 | zero => exact h.1
 | succ i => rw [show (((i + 1 : Nat) : Int) + 2) = (i : Nat) + 3 by omega]; exact h.2 i
end Go.Proofs.YtjobgnabneddjaaGreat
namespace Go.Proofs.YtjobgnabneddjaaGreat
open Go
end Go.Proofs.YtjobgnabneddjaaGreat
namespace Go.Proofs.YtjobgnabneddjaaGreat
open Go
theorem CurI.pin {x : WS} (h : CurI x) (v : Int) : CurI { x with cells := H5 x.cells 2 v } := by
 have e : D2 (H5 x.cells 2 v) 1 = D2 x.cells 1 := m0 _ _ (by omega)
 refine ⟨⟨h.ok.wk, by simp only [A0k]; exact h.ok.cells, h.ok.own, h.ok.sl, h.ok.keep⟩, h.kl, h.two, ?_, fun k hk hc => ?_, fun k hk hc => ?_⟩
 ·show 0 ≤ D2 (H5 x.cells 2 v) 1 ∧ D2 (H5 x.cells 2 v) 1 ≤ x.keep.length; rw [e]; exact h.cur
 ·exact h.at1 k hk (by rw [show G9 { x with cells := H5 x.cells 2 v } = D2 (H5 x.cells 2 v) 1 from rfl, e] at hc; exact hc)
 ·exact h.at2 k hk (by rw [show G9 { x with cells := H5 x.cells 2 v } = D2 (H5 x.cells 2 v) 1 from rfl, e] at hc; exact hc)
theorem CurI.ready {x : WS} (h : CurI x) (hc : 0 < G9 x) : (A67 x.sl (G9 x - 1)).2 = true := by
 have h1 := h.cur
 obtain ⟨k, hk⟩ : ∃ k : Nat, G9 x - 1 = k := ⟨(G9 x - 1).toNat, by omega⟩
 obtain ⟨_, p, hp⟩ := h.at1 k (by omega) (by omega)
 rw [hk]; unfold A67; rw [hp]
end Go.Proofs.YtjobgnabneddjaaGreat
namespace Go.Proofs.YtjobgnabneddjaaGreat
open Go
theorem GI.up {N E : Nat} {j : JW} {x : WS} (h : GI N E j x) : GI N (E + 1) j x := { h with ep := by have := h.ep; omega, jep := by have := h.jep; omega }
theorem XI.up {E : Nat} {y : XS} (h : XI E y) : XI (E + 1) y := { h with ep := by have := h.ep; omega }
theorem PinJ.up {N E : Nat} {who pd e : Int} {j : JW} {x : WS} {y : XS} (h : PinJ N E who pd e j x y) : PinJ N (E + 1) who pd e j x y := { h with g := h.g.up }
theorem PinJ.new {c : CfgV} (hok : M7 c = true) {who : Int} (hw : 0 ≤ who ∧ who ≤ 60) {text : ByteArray} (ht : text.size ≤ 100) {y : XS} (h1 : y.c = c) (h5 : y.locks = List.replicate c.sh.toNat (-1)) : PinJ c.sh.toNat 0 who 0 0 (D9 who text) (H6 c) y := by
 have hf : ∀ i, i < c.sh.toNat → (H6 c).own.getD i 0 = -1 := fun i hi => by
  show (List.replicate c.sh.toNat (-1 : Int)).getD i 0 = -1
  rw [List.getD_eq_getElem?_getD, List.getElem?_replicate_of_lt hi]; rfl
 refine ⟨GI.new hok who text ht, rfl, hw, h5, h1, A3Z _ _, fun i hi _ => hf i hi, fun h => by simp [D9] at h, fun _ i hi => by rw [hf i hi]; omega, fun _ => Or.inl rfl, fun _ _ => A3Z _ _, fun h => by simp [D9] at h, fun _ => rfl, fun h => by simp [D9] at h⟩
def cnA (a : JA) (n : Int) : JA := (a.1, a.2.1, { a.2.2.1 with cn := n }, a.2.2.2)
theorem JsC.cn {cp : Nat} {a : JA} (h : JsC cp a) (n : Int) : JsC cp (cnA a n) := ⟨h.tab, h.sub, h.tb⟩
end Go.Proofs.YtjobgnabneddjaaGreat
namespace Go.Proofs.YtjobgnabneddjaaGreat
open Go
abbrev JJ := (JW × Value) × (JW × Value) × WoG × N5
def JJ.a (y : JJ) : JA := (y.1.1, y.1.2, y.2.2.1, y.2.2.2)
def JJ.b (y : JJ) : JA := (y.2.1.1, y.2.1.2, y.2.2.1, y.2.2.2)
def twH (b1 b2 : Nat) (m : WoH) (y : JJ) : List Res := E9 b1 y.1.1 y.1.2 :: E9 b2 y.2.1.1 y.2.1.2 :: Y3 y.2.2.2 :: C8 (m.ug y.2.2.1)
structure TwC (m : WoH) (N : Nat) (c : CfgV) (p : List E6) (text : ByteArray) (s : Nat) (T : Nat → List EnV) (A : Nat → AnsV) (y : JJ) : Prop where
 ja : JsC c.cp.toNat y.a
 tb : (y.2.1.2, y.2.1.1.table) ∈ y.2.2.2
 t : Two N c p text s T A 1 2 y.1.1 y.2.1.1 (m.ug y.2.2.1).ws
theorem TwC.jb {m : WoH} {N : Nat} {c : CfgV} {p : List E6} {text : ByteArray} {s : Nat} {T : Nat → List EnV} {A : Nat → AnsV} {y : JJ} (h : TwC m N c p text s T A y) : JsC c.cp.toNat y.b := ⟨h.ja.tab, h.ja.sub, h.tb⟩
def C73 (j j' k : JW) : Prop := j'.st = j.st + 1 ∧ j.st < 10 ∧ ¬ (j.st = 3 ∧ F7 k) ∨ j'.st = j.st ∧ (j.st = 10 ∨ j.st = 3 ∧ F7 k)
section
variable {S : List Nat} {w0 : World} {H Hk : List Res} {X : Nat → Prop} {K : Value → WP} {m : WoH} {N : Nat} {c : CfgV} {p : List E6} {text : ByteArray} {s : Nat} {T : Nat → List EnV} {A : Nat → AnsV}
theorem B7N (b1 b2 : Nat) (m : WoH) (j k : JW) (tv kv : Value) (d : WoG) (P : N5) (Hk : List Res) : (twH b1 b2 m ((j, tv), (k, kv), d, P) ++ Hk).Perm (jsH b1 m (j, tv, d, P) ++ (E9 b2 k kv :: Hk)) := by
 simp only [twH, jsH, F3, List.cons_append]
 exact List.Perm.cons _ ((List.Perm.swap _ _ _).trans (List.Perm.cons _ List.perm_middle.symm))
theorem B6u (b1 b2 : Nat) (m : WoH) (j k : JW) (tv kv : Value) (d : WoG) (P : N5) (Hk : List Res) : (twH b1 b2 m ((j, tv), (k, kv), d, P) ++ Hk).Perm (jsH b2 m (k, kv, d, P) ++ (E9 b1 j tv :: Hk)) := by
 simp only [twH, jsH, F3, List.cons_append]
 exact (List.Perm.swap _ _ _).trans (List.Perm.cons _ ((List.Perm.swap _ _ _).trans (List.Perm.cons _ List.perm_middle.symm)))
theorem B9T (b1 b2 : Nat) (y : JJ) (h : TwC m N c p text s T A y) (ht : TwoOk N c p text s T A) (hs : Sels (twH b1 b2 m y ++ Hk) H)
  (hK : ∀ (y' : JJ) v, TwC m N c p text s T A y' → y'.2.1.1 = y.2.1.1 → C73 y.1.1 y'.1.1 y.2.1.1 → TW false S w0 (twH b1 b2 m y' ++ Hk) (K v)) :
  TW false S w0 H (B4 PR X 20 [.pointer (some ⟨b1, 0, none⟩), .pointer (some ⟨m.b, 0, none⟩)] K) := by
 refine Sels.tw hs ?_
 obtain ⟨⟨j, tv⟩, ⟨k, kv⟩, d, P⟩ := y
 have hcp : (j8 m (j, tv, d, P)).c.cp.toNat = c.cp.toNat := by show (m.ug d).ws.c.cp.toNat = _; rw [h.t.w.cc]
 have hst := h.t.step ht (by omega)
 refine TW.perm ?_ (B7N b1 b2 m j k tv kv d P Hk)
 refine C70 (N := N) (E := 0) (Hk := E9 b2 k kv :: Hk) b1 m (j, tv, d, P) c.cp.toNat h.ja (by omega) h.t.gj hcp (V3 _) ?_
 rintro ⟨j', tv', d', P'⟩ k1 k2 k3 k4
 refine TW.perm ?_ (B7N b1 b2 m j' k tv' kv d' P' Hk).symm
 have e1 : j' = (j.step (m.ug d).ws).1 := k1
 have e2 : (m.ug d').ws = (j.step (m.ug d).ws).2.1 := k2
 rw [← e1, ← e2] at hst
 exact hK ((j', tv'), (k, kv), d', P') _ ⟨k3, k4 _ h.tb, hst.1⟩ rfl hst.2
theorem C4k (b1 b2 : Nat) (y : JJ) (h : TwC m N c p text s T A y) (ht : TwoOk N c p text s T A) (hs : Sels (twH b1 b2 m y ++ Hk) H)
  (hK : ∀ (y' : JJ) v, TwC m N c p text s T A y' → y'.1.1 = y.1.1 → C73 y.2.1.1 y'.2.1.1 y.1.1 → TW false S w0 (twH b1 b2 m y' ++ Hk) (K v)) :
  TW false S w0 H (B4 PR X 20 [.pointer (some ⟨b2, 0, none⟩), .pointer (some ⟨m.b, 0, none⟩)] K) := by
 refine Sels.tw hs ?_
 have hjb := h.jb
 have hta := h.ja.tb
 obtain ⟨⟨j, tv⟩, ⟨k, kv⟩, d, P⟩ := y
 have hcp : (j8 m (k, kv, d, P)).c.cp.toNat = c.cp.toNat := by show (m.ug d).ws.c.cp.toNat = _; rw [h.t.w.cc]
 have hst := h.t.swap.step ht (by omega)
 refine TW.perm ?_ (B6u b1 b2 m j k tv kv d P Hk)
 refine C70 (N := N) (E := 0) (Hk := E9 b1 j tv :: Hk) b2 m (k, kv, d, P) c.cp.toNat hjb (by omega) h.t.gk hcp (V3 _) ?_
 rintro ⟨k', kv', d', P'⟩ k1 k2 k3 k4
 refine TW.perm ?_ (B6u b1 b2 m j k' tv kv' d' P' Hk).symm
 have e1 : k' = (k.step (m.ug d).ws).1 := k1
 have e2 : (m.ug d').ws = (k.step (m.ug d).ws).2.1 := k2
 rw [← e1, ← e2] at hst
 exact hK ((j, tv), (k', kv'), d', P') _ ⟨⟨k3.tab, k3.sub, k4 _ hta⟩, k3.tb, hst.1.swap⟩ rfl hst.2
end
abbrev C7u (b : Bool) : Value := .bool b
set_option maxHeartbeats 8000000 in
theorem B7E (w : World) (c : CfgV) (text : ByteArray) (pv : Value) (p : List E6) (qv : Value) (l : List Bool) (htm : text.size ≤ 9223372036854775807) (hpl : p.length ≤ 9223372036854775807) (hll : l.length ≤ 9223372036854775807)
  (hp : G1 w pv p.length (p.flatMap J0)) (hq : G1 w qv l.length (l.map C7u)) :
  Fn PR B8 11 #[c.val, .string text, pv, qv] w (fun v w' => v = .bool true ∧ C7 [] w w') := by
 refine Fn.pure (A2U (TW.go (κ := false) (S := []) ?_))
 unfold j6
 have hchk := fun (w' : World) (H : List Res) (hw' : LW false [] w H w') (h : p.length ≤ 8) => A9F w' pv p (by omega) (hp.ks hw'.ks (by simp))
 obtain ⟨pa, pc, rfl, hpr⟩ := hp.form
 obtain ⟨qa, qc, rfl, hqr⟩ := hq.form
 simp only [CfgV.val]
 (have zz:=trivial;repeat((first|clear zz|with_reducible first|refine A3 ?_|refine A5 fun _=>?_|refine A4 fun _=>?_);try simp(disch:=first|omega|assumption|((repeat(first|exact A1|exact uH|apply A2|apply uT));first|done|fail)|(simp;first|done|omega|fail))[]))
 rename_i bc
 refine C1 A30 (fun w' _ => B9Y w') ?_
 (have zz:=trivial;repeat((first|clear zz|with_reducible first|refine A3 ?_|refine A5 fun _=>?_|refine A4 fun _=>?_);try simp(disch:=first|omega|assumption|((repeat(first|exact A1|exact uH|apply A2|apply uT));first|done|fail)|(simp;first|done|omega|fail))[]))
 refine C1 A3n (fun w' _ => C3j w' c) ?_
 refine C1 A4D (fun w' _ => A44 w' text (by omega)) ?_
 obtain ⟨tk, tf, te, htv⟩ : ∃ a b c, E1 text = (a, b, c) := ⟨_, _, _, rfl⟩
 rw [htv]
 simp only [packet.val, T7]
 cases hs : A6z c with
 | false => (have zz:=trivial;repeat((first|clear zz|with_reducible first|refine A3 ?_|refine A5 fun _=>?_|refine A4 fun _=>?_);try simp(disch:=first|omega|assumption|((repeat(first|exact A1|exact uH|apply A2|apply uT));first|done|fail)|(simp;first|done|omega|fail))[])); exact B0 rfl
 | true =>
 by_cases htx : text.size ≤ 100
 case neg =>
  have h1 : 100 < (text.size : Int) := by omega
  have h2 : 100 < text.size := by omega
  (have zz:=trivial;repeat((first|clear zz|with_reducible first|refine A3 ?_|refine A5 fun _=>?_|refine A4 fun _=>?_);try simp(disch:=first|omega|assumption|((repeat(first|exact A1|exact uH|apply A2|apply uT));first|done|fail)|(simp;first|done|omega|fail))[h1, h2])); exact B0 rfl
 have h1 : ¬ 100 < (text.size : Int) := by omega
 have h2 : ¬ 100 < text.size := by omega
 by_cases hl60 : l.length ≤ 60
 case neg =>
  have h3 : 60 < (l.length : Int) := by omega
  have h4 : 60 < l.length := by omega
  (have zz:=trivial;repeat((first|clear zz|with_reducible first|refine A3 ?_|refine A5 fun _=>?_|refine A4 fun _=>?_);try simp(disch:=first|omega|assumption|((repeat(first|exact A1|exact uH|apply A2|apply uT));first|done|fail)|(simp;first|done|omega|fail))[h1, h2, h3, h4])); exact B0 rfl
 have h3 : ¬ 60 < (l.length : Int) := by omega
 have h4 : ¬ 60 < l.length := by omega
 by_cases hp0 : p.length = 0
 ·have h5 : (p.length : Int) = 0 := by omega
  have h6 : p = [] := List.length_eq_zero_iff.1 hp0
  (have zz:=trivial;repeat((first|clear zz|with_reducible first|refine A3 ?_|refine A5 fun _=>?_|refine A4 fun _=>?_);try simp(disch:=first|omega|assumption|((repeat(first|exact A1|exact uH|apply A2|apply uT));first|done|fail)|(simp;first|done|omega|fail))[h1, h2, h3, h4, h5, h6])); exact B0 rfl
 have h5 : ¬ (p.length : Int) = 0 := by omega
 have h6 : ¬ p = [] := fun h => hp0 (by rw [h]; rfl)
 by_cases hp8 : p.length ≤ 8
 case neg =>
  have h7 : 8 < (p.length : Int) := by omega
  have h8 : 8 < p.length := by omega
  (have zz:=trivial;repeat((first|clear zz|with_reducible first|refine A3 ?_|refine A5 fun _=>?_|refine A4 fun _=>?_);try simp(disch:=first|omega|assumption|((repeat(first|exact A1|exact uH|apply A2|apply uT));first|done|fail)|(simp;first|done|omega|fail))[h1, h2, h3, h4, h5, h6, h7, h8])); exact B0 rfl
 have h7 : ¬ 8 < (p.length : Int) := by omega
 have h8 : ¬ 8 < p.length := by omega
 (have zz:=trivial;repeat((first|clear zz|with_reducible first|refine A3 ?_|refine A5 fun _=>?_|refine A4 fun _=>?_);try simp(disch:=first|omega|assumption|((repeat(first|exact A1|exact uH|apply A2|apply uT));first|done|fail)|(simp;first|done|omega|fail))[h1, h2, h3, h4, h5, h6, h7, h8]))
 refine C1 A6N (fun w' hw' => hchk w' _ hw' hp8) ?_
 clear hchk
 by_cases hck : K4 p = 0
 case neg => (have zz:=trivial;repeat((first|clear zz|with_reducible first|refine A3 ?_|refine A5 fun _=>?_|refine A4 fun _=>?_);try simp(disch:=first|omega|assumption|((repeat(first|exact A1|exact uH|apply A2|apply uT));first|done|fail)|(simp;first|done|omega|fail))[hck])); exact B0 rfl
 by_cases hte : te = 0
 case neg =>
  have hte' : ¬ (te : Int) = 0 := by omega
  (have zz:=trivial;repeat((first|clear zz|with_reducible first|refine A3 ?_|refine A5 fun _=>?_|refine A4 fun _=>?_);try simp(disch:=first|omega|assumption|((repeat(first|exact A1|exact uH|apply A2|apply uT));first|done|fail)|(simp;first|done|omega|fail))[hck, hte, hte'])); exact B0 rfl
 subst hte
 (have zz:=trivial;repeat((first|clear zz|with_reducible first|refine A3 ?_|refine A5 fun _=>?_|refine A4 fun _=>?_);try simp(disch:=first|omega|assumption|((repeat(first|exact A1|exact uH|apply A2|apply uT));first|done|fail)|(simp;first|done|omega|fail))[hck]))
 refine C1 A2w (fun w' _ => B3C w' tk tf) ?_
 cases hcl : A1s tk tf with
 | true => (have zz:=trivial;repeat((first|clear zz|with_reducible first|refine A3 ?_|refine A5 fun _=>?_|refine A4 fun _=>?_);try simp(disch:=first|omega|assumption|((repeat(first|exact A1|exact uH|apply A2|apply uT));first|done|fail)|(simp;first|done|omega|fail))[])); exact B0 rfl
 | false =>
 by_cases hwk : c.wk < 2
 ·(have zz:=trivial;repeat((first|clear zz|with_reducible first|refine A3 ?_|refine A5 fun _=>?_|refine A4 fun _=>?_);try simp(disch:=first|omega|assumption|((repeat(first|exact A1|exact uH|apply A2|apply uT));first|done|fail)|(simp;first|done|omega|fail))[hwk])); exact B0 rfl
 (have zz:=trivial;repeat((first|clear zz|with_reducible first|refine A3 ?_|refine A5 fun _=>?_|refine A4 fun _=>?_);try simp(disch:=first|omega|assumption|((repeat(first|exact A1|exact uH|apply A2|apply uT));first|done|fail)|(simp;first|done|omega|fail))[hwk]))
 refine H2 A74 (fun w' hw' => B85 w' c) ?_
 cases hok : M7 c with
 | false =>
  simp only [Bool.false_eq_true, if_false]
  rintro m v rfl
  (have zz:=trivial;repeat((first|clear zz|with_reducible first|refine A3 ?_|refine A5 fun _=>?_|refine A4 fun _=>?_);try simp(disch:=first|omega|assumption|((repeat(first|exact A1|exact uH|apply A2|apply uT));first|done|fail)|(simp;first|done|omega|fail))[]))
  exact B0 rfl
 | true =>
 simp only [if_true]
 rintro m v ⟨rfl, hmc, hws⟩
 (have zz:=trivial;repeat((first|clear zz|with_reducible first|refine A3 ?_|refine A5 fun _=>?_|refine A4 fun _=>?_);try simp(disch:=first|omega|assumption|((repeat(first|exact A1|exact uH|apply A2|apply uT));first|done|fail)|(simp;first|done|omega|fail))[]))
 refine H2 v8 (fun w' hw' => A7V w' 1 text) ?_
 rintro b1 v rfl
 (have zz:=trivial;repeat((first|clear zz|with_reducible first|refine A3 ?_|refine A5 fun _=>?_|refine A4 fun _=>?_);try simp(disch:=first|omega|assumption|((repeat(first|exact A1|exact uH|apply A2|apply uT));first|done|fail)|(simp;first|done|omega|fail))[]))
 refine H2 v8 (fun w' hw' => A7V w' 2 text) ?_
 rintro b2 v rfl
 simp only [C8, E0, List.cons_append, List.nil_append]
 (have zz:=trivial;repeat((first|clear zz|with_reducible first|refine A3 ?_|refine A5 fun _=>?_|refine A4 fun _=>?_);try simp(disch:=first|omega|assumption|((repeat(first|exact A1|exact uH|apply A2|apply uT));first|done|fail)|(simp;first|done|omega|fail))[]))
 refine C1 A33 (fun w' hw' => B88 w' m (hw'.pt (b := m.b) (by unfold E2; (repeat constructor)))) ?_
 (have zz:=trivial;repeat((first|clear zz|with_reducible first|refine A3 ?_|refine A5 fun _=>?_|refine A4 fun _=>?_);try simp(disch:=first|omega|assumption|((repeat(first|exact A1|exact uH|apply A2|apply uT));first|done|fail)|(simp;first|done|omega|fail))[]))
 refine H2 A5p (fun w' hw' => C3E w' c hok) ?_
 rintro x v ⟨rfl, hx1, hx2, hx3, hx4, hx5, hx6, hx7, hx8, hx9, hx10⟩
 have hok2 := hok
 simp only [M7, W0, Bool.and_eq_true, decide_eq_true_eq] at hok2
 obtain ⟨N, hN⟩ : ∃ N : Nat, c.sh = N := ⟨c.sh.toNat, by omega⟩
 have hNt : c.sh.toNat = N := by omega
 have hxi0 : XI 0 x.xs := ⟨by show 1 ≤ x.c.sh ∧ x.c.sh ≤ 16; rw [hx1]; omega, by show x.c.sl ≤ 8; rw [hx1]; omega, by show 0 ≤ x.now ∧ x.now ≤ _; rw [hx10]; omega, by show (x.locks.length : Int) = x.c.sh; rw [hx5, hx1, List.length_replicate]; omega, by show x.sl.length ≤ 8; rw [hx6, List.length_replicate]; omega, by show 0 ≤ x.ep ∧ x.ep ≤ 0; rw [hx2]; omega⟩
 have hxc : x.xs.c = c := hx1
 have hcc : m.c = c := congrArg WS.c hws
 have hg1 := GI.new hok 1 text htx
 have hg2 := GI.new hok 2 text htx
 rw [hNt, ← hws] at hg1 hg2
 have htabs : ∀ t ∈ m.ts, TabOk c.cp.toNat t.2 := fun t ht => by
  have e1 : m.ts.map (·.2) = List.replicate c.sh.toNat (newE c.cp.toNat) := congrArg WS.tabs hws
  have : t.2 ∈ m.ts.map (·.2) := List.mem_map.2 ⟨t, ht, rfl⟩
  rw [e1] at this
  rw [(List.mem_replicate.1 this).2]; exact TabOk.new (by omega)
 clear hmc hx1 hx2 hx3 hx4 hx5 hx6 hx7 hx8 hx9 hx10
 simp only [List.cons_append, List.nil_append]
 refine k9 218 4 ?_
 refine a7 (r := .slice none 0 0) (l := []) (ts := m.ts) (by (repeat' constructor)) ?_
 obtain ⟨P, hP⟩ : ∃ P, P = m.ts ++ [(G6, [])] := ⟨_, rfl⟩
 rw [show ((.slice none 0 0 : Value), ([] : List EnV)) = (G6, []) from rfl, ← hP]
 have hnilP : (G6, ([] : List EnV)) ∈ P := by rw [hP]; exact List.mem_append_right _ (List.mem_singleton.2 rfl)
 have hc0 : JsC c.cp.toNat (D9 1 text, G6, m.dg, P) := by
  refine ⟨fun t ht => ?_, fun t ht => by rw [hP]; exact List.mem_append_left _ ht, hnilP⟩
  rw [hP] at ht
  rcases List.mem_append.1 ht with ht | ht
  ·exact Or.inr (htabs t ht)
  ·rw [List.mem_singleton.1 ht]; exact Or.inl B4c
 clear hP htabs
 have hcpx : ∀ d : WoG, (m.ug d).ws.c.cp.toNat = c.cp.toNat := fun d => by show m.c.cp.toNat = _; rw [hcc]
 have hcsl : m.ws.c.sl ≤ 8 := by show m.c.sl ≤ 8; rw [hcc]; omega
 refine Sels.tw (rs := jsH b1 m (D9 1 text, G6, m.dg, P) ++ (S4 x ++ [E9 b2 (D9 2 text) G6])) (by simp only [jsH, F3, show m.ug m.dg = m from rfl, C8, E0, S4, List.cons_append, List.nil_append]; (repeat' constructor)) ?_
 (have zz:=trivial;repeat((first|clear zz|with_reducible first|refine A3 ?_|refine A5 fun _=>?_|refine A4 fun _=>?_);try simp(disch:=first|omega|assumption|((repeat(first|exact A1|exact uH|apply A2|apply uT));first|done|fail)|(simp;first|done|omega|fail))[]))
 refine C48 (N := N) (E := 0) (Hk := [E9 b2 (D9 2 text) G6]) b1 m (D9 1 text, G6, m.dg, P) x ⟨4, 0, p, pa, pc⟩ c.cp.toNat hc0 (by omega) hg1 hxi0 hp8 (fun w' hk => hp.ks hk (by simp)) (V3 _) ?_
 intro a1 x1 e1 e2 e3 e4 _ e6 e7
 have hg3 := (hg1.hap0 (by omega) ⟨4, 0, p, pa, pc⟩ (show (4 : Int) ≠ 1 by omega) x.xs (hxc.trans hcc.symm) hcsl).up
 rw [show m.ws = j8 m (D9 1 text, G6, m.dg, P) from rfl, ← e2, ← show a1.1 = D9 1 text from e1] at hg3
 have hxi1 := hxi0.hap ⟨4, 0, p, pa, pc⟩
 rw [← e4] at hxi1
 rw [← e3]
 (have zz:=trivial;repeat((first|clear zz|with_reducible first|refine A3 ?_|refine A5 fun _=>?_|refine A4 fun _=>?_);try simp(disch:=first|omega|assumption|((repeat(first|exact A1|exact uH|apply A2|apply uT));first|done|fail)|(simp;first|done|omega|fail))[]))
 refine C48 (N := N) (E := 1) (Hk := [E9 b2 (D9 2 text) G6]) b1 m a1 x1 ⟨6, 0, [], none, 0⟩ c.cp.toNat e6 (by omega) hg3 hxi1 (by simp) (fun w' hk => Or.inl ⟨rfl, rfl, none, 0, rfl⟩) (V3 _) ?_
 intro a2 x2 f1 f2 f3 f4 _ f6 f7
 have hx1c : x1.xs.c = c := by rw [e4, C17]; exact hxc
 have hws2 : j8 m a2 = twX c p := by
  rw [f2, e2, C4u (by rw [hx1c]; omega), C0P, show j8 m (D9 1 text, G6, m.dg, P) = m.ws from rfl, hws]; rfl
 have hj2 : a2.1 = D9 1 text := f1.trans e1
 have hnil2 : (G6, ([] : List EnV)) ∈ a2.2.2.2 := f7 _ (e7 _ hnilP)
 obtain ⟨j2, tv2, d2, P2⟩ := a2
 simp only at hj2 hnil2
 subst hj2
 clear f1 f2 f3 f4 e1 e2 e3 e4 e6 e7 f7 hg3 hxi1 hxi0 hxc hx1c hg1 hg2 hc0 hnilP hws hcsl
 refine Sels.tw (rs := twH b1 b2 m ((D9 1 text, tv2), (D9 2 text, G6), d2, P2) ++ []) (by simp only [twH, jsH, F3, List.cons_append, List.append_nil]; repeat (first | exact Sels.nil | (apply Sels.cons; · (repeat constructor)))) ?_
 obtain ⟨s, hs0⟩ : ∃ s : Nat, s = T2 (l7 (E1 text).1) c.sh := ⟨_, rfl⟩
 have hsN : s < N := by rw [hs0]; unfold T2; rw [if_neg (by omega), hN, Int.toNat_natCast]; exact Nat.mod_lt _ (by omega)
 obtain ⟨T, hT⟩ : ∃ T, T = A5a (newE c.cp.toNat) p (l7 (E1 text).1) c.idle := ⟨_, rfl⟩
 obtain ⟨A, hA⟩ : ∃ A, A = B5y (newE c.cp.toNat) p (l7 (E1 text).1) c.idle := ⟨_, rfl⟩
 have hto : TwoOk N c p text s T A := ⟨by rw [htv], by rw [htv]; exact hcl, hs0.symm, hsN, fun n => by rw [hT]; rfl, fun n => by rw [hA, hT]; rfl⟩
 obtain ⟨bk, hA0, hA1, hT2⟩ := C2s (cp := c.cp.toNat) (p := p) (key := l7 (E1 text).1) (idle := c.idle) (by omega) h6 hck (by omega)
 rw [← hA] at hA0 hA1
 rw [← hT] at hT2
 have hT0 : T 0 = newE c.cp.toNat := by rw [hT]; rfl
 have hin := C24 hok hck htx (by omega) (s := s) (T := T) (A := A) (by rw [hNt]; exact hto) hT0
 rw [hNt, ← hws2] at hin
 have hC0 : TwC m N c p text s T A ((D9 1 text, tv2), (D9 2 text, G6), d2, P2) := ⟨f6, hnil2, hin⟩
 clear hin hws2 f6 hnil2 hT hA hT0 hs0
 (have zz:=trivial;repeat((first|clear zz|with_reducible first|refine A3 ?_|refine A5 fun _=>?_|refine A4 fun _=>?_);try simp(disch:=first|omega|assumption|((repeat(first|exact A1|exact uH|apply A2|apply uT));first|done|fail)|(simp;first|done|omega|fail))[]))
 refine A0U (α := JJ) l.length (fun _ y => twH b1 b2 m y ++ []) (fun _ y => TwC m N c p text s T A y) _ hC0 ?_
 clear hC0
 rintro i y hi hC L hL
 by_cases hlt : i < l.length
 ·have hlt' : ((i : Nat) : Int) < (l.length : Nat) := by omega
  obtain ⟨qb, qo, rfl, hrow⟩ := hqr (by omega)
  obtain ⟨pk, hx⟩ : ∃ pk, l[i]? = some pk := ⟨_, List.getElem?_eq_getElem hlt⟩
  have g0 := hrow.one (f := C7u) hx
  cases pk with
  | true =>
   (have zz:=trivial;repeat((first|clear zz|with_reducible first|refine A3 ?_|refine A5 fun _=>?_|refine A4 fun _=>?_);try simp(disch:=first|omega|assumption|((repeat(first|exact A1|exact uH|apply A2|apply uT));first|done|fail)|(simp;first|done|omega|fail))[hlt, hlt', g0]))
   refine B9T b1 b2 y hC hto (V3 _) ?_
   intro y' v h1 _ _
   (have zz:=trivial;repeat((first|clear zz|with_reducible first|refine A3 ?_|refine A5 fun _=>?_|refine A4 fun _=>?_);try simp(disch:=first|omega|assumption|((repeat(first|exact A1|exact uH|apply A2|apply uT));first|done|fail)|(simp;first|done|omega|fail))[]))
   exact hL hlt y' h1
  | false =>
   (have zz:=trivial;repeat((first|clear zz|with_reducible first|refine A3 ?_|refine A5 fun _=>?_|refine A4 fun _=>?_);try simp(disch:=first|omega|assumption|((repeat(first|exact A1|exact uH|apply A2|apply uT));first|done|fail)|(simp;first|done|omega|fail))[hlt, hlt', g0]))
   refine C4k b1 b2 y hC hto (V3 _) ?_
   intro y' v h1 _ _
   (have zz:=trivial;repeat((first|clear zz|with_reducible first|refine A3 ?_|refine A5 fun _=>?_|refine A4 fun _=>?_);try simp(disch:=first|omega|assumption|((repeat(first|exact A1|exact uH|apply A2|apply uT));first|done|fail)|(simp;first|done|omega|fail))[]))
   exact hL hlt y' h1
 obtain rfl : i = l.length := by omega
 clear hL
 (have zz:=trivial;repeat((first|clear zz|with_reducible first|refine A3 ?_|refine A5 fun _=>?_|refine A4 fun _=>?_);try simp(disch:=first|omega|assumption|((repeat(first|exact A1|exact uH|apply A2|apply uT));first|done|fail)|(simp;first|done|omega|fail))[Int.lt_irrefl]))
 refine A0U (α := JJ) 20 (fun _ y => twH b1 b2 m y ++ []) (fun n y => TwC m N c p text s T A y ∧ B1y n y.1.1 y.2.1.1) y ⟨hC, Or.inr (Or.inr (by have := hC.t.gj.st; omega))⟩ ?_
 clear hC
 rintro i y hi ⟨hC, hP⟩ L hL
 by_cases hlt : i < 20
 ·have hlt' : ((i : Nat) : Int) < 20 := by omega
  (have zz:=trivial;repeat((first|clear zz|with_reducible first|refine A3 ?_|refine A5 fun _=>?_|refine A4 fun _=>?_);try simp(disch:=first|omega|assumption|((repeat(first|exact A1|exact uH|apply A2|apply uT));first|done|fail)|(simp;first|done|omega|fail))[hlt, hlt']))
  refine B9T b1 b2 y hC hto (V3 _) ?_
  intro y' v h1 h2 h3
  (have zz:=trivial;repeat((first|clear zz|with_reducible first|refine A3 ?_|refine A5 fun _=>?_|refine A4 fun _=>?_);try simp(disch:=first|omega|assumption|((repeat(first|exact A1|exact uH|apply A2|apply uT));first|done|fail)|(simp;first|done|omega|fail))[]))
  exact hL hlt y' ⟨h1, by rw [h2]; exact hP.step h3⟩
 obtain rfl : i = 20 := by omega
 clear hL
 have hs1 : y.1.1.st = 10 ∨ y.1.1.st = 3 := by
  have := hC.t.gj.st
  rcases hP with h | h | h
  ·exact Or.inl h
  ·exact Or.inr h.1
  ·omega
 clear hP
 (have zz:=trivial;repeat((first|clear zz|with_reducible first|refine A3 ?_|refine A5 fun _=>?_|refine A4 fun _=>?_);try simp(disch:=first|omega|assumption|((repeat(first|exact A1|exact uH|apply A2|apply uT));first|done|fail)|(simp;first|done|omega|fail))[]))
 refine A0U (α := JJ) 20 (fun _ y => twH b1 b2 m y ++ []) (fun n y => TwC m N c p text s T A y ∧ (y.1.1.st = 10 ∨ y.1.1.st = 3) ∧ B1y n y.2.1.1 y.1.1) y ⟨hC, hs1, Or.inr (Or.inr (by have := hC.t.gk.st; omega))⟩ ?_
 clear hC hs1
 rintro i y hi ⟨hC, hs1, hP⟩ L hL
 by_cases hlt : i < 20
 ·have hlt' : ((i : Nat) : Int) < 20 := by omega
  (have zz:=trivial;repeat((first|clear zz|with_reducible first|refine A3 ?_|refine A5 fun _=>?_|refine A4 fun _=>?_);try simp(disch:=first|omega|assumption|((repeat(first|exact A1|exact uH|apply A2|apply uT));first|done|fail)|(simp;first|done|omega|fail))[hlt, hlt']))
  refine C4k b1 b2 y hC hto (V3 _) ?_
  intro y' v h1 h2 h3
  (have zz:=trivial;repeat((first|clear zz|with_reducible first|refine A3 ?_|refine A5 fun _=>?_|refine A4 fun _=>?_);try simp(disch:=first|omega|assumption|((repeat(first|exact A1|exact uH|apply A2|apply uT));first|done|fail)|(simp;first|done|omega|fail))[]))
  exact hL hlt y' ⟨h1, by rw [h2]; exact hs1, by rw [h2]; exact hP.step h3⟩
 obtain rfl : i = 20 := by omega
 clear hL
 have hs2 : y.2.1.1.st = 10 := by
  have := hC.t.gk.st
  rcases hP with h | h | h
  ·exact h
  ·have := h.2; unfold F7 at this; omega
  ·omega
 clear hP hs1
 (have zz:=trivial;repeat((first|clear zz|with_reducible first|refine A3 ?_|refine A5 fun _=>?_|refine A4 fun _=>?_);try simp(disch:=first|omega|assumption|((repeat(first|exact A1|exact uH|apply A2|apply uT));first|done|fail)|(simp;first|done|omega|fail))[]))
 refine A0U (α := JJ) 20 (fun _ y => twH b1 b2 m y ++ []) (fun n y => TwC m N c p text s T A y ∧ y.2.1.1.st = 10 ∧ B1y n y.1.1 y.2.1.1) y ⟨hC, hs2, Or.inr (Or.inr (by have := hC.t.gj.st; omega))⟩ ?_
 clear hC hs2
 rintro i y hi ⟨hC, hs2, hP⟩ L hL
 by_cases hlt : i < 20
 ·have hlt' : ((i : Nat) : Int) < 20 := by omega
  (have zz:=trivial;repeat((first|clear zz|with_reducible first|refine A3 ?_|refine A5 fun _=>?_|refine A4 fun _=>?_);try simp(disch:=first|omega|assumption|((repeat(first|exact A1|exact uH|apply A2|apply uT));first|done|fail)|(simp;first|done|omega|fail))[hlt, hlt']))
  refine B9T b1 b2 y hC hto (V3 _) ?_
  intro y' v h1 h2 h3
  (have zz:=trivial;repeat((first|clear zz|with_reducible first|refine A3 ?_|refine A5 fun _=>?_|refine A4 fun _=>?_);try simp(disch:=first|omega|assumption|((repeat(first|exact A1|exact uH|apply A2|apply uT));first|done|fail)|(simp;first|done|omega|fail))[]))
  exact hL hlt y' ⟨h1, by rw [h2]; exact hs2, by rw [h2]; exact hP.step h3⟩
 obtain rfl : i = 20 := by omega
 clear hL
 have hs1 : y.1.1.st = 10 := by
  have := hC.t.gj.st
  rcases hP with h | h | h
  ·exact h
  ·have := h.2; unfold F7 at this; omega
  ·omega
 clear hP
 have hlv := hC.t.live hto (by omega) (by omega) hT2
 have hab := hC.t.ab (by omega) (by omega)
 have hts : (m.ug y.2.2.1).ts.length = N := by have := hC.t.gj.tl; simpa [WoH.ws] using this
 have hn16 := hC.t.gj.n
 have hja := hC.ja
 clear hC
 obtain ⟨⟨j, tv⟩, ⟨k, kv⟩, d, P⟩ := y
 simp only at hs1 hs2 hlv hab hts
 have hS1 := fun (w' : World) (g : bl w' b1 = some (.cells (G5 j tv) 130 (0, 0))) => A3U w' b1 j tv g
 have hS2 := fun (w' : World) (g : bl w' b2 = some (.cells (G5 k kv) 130 (0, 0))) => A3U w' b2 k kv g
 have hA1' := fun (w' : World) (g : bl w' b1 = some (.cells (G5 j tv) 130 (0, 0))) => A2M w' b1 j tv g
 have hA2' := fun (w' : World) (g : bl w' b2 = some (.cells (G5 k kv) 130 (0, 0))) => A2M w' b2 k kv g
 rw [hs1] at hS1
 rw [hs2] at hS2
 have hkt : (L4 (m.ug d).ts).length = 1 := by
  rw [← hlv]
  unfold L4
  show ((m.ug d).ts.flatMap fun t => M8 t.2).length = (((m.ug d).ts.map (·.2)).flatMap M8).length
  rw [List.flatMap_map]
 have hlen : ∀ t ∈ (m.ug d).ts, t.2.length ≤ 1000000 := fun t ht => by
  rcases hja.tab t (hja.sub t ht) with h | h
  ·rw [h.len]; omega
  ·have := h.few; rw [h.len]; omega
 (have zz:=trivial;repeat((first|clear zz|with_reducible first|refine A3 ?_|refine A5 fun _=>?_|refine A4 fun _=>?_);try simp(disch:=first|omega|assumption|((repeat(first|exact A1|exact uH|apply A2|apply uT));first|done|fail)|(simp;first|done|omega|fail))[]))
 rcases hab with ⟨g1, g2⟩ | ⟨g1, g2⟩
 ·rw [g1, hA0] at hA1'
  rw [g2, hA1] at hA2'
  simp only [twH, List.append_nil, List.cons_append]
  refine C1 M5 (fun w' hw' => hA1' w' (hw'.pt (b := b1) (by unfold E9; simp))) ?_
  simp only [AnsV.val]
  (have zz:=trivial;repeat((first|clear zz|with_reducible first|refine A3 ?_|refine A5 fun _=>?_|refine A4 fun _=>?_);try simp(disch:=first|omega|assumption|((repeat(first|exact A1|exact uH|apply A2|apply uT));first|done|fail)|(simp;first|done|omega|fail))[]))
  refine C1 M5 (fun w' hw' => hA2' w' (hw'.pt (b := b2) (by unfold E9; simp))) ?_
  simp only [AnsV.val]
  (have zz:=trivial;repeat((first|clear zz|with_reducible first|refine A3 ?_|refine A5 fun _=>?_|refine A4 fun _=>?_);try simp(disch:=first|omega|assumption|((repeat(first|exact A1|exact uH|apply A2|apply uT));first|done|fail)|(simp;first|done|omega|fail))[]))
  refine C1 N2 (fun w' hw' => hS1 w' (hw'.pt (b := b1) (by unfold E9; simp))) ?_
  (have zz:=trivial;repeat((first|clear zz|with_reducible first|refine A3 ?_|refine A5 fun _=>?_|refine A4 fun _=>?_);try simp(disch:=first|omega|assumption|((repeat(first|exact A1|exact uH|apply A2|apply uT));first|done|fail)|(simp;first|done|omega|fail))[]))
  refine C1 N2 (fun w' hw' => hS2 w' (hw'.pt (b := b2) (by unfold E9; simp))) ?_
  (have zz:=trivial;repeat((first|clear zz|with_reducible first|refine A3 ?_|refine A5 fun _=>?_|refine A4 fun _=>?_);try simp(disch:=first|omega|assumption|((repeat(first|exact A1|exact uH|apply A2|apply uT));first|done|fail)|(simp;first|done|omega|fail))[B1z]))
  rw [show m.b = (m.ug d).b from rfl]
  refine H2 A1L (fun w' hw' => B8r w' (m.ug d) (by omega) hlen (by omega) (WoAt.own hw' fun r hr => by simp only [List.mem_cons]; exact Or.inr (Or.inr (Or.inr (Or.inr (Or.inr hr))))) (P6.own (e := 84) (k := 1) (by unfold C8; (repeat constructor)) w' hw') (fun t ht => A4F (ts := P) (t := t) hw' (by (repeat constructor)) (hja.sub t ht))) ?_
  rintro _ r rfl
  refine T6 (e := 9) (k := 1) (v := r) (q := (L4 (m.ug d).ts).length) (xs := (L4 (m.ug d).ts).map Value.string) (by simp) fun ra rc hrr => ?_
  subst hrr
  rw [hkt]
  (have zz:=trivial;repeat((first|clear zz|with_reducible first|refine A3 ?_|refine A5 fun _=>?_|refine A4 fun _=>?_);try simp(disch:=first|omega|assumption|((repeat(first|exact A1|exact uH|apply A2|apply uT));first|done|fail)|(simp;first|done|omega|fail))[B1z]))
  exact B0 rfl
 ·rw [g1, hA1] at hA1'
  rw [g2, hA0] at hA2'
  simp only [twH, List.append_nil, List.cons_append]
  refine C1 M5 (fun w' hw' => hA1' w' (hw'.pt (b := b1) (by unfold E9; simp))) ?_
  simp only [AnsV.val]
  (have zz:=trivial;repeat((first|clear zz|with_reducible first|refine A3 ?_|refine A5 fun _=>?_|refine A4 fun _=>?_);try simp(disch:=first|omega|assumption|((repeat(first|exact A1|exact uH|apply A2|apply uT));first|done|fail)|(simp;first|done|omega|fail))[]))
  refine C1 M5 (fun w' hw' => hA2' w' (hw'.pt (b := b2) (by unfold E9; simp))) ?_
  simp only [AnsV.val]
  (have zz:=trivial;repeat((first|clear zz|with_reducible first|refine A3 ?_|refine A5 fun _=>?_|refine A4 fun _=>?_);try simp(disch:=first|omega|assumption|((repeat(first|exact A1|exact uH|apply A2|apply uT));first|done|fail)|(simp;first|done|omega|fail))[]))
  refine C1 N2 (fun w' hw' => hS1 w' (hw'.pt (b := b1) (by unfold E9; simp))) ?_
  (have zz:=trivial;repeat((first|clear zz|with_reducible first|refine A3 ?_|refine A5 fun _=>?_|refine A4 fun _=>?_);try simp(disch:=first|omega|assumption|((repeat(first|exact A1|exact uH|apply A2|apply uT));first|done|fail)|(simp;first|done|omega|fail))[]))
  refine C1 N2 (fun w' hw' => hS2 w' (hw'.pt (b := b2) (by unfold E9; simp))) ?_
  (have zz:=trivial;repeat((first|clear zz|with_reducible first|refine A3 ?_|refine A5 fun _=>?_|refine A4 fun _=>?_);try simp(disch:=first|omega|assumption|((repeat(first|exact A1|exact uH|apply A2|apply uT));first|done|fail)|(simp;first|done|omega|fail))[B1z]))
  rw [show m.b = (m.ug d).b from rfl]
  refine H2 A1L (fun w' hw' => B8r w' (m.ug d) (by omega) hlen (by omega) (WoAt.own hw' fun r hr => by simp only [List.mem_cons]; exact Or.inr (Or.inr (Or.inr (Or.inr (Or.inr hr))))) (P6.own (e := 84) (k := 1) (by unfold C8; (repeat constructor)) w' hw') (fun t ht => A4F (ts := P) (t := t) hw' (by (repeat constructor)) (hja.sub t ht))) ?_
  rintro _ r rfl
  refine T6 (e := 9) (k := 1) (v := r) (q := (L4 (m.ug d).ts).length) (xs := (L4 (m.ug d).ts).map Value.string) (by simp) fun ra rc hrr => ?_
  subst hrr
  rw [hkt]
  (have zz:=trivial;repeat((first|clear zz|with_reducible first|refine A3 ?_|refine A5 fun _=>?_|refine A4 fun _=>?_);try simp(disch:=first|omega|assumption|((repeat(first|exact A1|exact uH|apply A2|apply uT));first|done|fail)|(simp;first|done|omega|fail))[B1z]))
  exact B0 rfl
end Go.Proofs.YtjobgnabneddjaaGreat
