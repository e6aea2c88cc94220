/- The proof of a given statement, a part of it. No condition but what each lemma says. -/
import Derived.Test.YtjobgnabneddjaaGreatK8
set_option maxHeartbeats 4000000
set_option linter.unusedVariables false
set_option linter.unusedSimpArgs false
namespace Go.Proofs.YtjobgnabneddjaaGreat
open Go
section
open Instr
variable {X:Nat → Prop} {t0 t1 t2 t3 t4 t5 t6 t7:Value} {R:Value → WP} {w:World}
def Z8 (X:Nat → Prop) (a:Value) (R:Value → WP):WP :=
 jn (n:=1) (fun b=>
 B5 PR X (buildSlice 84 0 #[]) fun c=>
 B5 PR X (A8 .append #[84,84] 84 [c,a]) fun d=>
 R d) fun J1=>
 A6 PR (H9 .eql 84 (.tmp 3) (.const (.slice none 0 0)) a (.slice none 0 0)) fun e=>
 C0 e (
 R (.slice none 0 0)) (
 J1 (.slice none 0 0))
theorem A0u:B0 PR 122:=A7 Tryz.func122 (by kernel_rfl) rfl
theorem A1E (h:Z8 X t0 R w):Fn PR X 122 #[t0] w R:=C4 (args := [t0]) mixed Tryz.func122 (by kernel_rfl) h
def Y0 (X:Nat → Prop) (a:Value) (R:Value → WP):WP :=
 jn (n:=1) (fun b=>
 B5 PR X (buildSlice 58 0 #[]) fun c=>
 B5 PR X (A8 .append #[58,58] 58 [c,a]) fun d=>
 R d) fun J1=>
 A6 PR (H9 .eql 58 (.tmp 3) (.const (.slice none 0 0)) a (.slice none 0 0)) fun e=>
 C0 e (
 R (.slice none 0 0)) (
 J1 (.slice none 0 0))
theorem A0A:B0 PR 123:=A7 Tryz.func123 (by kernel_rfl) rfl
theorem A0E (h:Y0 X t0 R w):Fn PR X 123 #[t0] w R:=C4 (args := [t0]) mixed Tryz.func123 (by kernel_rfl) h
def b9 (X:Nat → Prop) (a b:Value) (R:Value → WP):WP :=
 B3 PR X 201 [a,b] fun c=>
 A0 PR (binOp .geq 3 c (.int .i64 0)) fun d=>
 R d
theorem A1C:B0 PR 148:=A7 Tryz.func148 (by kernel_rfl) rfl
theorem A1r (h:b9 X t0 t1 R w):Fn PR X 148 #[t0,t1] w R:=C4 (args := [t0,t1]) mixed Tryz.func148 (by kernel_rfl) h
def j5 (X:Nat → Prop) (a b:Value) (R:Value → WP):WP :=
 B3 PR X 212 [a] fun c=>
 B3 PR X 213 [c,b] fun d=>
 R c
theorem A1p:B0 PR 160:=A7 Tryz.func160 (by kernel_rfl) rfl
theorem A2S (h:j5 X t0 t1 R w):Fn PR X 160 #[t0,t1] w R:=C4 (args := [t0,t1]) mixed Tryz.func160 (by kernel_rfl) h
def p7 (X:Nat → Prop) (a b:Value) (R:Value → WP):WP :=
 B3 PR X 232 [a] fun c=>
 A0 PR (B4 a) fun d=>
 A0 PR (fieldAt 303 d 1) fun e=>
 A6 PR (loadAt 301 e) fun f=>
 B5 PR X (A8 .append #[301,9] 301 [f,b]) fun g=>
 A0 PR (B4 a) fun h=>
 A0 PR (fieldAt 303 h 1) fun i=>
 C1 PR X (storeAt 301 i g) <|
 A0 PR (A8 .len #[9] 0 [b]) fun j=>
 R (.tuple #[j,.nilIface])
theorem P8:B0 PR 173:=A7 Tryz.func173 (by kernel_rfl) rfl
theorem A3q (h:p7 X t0 t1 R w):Fn PR X 173 #[t0,t1] w R:=C4 (args := [t0,t1]) mixed Tryz.func173 (by kernel_rfl) h
def A0d (X:Nat → Prop) (a:Value) (R:Value → WP):WP :=
 drw <|
 A0 PR (B4 a) fun b=>
 A0 PR (fieldAt 303 b 1) fun c=>
 A6 PR (loadAt 301 c) fun d=>
 A0 PR (B4 a) fun e=>
 A0 PR (fieldAt 303 e 1) fun f=>
 A6 PR (loadAt 301 f) fun g=>
 A0 PR (A8 .len #[301] 0 [g]) fun h=>
 B5 PR X (A8 .unsafeSliceData #[301] 363 [d]) fun i=>
 watch PR [(none,(loadAt 301 f),g)] <|
 B5 PR X (A8 .unsafeString #[363,3] 9 [i,h]) fun j=>
 R j
theorem A5U:B0 PR 174:=A7 Tryz.func174 (by kernel_rfl) rfl
theorem A5x (h:A0d X t0 R w):Fn PR X 174 #[t0] w R:=C4 (args := [t0]) mixed Tryz.func174 (by kernel_rfl) h
def A0q (X:Nat → Prop) (a b:Value) (R:Value → WP):WP :=
 A0 PR (B4 a) fun c=>
 A0 PR (fieldAt 137 c 2) fun d=>
 B3 PR X 234 [d,b] fun e=>
 R e
theorem A5w:B0 PR 178:=A7 Tryz.func178 (by kernel_rfl) rfl
theorem A6y (h:A0q X t0 t1 R w):Fn PR X 178 #[t0,t1] w R:=C4 (args := [t0,t1]) mixed Tryz.func178 (by kernel_rfl) h
def l8 (X:Nat → Prop) (a b:Value) (R:Value → WP):WP :=
 jn (n:=2) (fun c d=>
 R (.int .i64 (-1))) fun J1=>
 A0 PR (A8 .len #[259] 0 [a]) fun e=>
 lp (n:=2) (fun L2 f g=>
 A0 PR (binOp .lss 3 g e) fun h=>
 jn (n:=0) (
 jn (n:=1) (fun i=>
 A0 PR (binOp .add 3 g (.int .i64 1)) fun j=>
 L2 i j) fun J3=>
 A0 PR (indexAt 259 a g) fun k=>
 A6 PR (loadAt 158 k) fun l=>
 N7 PR X b [l] fun m=>
 C0 m (
 R g) (
 J3 f)) fun J4=>
 C0 h (
 J4) (
 J1 f g)) (.int .i64 0) (.int .i64 0)
theorem A2k:B0 PR 201:=A7 Tryz.func201 (by kernel_rfl) rfl
theorem A3E (h:l8 X t0 t1 R w):Fn PR X 201 #[t0,t1] w R:=C4 (args := [t0,t1]) mixed Tryz.func201 (by kernel_rfl) h
def A9y (X:Nat → Prop) (a b:Value) (R:Value → WP):WP :=
 jn (n:=2) (fun c d=>
 R c) fun J1=>
 lp (n:=2) (fun L2 e f=>
 jn (n:=0) (
 A0 PR (binOp .add 3 e f) fun g=>
 A0 PR (convert 3 242 g) fun h=>
 A0 PR (binOp .shr 242 h (.int .u64 1)) fun i=>
 A0 PR (convert 242 3 i) fun j=>
 N7 PR X b [j] fun k=>
 A0 PR (Op.unary .not k) fun l=>
 C0 l (
 A0 PR (binOp .add 3 j (.int .i64 1)) fun m=>
 L2 m f) (
 L2 e j)) fun J3=>
 A0 PR (binOp .lss 3 e f) fun o=>
 C0 o (
 J3) (
 J1 e f)) (.int .i64 0) a
theorem B6u:B0 PR 210:=A7 Tryz.func210 (by kernel_rfl) rfl
theorem B70 (h:A9y X t0 t1 R w):Fn PR X 210 #[t0,t1] w R:=C4 (args := [t0,t1]) mixed Tryz.func210 (by kernel_rfl) h
def p9 (X:Nat → Prop) (a:Value) (R:Value → WP):WP :=
 B3 PR X 248 [(.slice none 0 0),a] fun b=>
 R b
theorem A3D:B0 PR 212:=A7 Tryz.func212 (by kernel_rfl) rfl
theorem A3F (h:p9 X t0 R w):Fn PR X 212 #[t0] w R:=C4 (args := [t0]) mixed Tryz.func212 (by kernel_rfl) h
theorem n9:B0 PR 213:=A7 Tryz.func213 (by kernel_rfl) rfl
def B2C (X:Nat → Prop) (a:Value) (R:Value → WP):WP :=
 jn (n:=2) (fun b c=>
 R (.int .i64 0)) fun J1=>
 A0 PR (A8 .len #[37] 0 [a]) fun d=>
 lp (n:=2) (fun L2 e f=>
 A0 PR (binOp .lss 3 f d) fun g=>
 jn (n:=0) (
 jn (n:=1) (fun h=>
 A0 PR (binOp .add 3 f (.int .i64 1)) fun i=>
 L2 h i) fun J3=>
 A0 PR (indexAt 37 a f) fun j=>
 A6 PR (loadAt 3 j) fun k=>
 A0 PR (binOp .neq 3 k (.int .i64 0)) fun l=>
 C0 l (
 R k) (
 J3 e)) fun J4=>
 C0 g (
 J4) (
 J1 e f)) (.int .i64 0) (.int .i64 0)
theorem B8K:B0 PR 216:=A7 Tryz.func216 (by kernel_rfl) rfl
theorem B9g (h:B2C X t0 R w):Fn PR X 216 #[t0] w R:=C4 (args := [t0]) mixed Tryz.func216 (by kernel_rfl) h
end
theorem C0m {X:Nat → Prop} {t0:Value} {K:Value → WP} {w:World} (h:Fn PR X 216 #[t0] w K):B3 PR X 216 [t0] K w:=Or.inl ⟨B8K,h⟩
def A2y (X:Nat → Prop) (a b:Value) (R:Value → WP):WP :=
 B3 PR X 251 [a] fun c=>
 B3 PR X 251 [b] fun d=>
 jn (n:=1) (fun e=>
 jn (n:=1) (fun f=>
 jn (n:=1) (fun g=>
 jn (n:=1) (fun h=>
 R (.int .i64 0)) fun J1=>
 A0 PR (binOp .gtr 89 a b) fun i=>
 C0 i (
 R (.int .i64 1)) (
 J1 g)) fun J2=>
 A0 PR (binOp .lss 89 a b) fun j=>
 C0 j (
 R (.int .i64 (-1))) (
 J2 f)) fun J3=>
 C0 d (
 R (.int .i64 1)) (
 J3 e)) fun J4=>
 C0 c (
 jn (n:=1) (fun k=>
 R (.int .i64 (-1))) fun J5=>
 C0 d (
 R (.int .i64 0)) (
 J5 (.int .i64 0))) (
 J4 (.int .i64 0))
theorem A9L:B0 PR 217:=A7 Tryz.func217 (by kernel_rfl) rfl
theorem B0P {X:Nat → Prop} {t0 t1:Value} {R:Value → WP} {w:World} (h:A2y X t0 t1 R w):Fn PR X 217 #[t0,t1] w R:=C4 (args := [t0,t1]) mixed Tryz.func217 (by kernel_rfl) h
theorem B02 {X:Nat → Prop} {t0 t1:Value} {K:Value → WP} {w:World} (h:Fn PR X 217 #[t0,t1] w K):B3 PR X 217 [t0,t1] K w:=Or.inl ⟨A9L,h⟩
def A42 (X:Nat → Prop) (a b:Value) (R:Value → WP):WP :=
 B3 PR X 252 [a] fun c=>
 B3 PR X 252 [b] fun d=>
 jn (n:=1) (fun e=>
 jn (n:=1) (fun f=>
 jn (n:=1) (fun g=>
 jn (n:=1) (fun h=>
 R (.int .i64 0)) fun J1=>
 A0 PR (binOp .gtr 3 a b) fun i=>
 C0 i (
 R (.int .i64 1)) (
 J1 g)) fun J2=>
 A0 PR (binOp .lss 3 a b) fun j=>
 C0 j (
 R (.int .i64 (-1))) (
 J2 f)) fun J3=>
 C0 d (
 R (.int .i64 1)) (
 J3 e)) fun J4=>
 C0 c (
 jn (n:=1) (fun k=>
 R (.int .i64 (-1))) fun J5=>
 C0 d (
 R (.int .i64 0)) (
 J5 (.int .i64 0))) (
 J4 (.int .i64 0))
theorem B2b:B0 PR 218:=A7 Tryz.func218 (by kernel_rfl) rfl
theorem B3V {X:Nat → Prop} {t0 t1:Value} {R:Value → WP} {w:World} (h:A42 X t0 t1 R w):Fn PR X 218 #[t0,t1] w R:=C4 (args := [t0,t1]) mixed Tryz.func218 (by kernel_rfl) h
theorem B4r {X:Nat → Prop} {t0 t1:Value} {K:Value → WP} {w:World} (h:Fn PR X 218 #[t0,t1] w K):B3 PR X 218 [t0,t1] K w:=Or.inl ⟨B2b,h⟩
section
open Instr
variable {X:Nat → Prop} {t0 t1 t2 t3 t4 t5 t6 t7:Value} {R:Value → WP} {w:World}
def u0 (X:Nat → Prop) (a:Value) (R:Value → WP):WP :=
 A0 PR (B4 a) fun b=>
 A0 PR (fieldAt 303 b 0) fun c=>
 A6 PR (loadAt 300 c) fun d=>
 A6 PR (H9 .eql 300 (.tmp 5) (.const (.pointer none)) d (.pointer none)) fun e=>
 C0 e (
 A6 PR (convert 300 391 a) fun f=>
 B3 PR X 264 [f] fun g=>
 A6 PR (convert 391 300 g) fun h=>
 A0 PR (B4 a) fun i=>
 A0 PR (fieldAt 303 i 0) fun j=>
 C1 PR X (storeAt 300 j h) <|
 R (.tuple #[])) (
 A0 PR (B4 a) fun k=>
 A0 PR (fieldAt 303 k 0) fun l=>
 A6 PR (loadAt 300 l) fun m=>
 A6 PR (H9 .neq 300 (.tmp 17) (.tmp 18) m a) fun n=>
 C0 n (
 K8) (
 R (.tuple #[])))
theorem A3x:B0 PR 232:=A7 Tryz.func232 (by kernel_rfl) rfl
theorem A4N (h:u0 X t0 R w):Fn PR X 232 #[t0] w R:=C4 (args := [t0]) mixed Tryz.func232 (by kernel_rfl) h
def T6 (X:Nat → Prop) (a b:Value) (R:Value → WP):WP :=
 B5 PR X (box 281 a) fun c=>
 jn (n:=0) (
 A6 PR (loadAt 281 c) fun d=>
 unw (R d)) fun J1=>
 rng (N:=1) PR X (fun e K2=>
 B5 PR (fun _=> False) (alloc 284 true (.tuple #[])) fun f=>
 C1 PR (fun _=> False) (storeAt 284 f e) <|
 bgn <|
 A6 PR (loadAt 281 c) fun g=>
 A6 PR (loadAt 284 f) fun h=>
 B5 PR (fun _=> False) (buildSlice 281 1 #[(0,h)]) fun k=>
 B5 PR (fun _=> False) (A8 .append #[281,281] 281 [g,k]) fun l=>
 C1 PR (fun _=> False) (storeAt 281 c l) <|
 K2 none) b (fun j=> match j with | none=> (J1) | some (.exit i)=> (match Nat.beq i 0 with | true=> (J1) | false=> (K8)) | some .ret=> (unw (R (.slice none 0 0))) | some _=> K8)
theorem m0:B0 PR 248:=A7 Tryz.func248 (by kernel_rfl) rfl
theorem q5 (h:T6 X t0 t1 R w):Fn PR X 248 #[t0,t1] w R:=C4 (args := [t0,t1]) mixed Tryz.func248 (by kernel_rfl) h
def A35 (X:Nat → Prop) (a:Value) (R:Value → WP):WP :=
 A0 PR (binOp .neq 89 a a) fun b=>
 R b
theorem B1m:B0 PR 251:=A7 Tryz.func251 (by kernel_rfl) rfl
theorem B2e (h:A35 X t0 R w):Fn PR X 251 #[t0] w R:=C4 (args := [t0]) mixed Tryz.func251 (by kernel_rfl) h
end
theorem A40 {X:Nat → Prop} {t0:Value} {K:Value → WP} {w:World} (h:Fn PR X 251 #[t0] w K):B3 PR X 251 [t0] K w:=Or.inl ⟨B1m,h⟩
def A7B (X:Nat → Prop) (a:Value) (R:Value → WP):WP :=
 A0 PR (binOp .neq 3 a a) fun b=>
 R b
theorem B43:B0 PR 252:=A7 Tryz.func252 (by kernel_rfl) rfl
theorem B5W {X:Nat → Prop} {t0:Value} {R:Value → WP} {w:World} (h:A7B X t0 R w):Fn PR X 252 #[t0] w R:=C4 (args := [t0]) mixed Tryz.func252 (by kernel_rfl) h
theorem A8e {X:Nat → Prop} {t0:Value} {K:Value → WP} {w:World} (h:Fn PR X 252 #[t0] w K):B3 PR X 252 [t0] K w:=Or.inl ⟨B43,h⟩
section
open Instr
variable {X:Nat → Prop} {t0 t1 t2 t3 t4 t5 t6 t7:Value} {R:Value → WP} {w:World}
def U9 (X:Nat → Prop) (a b:Value) (R:Value → WP):WP :=
 jn (n:=2) (fun c d=>
 R (.int .i64 (-1))) fun J1=>
 A0 PR (A8 .len #[58] 0 [a]) fun e=>
 lp (n:=2) (fun L2 f g=>
 A0 PR (binOp .lss 3 g e) fun h=>
 jn (n:=0) (
 jn (n:=1) (fun i=>
 A0 PR (binOp .add 3 g (.int .i64 1)) fun j=>
 L2 i j) fun J3=>
 A0 PR (indexAt 58 a g) fun k=>
 A6 PR (loadAt 155 k) fun l=>
 N7 PR X b [l] fun m=>
 C0 m (
 R g) (
 J3 f)) fun J4=>
 C0 h (
 J4) (
 J1 f g)) (.int .i64 0) (.int .i64 0)
theorem r4:B0 PR 266:=A7 Tryz.func266 (by kernel_rfl) rfl
theorem r8 (h:U9 X t0 t1 R w):Fn PR X 266 #[t0,t1] w R:=C4 (args := [t0,t1]) mixed Tryz.func266 (by kernel_rfl) h
theorem A5D:B0 PR 341:=A7 Tryz.func341 (by kernel_rfl) rfl
def B21 (X:Nat → Prop) (a b c:Value) (R:Value → WP):WP :=
 B5 PR X (box 9 a) fun d=>
 B5 PR X (box 3 b) fun e=>
 jn (n:=2) (fun f g=>
 B5 PR X (alloc 89 true (.tuple #[])) fun h=>
 jn (n:=0) (
 A6 PR (loadAt 89 h) fun k=>
 unw (R (.tuple #[k,(.bool true)]))) fun J1=>
 B3 PR X 199 [c] fun l=>
 rng (N:=2) PR X (fun m o K2=>
 bgn <|
 drw <|
 A6 PR (loadAt 89 h) fun p=>
 A6 PR (loadAt 9 d) fun q=>
 A6 PR (loadAt 3 e) fun r=>
 A0 PR (binOp .add 3 r m) fun s=>
 A0 PR (index 9 q s) fun t=>
 A0 PR (convert 5 89 t) fun u=>
 A0 PR (binOp .shl 89 u o) fun v=>
 A0 PR (binOp .or 89 p v) fun w=>
 C1 PR (fun _=> False) (storeAt 89 h w) <|
 K2 none) l (fun j=> match j with | none=> (J1) | some (.exit i)=> (match Nat.beq i 0 with | true=> (J1) | false=> (K8)) | some .ret=> (unw (R (.tuple #[f,g]))) | some _=> K8)) fun J3=>
 A0 PR (binOp .lss 3 c (.int .i64 1)) fun x=>
 gj x false (fun J=> J c) fun y=>
 gj x false (fun J=> A0 PR (binOp .gtr 3 y (.int .i64 8)) J) fun z=>
 A0 PR (do pure (if ← asBool x then (.bool true) else z)) fun aa=>
 gj aa false (fun J=> A6 PR (loadAt 3 e) J) fun ab=>
 gj aa false (fun J=> A0 PR (binOp .lss 3 ab (.int .i64 0)) J) fun ac=>
 A0 PR (do pure (if ← asBool aa then (.bool true) else ac)) fun ad=>
 gj ad false (fun J=> A6 PR (loadAt 3 e) J) fun ae=>
 gj ad false (fun J=> A6 PR (loadAt 9 d) J) fun af=>
 gj ad false (fun J=> A0 PR (A8 .len #[9] 0 [af]) J) fun ag=>
 gj ad false (fun J=> J c) fun ah=>
 gj ad false (fun J=> A0 PR (binOp .sub 3 ag ah) J) fun ai=>
 gj ad false (fun J=> A0 PR (binOp .gtr 3 ae ai) J) fun aj=>
 A0 PR (do pure (if ← asBool ad then (.bool true) else aj)) fun ak=>
 C0 ak (
 unw (R (.tuple #[(.int .u64 0),(.bool false)]))) (
 J3 (.int .u64 0) (.bool false))
theorem W9:B0 PR 145:=A7 Tryz.func145 (by kernel_rfl) rfl
theorem C1G (h:B21 X t0 t1 t2 R w):Fn PR X 145 #[t0,t1,t2] w R:=C4 (args := [t0,t1,t2]) mixed Tryz.func145 (by kernel_rfl) h
def B3Q (X:Nat → Prop) (a b:Value) (R:Value → WP):WP :=
 B5 PR X (box 89 a) fun c=>
 jn (n:=1) (fun d=>
 B5 PR X (makeSlice 301 b b) fun e=>
 B5 PR X (alloc 301 true (.tuple #[])) fun f=>
 C1 PR X (storeAt 301 f e) <|
 jn (n:=0) (
 A6 PR (loadAt 301 f) fun g=>
 A6 PR (convert 301 9 g) fun h=>
 unw (R h)) fun J1=>
 B3 PR X 199 [b] fun k=>
 rng (N:=2) PR X (fun l m K2=>
 bgn <|
 A6 PR (loadAt 301 f) fun o=>
 A6 PR (loadAt 89 c) fun p=>
 A0 PR (binOp .shr 89 p m) fun q=>
 A0 PR (convert 89 5 q) fun r=>
 A0 PR (indexAt 301 o l) fun s=>
 C1 PR (fun _=> False) (storeAt 5 s r) <|
 K2 none) k (fun j=> match j with | none=> (J1) | some (.exit i)=> (match Nat.beq i 0 with | true=> (J1) | false=> (K8)) | some .ret=> (unw (R d)) | some _=> K8)) fun J3=>
 A0 PR (binOp .lss 3 b (.int .i64 1)) fun t=>
 gj t false (fun J=> J b) fun u=>
 gj t false (fun J=> A0 PR (binOp .gtr 3 u (.int .i64 8)) J) fun v=>
 A0 PR (do pure (if ← asBool t then (.bool true) else v)) fun w=>
 C0 w (
 unw (R (.string (ByteArray.mk #[])))) (
 J3 (.string (ByteArray.mk #[])))
theorem K9:B0 PR 176:=A7 Tryz.func176 (by kernel_rfl) rfl
theorem C0A (h:B3Q X t0 t1 R w):Fn PR X 176 #[t0,t1] w R:=C4 (args := [t0,t1]) mixed Tryz.func176 (by kernel_rfl) h
def A99 (X:Nat → Prop) (a:Value) (R:Value → WP):WP :=
 B5 PR X (box 3 a) fun b=>
 A0 PR (makeFunc (.func 243) #[] #[b]) fun c=>
 R c
theorem A8A:B0 PR 199:=A7 Tryz.func199 (by kernel_rfl) rfl
theorem B7l (h:A99 X t0 R w):Fn PR X 199 #[t0] w R:=C4 (args := [t0]) mixed Tryz.func199 (by kernel_rfl) h
def A5f (X:Nat → Prop) (a b:Value) (R:Value → WP):WP :=
 A6 PR (loadAt 3 b) fun c=>
 lp (n:=1) (fun L1 d=>
 A0 PR (binOp .lss 3 d c) fun e=>
 jn (n:=0) (
 jn (n:=0) (
 A0 PR (binOp .add 3 d (.int .i64 1)) fun f=>
 L1 f) fun J2=>
 A6 PR (loadAt 3 b) fun g=>
 A0 PR (binOp .sub 3 g (.int .i64 1)) fun h=>
 A0 PR (binOp .sub 3 h d) fun i=>
 A0 PR (binOp .mul 3 (.int .i64 8) i) fun j=>
 A0 PR (convert 3 242 j) fun k=>
 N7 PR X a [d,k] fun l=>
 A0 PR (Op.unary .not l) fun m=>
 C0 m (
 R (.tuple #[])) (
 J2)) fun J3=>
 C0 e (
 J3) (
 R (.tuple #[]))) (.int .i64 0)
theorem B24:B0 PR 243:=A7 Tryz.func243 (by kernel_rfl) rfl
theorem B4q (h:A5f X t0 t1 R w):Fn PR X 243 #[t0,t1] w R:=C4 (args := [t0,t1]) mixed Tryz.func243 (by kernel_rfl) h
end
theorem B45 {X:Nat → Prop} {t0 t1:Value} {K:Value → WP} {w:World} (h:Fn PR X 243 #[t0,t1] w K):A4b PR X 243 [t0,t1] K w:=⟨B24,h⟩
theorem D0W:TI PR 144 Tryz.t144.desc 10 80 (.agg #[.nilFunc,.nilFunc,.nilFunc,.nilFunc,.nilFunc,.nilFunc,.nilFunc,.nilFunc,.nilFunc,.nilFunc]):=⟨Tryz.underlying144,Tryz.t144,by kernel_rfl,rfl,rfl,rfl⟩
theorem B1D:TI PR 148 Tryz.t147.desc 3 24 (.agg #[(.int .i64 0),(.int .i64 0),(.int .i64 0)]):=⟨Tryz.underlying148,Tryz.t148,by kernel_rfl,rfl,rfl,rfl⟩
theorem B4S:TI PR 155 Tryz.t154.desc 2 16 (.agg #[(.int .i64 0),(.int .i64 0)]):=⟨Tryz.underlying155,Tryz.t155,by kernel_rfl,rfl,rfl,rfl⟩
theorem D5g:TI PR 180 Tryz.t180.desc 1 8 .nilFunc:=⟨Tryz.underlying180,Tryz.t180,by kernel_rfl,rfl,rfl,rfl⟩
theorem A8N:TI PR 195 Tryz.t194.desc 2 48 (.agg #[(.slice none 0 0),(.slice none 0 0)]):=⟨Tryz.underlying195,Tryz.t195,by kernel_rfl,rfl,rfl,rfl⟩
theorem A8K:TI PR 205 Tryz.t204.desc 4 40 (.agg #[(.string (ByteArray.mk #[])),(.int .i64 0),(.bool false),(.int .i64 0)]):=⟨Tryz.underlying205,Tryz.t205,by kernel_rfl,rfl,rfl,rfl⟩
theorem A3K:TI PR 218 Tryz.t217.desc 4 40 (.agg #[(.int .i64 0),(.string (ByteArray.mk #[])),(.int .i64 0),(.int .i64 0)]):=⟨Tryz.underlying218,Tryz.t218,by kernel_rfl,rfl,rfl,rfl⟩
theorem B4f:TI PR 224 Tryz.t223.desc 3 40 (.agg #[(.string (ByteArray.mk #[])),(.string (ByteArray.mk #[])),(.int .i64 0)]):=⟨Tryz.underlying224,Tryz.t224,by kernel_rfl,rfl,rfl,rfl⟩
theorem B4V:TI PR 226 Tryz.t223.desc 3 40 (.agg #[(.string (ByteArray.mk #[])),(.string (ByteArray.mk #[])),(.int .i64 0)]):=⟨Tryz.underlying226,Tryz.t226,by kernel_rfl,rfl,rfl,rfl⟩
theorem B4J:TI PR 263 Tryz.t133.desc 0 0 (.agg #[]):=⟨Tryz.underlying263,Tryz.t263,by kernel_rfl,rfl,rfl,rfl⟩
theorem B23:TI PR 27 Tryz.t3.desc 1 8 (.int .i64 0):=⟨Tryz.underlying27,Tryz.t27,by kernel_rfl,rfl,rfl,rfl⟩
theorem B06:TI PR 284 Tryz.t283.desc 2 16 (.agg #[(.int .u64 0),(.int .i64 0)]):=⟨Tryz.underlying284,Tryz.t284,by kernel_rfl,rfl,rfl,rfl⟩
theorem H4:TI PR 3 Tryz.t3.desc 1 8 (.int .i64 0):=⟨Tryz.underlying3,Tryz.t3,by kernel_rfl,rfl,rfl,rfl⟩
theorem A5s:TI PR 301 Tryz.t301.desc 1 24 (.slice none 0 0):=⟨Tryz.underlying301,Tryz.t301,by kernel_rfl,rfl,rfl,rfl⟩
theorem B4Z:TI PR 303 Tryz.t302.desc 2 32 (.agg #[(.pointer none),(.slice none 0 0)]):=⟨Tryz.underlying303,Tryz.t303,by kernel_rfl,rfl,rfl,rfl⟩
theorem D0c:TI PR 305 Tryz.t304.desc 2 32 (.agg #[(.pointer none),(.slice none 0 0)]):=⟨Tryz.underlying305,Tryz.t305,by kernel_rfl,rfl,rfl,rfl⟩
theorem C4C:TI PR 324 Tryz.t84.desc 1 24 (.slice none 0 0):=⟨Tryz.underlying324,Tryz.t324,by kernel_rfl,rfl,rfl,rfl⟩
theorem B4a:TI PR 330 Tryz.t329.desc 2 16 (.agg #[.nilFunc,(.int .i64 0)]):=⟨Tryz.underlying330,Tryz.t330,by kernel_rfl,rfl,rfl,rfl⟩
theorem C4W:TI PR 355 Tryz.t355.desc 38 38 (.agg #[(.int .u8 0),(.int .u8 0),(.int .u8 0),(.int .u8 0),(.int .u8 0),(.int .u8 0),(.int .u8 0),(.int .u8 0),(.int .u8 0),(.int .u8 0),(.int .u8 0),(.int .u8 0),(.int .u8 0),(.int .u8 0),(.int .u8 0),(.int .u8 0),(.int .u8 0),(.int .u8 0),(.int .u8 0),(.int .u8 0),(.int .u8 0),(.int .u8 0),(.int .u8 0),(.int .u8 0),(.int .u8 0),(.int .u8 0),(.int .u8 0),(.int .u8 0),(.int .u8 0),(.int .u8 0),(.int .u8 0),(.int .u8 0),(.int .u8 0),(.int .u8 0),(.int .u8 0),(.int .u8 0),(.int .u8 0),(.int .u8 0)]):=⟨Tryz.underlying355,Tryz.t355,by kernel_rfl,rfl,rfl,rfl⟩
theorem D4J:TI PR 368 Tryz.t368.desc 1 8 .nilFunc:=⟨Tryz.underlying368,Tryz.t368,by kernel_rfl,rfl,rfl,rfl⟩
theorem D0C:TI PR 370 Tryz.t89.desc 1 8 (.int .u64 0):=⟨Tryz.underlying370,Tryz.t370,by kernel_rfl,rfl,rfl,rfl⟩
theorem A8c:TI PR 384 Tryz.t383.desc 5 64 (.agg #[(.string (ByteArray.mk #[])),(.string (ByteArray.mk #[])),(.string (ByteArray.mk #[])),(.int .i64 0),(.int .i64 0)]):=⟨Tryz.underlying384,Tryz.t384,by kernel_rfl,rfl,rfl,rfl⟩
theorem B4W:TI PR 386 Tryz.t147.desc 3 24 (.agg #[(.int .i64 0),(.int .i64 0),(.int .i64 0)]):=⟨Tryz.underlying386,Tryz.t386,by kernel_rfl,rfl,rfl,rfl⟩
theorem B4j:TI PR 409 Tryz.t223.desc 3 40 (.agg #[(.string (ByteArray.mk #[])),(.string (ByteArray.mk #[])),(.int .i64 0)]):=⟨Tryz.underlying409,Tryz.t409,by kernel_rfl,rfl,rfl,rfl⟩
theorem B4d:TI PR 412 Tryz.t223.desc 3 40 (.agg #[(.string (ByteArray.mk #[])),(.string (ByteArray.mk #[])),(.int .i64 0)]):=⟨Tryz.underlying412,Tryz.t412,by kernel_rfl,rfl,rfl,rfl⟩
theorem B3L:TI PR 42 Tryz.t41.desc 3 3 (.agg #[(.bool false),(.bool false),(.bool false)]):=⟨Tryz.underlying42,Tryz.t42,by kernel_rfl,rfl,rfl,rfl⟩
theorem A6Z:TI PR 45 Tryz.t44.desc 6 64 (.agg #[(.int .i64 0),(.string (ByteArray.mk #[])),(.string (ByteArray.mk #[])),(.int .i64 0),(.int .i64 0),(.int .i64 0)]):=⟨Tryz.underlying45,Tryz.t45,by kernel_rfl,rfl,rfl,rfl⟩
theorem B8E:TI PR 47 Tryz.t46.desc 7 72 (.agg #[(.int .i64 0),(.string (ByteArray.mk #[])),(.string (ByteArray.mk #[])),(.int .i64 0),(.int .i64 0),(.int .i64 0),(.int .i64 0)]):=⟨Tryz.underlying47,Tryz.t47,by kernel_rfl,rfl,rfl,rfl⟩
theorem C88:TI PR 51 Tryz.t51.desc 1 24 (.slice none 0 0):=⟨Tryz.underlying51,Tryz.t51,by kernel_rfl,rfl,rfl,rfl⟩
theorem B3u:TI PR 55 Tryz.t54.desc 4 32 (.agg #[(.int .i64 0),(.int .i64 0),(.bool false),(.int .i64 0)]):=⟨Tryz.underlying55,Tryz.t55,by kernel_rfl,rfl,rfl,rfl⟩
theorem B7e:TI PR 82 Tryz.t41.desc 3 3 (.agg #[(.bool false),(.bool false),(.bool false)]):=⟨Tryz.underlying82,Tryz.t82,by kernel_rfl,rfl,rfl,rfl⟩
theorem B05:TI PR 84 Tryz.t84.desc 1 24 (.slice none 0 0):=⟨Tryz.underlying84,Tryz.t84,by kernel_rfl,rfl,rfl,rfl⟩
theorem B3F:TI PR 89 Tryz.t89.desc 1 8 (.int .u64 0):=⟨Tryz.underlying89,Tryz.t89,by kernel_rfl,rfl,rfl,rfl⟩
theorem B6d:TI PR 103 Tryz.t103.desc 1 24 (.slice none 0 0):=⟨Tryz.underlying103,Tryz.t103,by kernel_rfl,rfl,rfl,rfl⟩
theorem A72:TI PR 270 Tryz.t269.desc 2 32 (.agg #[(.int .i64 0),(.slice none 0 0)]):=⟨Tryz.underlying270,Tryz.t270,by kernel_rfl,rfl,rfl,rfl⟩
theorem C4c:TI PR 104 Tryz.t104.desc 1 24 (.slice none 0 0):=⟨Tryz.underlying104,Tryz.t104,by kernel_rfl,rfl,rfl,rfl⟩
theorem D4e:TI PR 277 Tryz.t276.desc 2 16 (.agg #[(.int .i64 0),(.int .i64 0)]):=⟨Tryz.underlying277,Tryz.t277,by kernel_rfl,rfl,rfl,rfl⟩
theorem B1W:TI PR 193 Tryz.t193.desc 1 24 (.slice none 0 0):=⟨Tryz.underlying193,Tryz.t193,by kernel_rfl,rfl,rfl,rfl⟩
theorem A5p:TI PR 290 Tryz.t283.desc 2 16 (.agg #[(.int .u64 0),(.int .i64 0)]):=⟨Tryz.underlying290,Tryz.t290,by kernel_rfl,rfl,rfl,rfl⟩
theorem B94:TI PR 281 Tryz.t281.desc 1 24 (.slice none 0 0):=⟨Tryz.underlying281,Tryz.t281,by kernel_rfl,rfl,rfl,rfl⟩
theorem B78:TI PR 36 Tryz.t36.desc 1 24 (.slice none 0 0):=⟨Tryz.underlying36,Tryz.t36,by kernel_rfl,rfl,rfl,rfl⟩
theorem A6x:TI PR 37 Tryz.t37.desc 1 24 (.slice none 0 0):=⟨Tryz.underlying37,Tryz.t37,by kernel_rfl,rfl,rfl,rfl⟩
theorem k8:TI PR 9 Tryz.t9.desc 1 16 (.string (ByteArray.mk #[])):=⟨Tryz.underlying9,Tryz.t9,by kernel_rfl,rfl,rfl,rfl⟩
theorem B5d:TI PR 58 Tryz.t58.desc 1 24 (.slice none 0 0):=⟨Tryz.underlying58,Tryz.t58,by kernel_rfl,rfl,rfl,rfl⟩
theorem A56:TI PR 100 Tryz.t99.desc 11 112 (.agg #[(.int .i64 0),(.string (ByteArray.mk #[])),(.int .i64 0),(.int .i64 0),(.int .i64 0),(.int .i64 0),(.slice none 0 0),(.int .i64 0),(.int .i64 0),(.bool false),(.int .i64 0)]):=⟨Tryz.underlying100,Tryz.t100,by kernel_rfl,rfl,rfl,rfl⟩
@[simp] theorem D2L {v0 v1:Value} (h0:v0.cells.size = 1) (h1:v1.cells.size = 1) (K:Value → WP):A0 PR (Instr.build 100 #[(0,v0),(1,v1)]) K = K (.agg (E7 (E7 #[(.int .i64 0),(.string (ByteArray.mk #[])),(.int .i64 0),(.int .i64 0),(.int .i64 0),(.int .i64 0),(.slice none 0 0),(.int .i64 0),(.int .i64 0),(.bool false),(.int .i64 0)] 0 v0.cells.toList) 1 v1.cells.toList)):=E6 (pl:=#[(0,1),(1,1),(2,1),(3,1),(4,1),(5,1),(6,1),(7,4)]) A56 (fun w=> by kernel_rfl) (by rw [B6 rfl h0 (by simp [B9]),B6 rfl h1 (by simp [B9])]; rfl)
theorem A3n:TI PR 106 Tryz.t105.desc 14 208 (.agg #[(.int .i64 0),(.int .i64 0),(.int .i64 0),(.int .i64 0),(.int .i64 0),(.int .i64 0),(.int .i64 0),(.slice none 0 0),(.slice none 0 0),(.slice none 0 0),(.slice none 0 0),(.slice none 0 0),(.slice none 0 0),(.int .i64 0)]):=⟨Tryz.underlying106,Tryz.t106,by kernel_rfl,rfl,rfl,rfl⟩
@[simp] theorem D0q {v0 v1 v2:Value} (h0:v0.cells.size = 5) (h1:v1.cells.size = 1) (h2:v2.cells.size = 1) (K:Value → WP):A0 PR (Instr.build 106 #[(0,v0),(3,v1),(8,v2)]) K = K (.agg (E7 (E7 (E7 #[(.int .i64 0),(.int .i64 0),(.int .i64 0),(.int .i64 0),(.int .i64 0),(.int .i64 0),(.int .i64 0),(.slice none 0 0),(.slice none 0 0),(.slice none 0 0),(.slice none 0 0),(.slice none 0 0),(.slice none 0 0),(.int .i64 0)] 0 v0.cells.toList) 7 v1.cells.toList) 12 v2.cells.toList)):=E6 (pl:=#[(0,5),(5,1),(6,1),(7,1),(8,1),(9,1),(10,1),(11,1),(12,1),(13,1)]) A3n (fun w=> by kernel_rfl) (by rw [B6 rfl h0 (by simp [B9]),B6 rfl h1 (by simp [B9]),B6 rfl h2 (by simp [B9])]; rfl)
theorem B4b:TI PR 128 Tryz.t127.desc 4 48 (.agg #[(.string (ByteArray.mk #[])),(.string (ByteArray.mk #[])),(.int .i64 0),(.bool false)]):=⟨Tryz.underlying128,Tryz.t128,by kernel_rfl,rfl,rfl,rfl⟩
@[simp] theorem D5l {v0:Value} (h0:v0.cells.size = 1) (K:Value → WP):A0 PR (Instr.build 128 #[(0,v0)]) K = K (.agg (E7 #[(.string (ByteArray.mk #[])),(.string (ByteArray.mk #[])),(.int .i64 0),(.bool false)] 0 v0.cells.toList)):=E6 (pl:=#[(0,1),(1,1),(2,1),(3,1)]) B4b (fun w=> by kernel_rfl) (by rw [B6 rfl h0 (by simp [B9])]; rfl)
theorem A51:TI PR 130 Tryz.t129.desc 14 144 (.agg #[(.string (ByteArray.mk #[])),(.string (ByteArray.mk #[])),(.int .i64 0),(.bool false),(.int .i64 0),(.int .i64 0),(.int .i64 0),(.int .i64 0),(.int .i64 0),(.slice none 0 0),(.int .i64 0),(.int .i64 0),(.bool false),(.int .i64 0)]):=⟨Tryz.underlying130,Tryz.t130,by kernel_rfl,rfl,rfl,rfl⟩
@[simp] theorem D3V {v0 v1:Value} (h0:v0.cells.size = 4) (h1:v1.cells.size = 1) (K:Value → WP):A0 PR (Instr.build 130 #[(0,v0),(1,v1)]) K = K (.agg (E7 (E7 #[(.string (ByteArray.mk #[])),(.string (ByteArray.mk #[])),(.int .i64 0),(.bool false),(.int .i64 0),(.int .i64 0),(.int .i64 0),(.int .i64 0),(.int .i64 0),(.slice none 0 0),(.int .i64 0),(.int .i64 0),(.bool false),(.int .i64 0)] 0 v0.cells.toList) 4 v1.cells.toList)):=E6 (pl:=#[(0,4),(4,1),(5,1),(6,1),(7,1),(8,1),(9,1),(10,4)]) A51 (fun w=> by kernel_rfl) (by rw [B6 rfl h0 (by simp [B9]),B6 rfl h1 (by simp [B9])]; rfl)
theorem B9x:TI PR 141 Tryz.t140.desc 3 56 (.agg #[(.int .i64 0),(.slice none 0 0),(.slice none 0 0)]):=⟨Tryz.underlying141,Tryz.t141,by kernel_rfl,rfl,rfl,rfl⟩
@[simp] theorem D2d {v0 v1:Value} (h0:v0.cells.size = 1) (h1:v1.cells.size = 1) (K:Value → WP):A0 PR (Instr.build 141 #[(1,v0),(2,v1)]) K = K (.agg (E7 (E7 #[(.int .i64 0),(.slice none 0 0),(.slice none 0 0)] 1 v0.cells.toList) 2 v1.cells.toList)):=E6 (pl:=#[(0,1),(1,1),(2,1)]) B9x (fun w=> by kernel_rfl) (by rw [B6 rfl h0 (by simp [B9]),B6 rfl h1 (by simp [B9])]; rfl)
@[simp] theorem D7a  (K:Value → WP):A0 PR (Instr.build 148 #[]) K = K (.agg #[(.int .i64 0),(.int .i64 0),(.int .i64 0)]):=E6 (pl:=#[(0,1),(1,1),(2,1)]) B1D (fun w=> by kernel_rfl) rfl
@[simp] theorem D14 {v0 v1:Value} (h0:v0.cells.size = 1) (h1:v1.cells.size = 1) (K:Value → WP):A0 PR (Instr.build 148 #[(0,v0),(1,v1)]) K = K (.agg (E7 (E7 #[(.int .i64 0),(.int .i64 0),(.int .i64 0)] 0 v0.cells.toList) 1 v1.cells.toList)):=E6 (pl:=#[(0,1),(1,1),(2,1)]) B1D (fun w=> by kernel_rfl) (by rw [B6 rfl h0 (by simp [B9]),B6 rfl h1 (by simp [B9])]; rfl)
@[simp] theorem D1m {v0 v1 v2:Value} (h0:v0.cells.size = 1) (h1:v1.cells.size = 1) (h2:v2.cells.size = 1) (K:Value → WP):A0 PR (Instr.build 148 #[(0,v0),(1,v1),(2,v2)]) K = K (.agg (E7 (E7 (E7 #[(.int .i64 0),(.int .i64 0),(.int .i64 0)] 0 v0.cells.toList) 1 v1.cells.toList) 2 v2.cells.toList)):=E6 (pl:=#[(0,1),(1,1),(2,1)]) B1D (fun w=> by kernel_rfl) (by rw [B6 rfl h0 (by simp [B9]),B6 rfl h1 (by simp [B9]),B6 rfl h2 (by simp [B9])]; rfl)
theorem B6s:TI PR 158 Tryz.t158.desc 2 16 (.agg #[(.int .i64 0),(.int .i64 0)]):=⟨Tryz.underlying158,Tryz.t158,by kernel_rfl,rfl,rfl,rfl⟩
@[simp] theorem D2a {v0 v1:Value} (h0:v0.cells.size = 1) (h1:v1.cells.size = 1) (K:Value → WP):A0 PR (Instr.build 195 #[(0,v0),(1,v1)]) K = K (.agg (E7 (E7 #[(.slice none 0 0),(.slice none 0 0)] 0 v0.cells.toList) 1 v1.cells.toList)):=E6 (pl:=#[(0,1),(1,1)]) A8N (fun w=> by kernel_rfl) (by rw [B6 rfl h0 (by simp [B9]),B6 rfl h1 (by simp [B9])]; rfl)
theorem D6N:TI PR 203 Tryz.t202.desc 17 136 (.agg #[(.int .i64 0),(.int .i64 0),(.int .i64 0),(.int .i64 0),(.int .i64 0),(.int .i64 0),(.int .i64 0),(.int .i64 0),(.int .i64 0),(.int .i64 0),(.int .i64 0),(.int .i64 0),(.int .i64 0),(.int .i64 0),(.int .i64 0),(.int .i64 0),(.int .i64 0)]):=⟨Tryz.underlying203,Tryz.t203,by kernel_rfl,rfl,rfl,rfl⟩
@[simp] theorem D57 {v0:Value} (h0:v0.cells.size = 1) (K:Value → WP):A0 PR (Instr.build 203 #[(1,v0)]) K = K (.agg (E7 #[(.int .i64 0),(.int .i64 0),(.int .i64 0),(.int .i64 0),(.int .i64 0),(.int .i64 0),(.int .i64 0),(.int .i64 0),(.int .i64 0),(.int .i64 0),(.int .i64 0),(.int .i64 0),(.int .i64 0),(.int .i64 0),(.int .i64 0),(.int .i64 0),(.int .i64 0)] 16 v0.cells.toList)):=E6 (pl:=#[(0,16),(16,1)]) D6N (fun w=> by kernel_rfl) (by rw [B6 rfl h0 (by simp [B9])]; rfl)
@[simp] theorem D1P {v0 v1 v2:Value} (h0:v0.cells.size = 1) (h1:v1.cells.size = 1) (h2:v2.cells.size = 1) (K:Value → WP):A0 PR (Instr.build 205 #[(0,v0),(1,v1),(2,v2)]) K = K (.agg (E7 (E7 (E7 #[(.string (ByteArray.mk #[])),(.int .i64 0),(.bool false),(.int .i64 0)] 0 v0.cells.toList) 1 v1.cells.toList) 2 v2.cells.toList)):=E6 (pl:=#[(0,1),(1,1),(2,1),(3,1)]) A8K (fun w=> by kernel_rfl) (by rw [B6 rfl h0 (by simp [B9]),B6 rfl h1 (by simp [B9]),B6 rfl h2 (by simp [B9])]; rfl)
@[simp] theorem D5E {v0:Value} (h0:v0.cells.size = 1) (K:Value → WP):A0 PR (Instr.build 205 #[(3,v0)]) K = K (.agg (E7 #[(.string (ByteArray.mk #[])),(.int .i64 0),(.bool false),(.int .i64 0)] 3 v0.cells.toList)):=E6 (pl:=#[(0,1),(1,1),(2,1),(3,1)]) A8K (fun w=> by kernel_rfl) (by rw [B6 rfl h0 (by simp [B9])]; rfl)
@[simp] theorem C8m {v0 v1 v2 v3:Value} (h0:v0.cells.size = 1) (h1:v1.cells.size = 1) (h2:v2.cells.size = 1) (h3:v3.cells.size = 1) (K:Value → WP):A0 PR (Instr.build 218 #[(0,v0),(1,v1),(2,v2),(3,v3)]) K = K (.agg (E7 (E7 (E7 (E7 #[(.int .i64 0),(.string (ByteArray.mk #[])),(.int .i64 0),(.int .i64 0)] 0 v0.cells.toList) 1 v1.cells.toList) 2 v2.cells.toList) 3 v3.cells.toList)):=E6 (pl:=#[(0,1),(1,1),(2,1),(3,1)]) A3K (fun w=> by kernel_rfl) (by rw [B6 rfl h0 (by simp [B9]),B6 rfl h1 (by simp [B9]),B6 rfl h2 (by simp [B9]),B6 rfl h3 (by simp [B9])]; rfl)
@[simp] theorem D5u {v0:Value} (h0:v0.cells.size = 1) (K:Value → WP):A0 PR (Instr.build 218 #[(0,v0)]) K = K (.agg (E7 #[(.int .i64 0),(.string (ByteArray.mk #[])),(.int .i64 0),(.int .i64 0)] 0 v0.cells.toList)):=E6 (pl:=#[(0,1),(1,1),(2,1),(3,1)]) A3K (fun w=> by kernel_rfl) (by rw [B6 rfl h0 (by simp [B9])]; rfl)
@[simp] theorem D7q  (K:Value → WP):A0 PR (Instr.build 224 #[]) K = K (.agg #[(.string (ByteArray.mk #[])),(.string (ByteArray.mk #[])),(.int .i64 0)]):=E6 (pl:=#[(0,1),(1,1),(2,1)]) B4f (fun w=> by kernel_rfl) rfl
@[simp] theorem D1p {v0 v1 v2:Value} (h0:v0.cells.size = 1) (h1:v1.cells.size = 1) (h2:v2.cells.size = 1) (K:Value → WP):A0 PR (Instr.build 224 #[(0,v0),(1,v1),(2,v2)]) K = K (.agg (E7 (E7 (E7 #[(.string (ByteArray.mk #[])),(.string (ByteArray.mk #[])),(.int .i64 0)] 0 v0.cells.toList) 1 v1.cells.toList) 2 v2.cells.toList)):=E6 (pl:=#[(0,1),(1,1),(2,1)]) B4f (fun w=> by kernel_rfl) (by rw [B6 rfl h0 (by simp [B9]),B6 rfl h1 (by simp [B9]),B6 rfl h2 (by simp [B9])]; rfl)
@[simp] theorem D79  (K:Value → WP):A0 PR (Instr.build 226 #[]) K = K (.agg #[(.string (ByteArray.mk #[])),(.string (ByteArray.mk #[])),(.int .i64 0)]):=E6 (pl:=#[(0,1),(1,1),(2,1)]) B4V (fun w=> by kernel_rfl) rfl
@[simp] theorem D1z {v0 v1 v2:Value} (h0:v0.cells.size = 1) (h1:v1.cells.size = 1) (h2:v2.cells.size = 1) (K:Value → WP):A0 PR (Instr.build 226 #[(0,v0),(1,v1),(2,v2)]) K = K (.agg (E7 (E7 (E7 #[(.string (ByteArray.mk #[])),(.string (ByteArray.mk #[])),(.int .i64 0)] 0 v0.cells.toList) 1 v1.cells.toList) 2 v2.cells.toList)):=E6 (pl:=#[(0,1),(1,1),(2,1)]) B4V (fun w=> by kernel_rfl) (by rw [B6 rfl h0 (by simp [B9]),B6 rfl h1 (by simp [B9]),B6 rfl h2 (by simp [B9])]; rfl)
theorem A6U:TI PR 23 Tryz.t22.desc 5 40 (.agg #[(.int .i64 0),(.int .i64 0),(.int .i64 0),(.int .i64 0),(.int .i64 0)]):=⟨Tryz.underlying23,Tryz.t23,by kernel_rfl,rfl,rfl,rfl⟩
@[simp] theorem C7q {v0 v1 v2 v3 v4:Value} (h0:v0.cells.size = 1) (h1:v1.cells.size = 1) (h2:v2.cells.size = 1) (h3:v3.cells.size = 1) (h4:v4.cells.size = 1) (K:Value → WP):A0 PR (Instr.build 23 #[(0,v0),(1,v1),(2,v2),(3,v3),(4,v4)]) K = K (.agg (E7 (E7 (E7 (E7 (E7 #[(.int .i64 0),(.int .i64 0),(.int .i64 0),(.int .i64 0),(.int .i64 0)] 0 v0.cells.toList) 1 v1.cells.toList) 2 v2.cells.toList) 3 v3.cells.toList) 4 v4.cells.toList)):=E6 (pl:=#[(0,1),(1,1),(2,1),(3,1),(4,1)]) A6U (fun w=> by kernel_rfl) (by rw [B6 rfl h0 (by simp [B9]),B6 rfl h1 (by simp [B9]),B6 rfl h2 (by simp [B9]),B6 rfl h3 (by simp [B9]),B6 rfl h4 (by simp [B9])]; rfl)
theorem D0D:TI PR 231 Tryz.t230.desc 1 24 (.agg #[(.slice none 0 0)]):=⟨Tryz.underlying231,Tryz.t231,by kernel_rfl,rfl,rfl,rfl⟩
@[simp] theorem D5p {v0:Value} (h0:v0.cells.size = 1) (K:Value → WP):A0 PR (Instr.build 231 #[(0,v0)]) K = K (.agg (E7 #[(.slice none 0 0)] 0 v0.cells.toList)):=E6 (pl:=#[(0,1)]) D0D (fun w=> by kernel_rfl) (by rw [B6 rfl h0 (by simp [B9])]; rfl)
@[simp] theorem D7e  (K:Value → WP):A0 PR (Instr.build 263 #[]) K = K (.agg #[]):=E6 (pl:=#[]) B4J (fun w=> by kernel_rfl) rfl
@[simp] theorem D6m  (K:Value → WP):A0 PR (Instr.build 270 #[]) K = K (.agg #[(.int .i64 0),(.slice none 0 0)]):=E6 (pl:=#[(0,1),(1,1)]) A72 (fun w=> by kernel_rfl) rfl
@[simp] theorem D2s {v0 v1:Value} (h0:v0.cells.size = 1) (h1:v1.cells.size = 1) (K:Value → WP):A0 PR (Instr.build 270 #[(0,v0),(1,v1)]) K = K (.agg (E7 (E7 #[(.int .i64 0),(.slice none 0 0)] 0 v0.cells.toList) 1 v1.cells.toList)):=E6 (pl:=#[(0,1),(1,1)]) A72 (fun w=> by kernel_rfl) (by rw [B6 rfl h0 (by simp [B9]),B6 rfl h1 (by simp [B9])]; rfl)
@[simp] theorem D5S {v0:Value} (h0:v0.cells.size = 1) (K:Value → WP):A0 PR (Instr.build 270 #[(0,v0)]) K = K (.agg (E7 #[(.int .i64 0),(.slice none 0 0)] 0 v0.cells.toList)):=E6 (pl:=#[(0,1),(1,1)]) A72 (fun w=> by kernel_rfl) (by rw [B6 rfl h0 (by simp [B9])]; rfl)
@[simp] theorem D3A {v0 v1:Value} (h0:v0.cells.size = 1) (h1:v1.cells.size = 1) (K:Value → WP):A0 PR (Instr.build 284 #[(0,v0),(1,v1)]) K = K (.agg (E7 (E7 #[(.int .u64 0),(.int .i64 0)] 0 v0.cells.toList) 1 v1.cells.toList)):=E6 (pl:=#[(0,1),(1,1)]) B06 (fun w=> by kernel_rfl) (by rw [B6 rfl h0 (by simp [B9]),B6 rfl h1 (by simp [B9])]; rfl)
@[simp] theorem D24 {v0 v1:Value} (h0:v0.cells.size = 1) (h1:v1.cells.size = 1) (K:Value → WP):A0 PR (Instr.build 290 #[(0,v0),(1,v1)]) K = K (.agg (E7 (E7 #[(.int .u64 0),(.int .i64 0)] 0 v0.cells.toList) 1 v1.cells.toList)):=E6 (pl:=#[(0,1),(1,1)]) A5p (fun w=> by kernel_rfl) (by rw [B6 rfl h0 (by simp [B9]),B6 rfl h1 (by simp [B9])]; rfl)
@[simp] theorem D21 {v0 v1:Value} (h0:v0.cells.size = 1) (h1:v1.cells.size = 1) (K:Value → WP):A0 PR (Instr.build 330 #[(0,v0),(1,v1)]) K = K (.agg (E7 (E7 #[.nilFunc,(.int .i64 0)] 0 v0.cells.toList) 1 v1.cells.toList)):=E6 (pl:=#[(0,1),(1,1)]) B4a (fun w=> by kernel_rfl) (by rw [B6 rfl h0 (by simp [B9]),B6 rfl h1 (by simp [B9])]; rfl)
theorem D0E:TI PR 333 Tryz.t133.desc 0 0 (.agg #[]):=⟨Tryz.underlying333,Tryz.t333,by kernel_rfl,rfl,rfl,rfl⟩
@[simp] theorem D7L  (K:Value → WP):A0 PR (Instr.build 333 #[]) K = K (.agg #[]):=E6 (pl:=#[]) D0E (fun w=> by kernel_rfl) rfl
theorem D0S:TI PR 334 Tryz.t133.desc 0 0 (.agg #[]):=⟨Tryz.underlying334,Tryz.t334,by kernel_rfl,rfl,rfl,rfl⟩
@[simp] theorem D63  (K:Value → WP):A0 PR (Instr.build 334 #[]) K = K (.agg #[]):=E6 (pl:=#[]) D0S (fun w=> by kernel_rfl) rfl
@[simp] theorem C5L {v0 v1 v2 v3 v4:Value} (h0:v0.cells.size = 1) (h1:v1.cells.size = 1) (h2:v2.cells.size = 1) (h3:v3.cells.size = 1) (h4:v4.cells.size = 1) (K:Value → WP):A0 PR (Instr.build 384 #[(0,v0),(1,v1),(2,v2),(3,v3),(4,v4)]) K = K (.agg (E7 (E7 (E7 (E7 (E7 #[(.string (ByteArray.mk #[])),(.string (ByteArray.mk #[])),(.string (ByteArray.mk #[])),(.int .i64 0),(.int .i64 0)] 0 v0.cells.toList) 1 v1.cells.toList) 2 v2.cells.toList) 3 v3.cells.toList) 4 v4.cells.toList)):=E6 (pl:=#[(0,1),(1,1),(2,1),(3,1),(4,1)]) A8c (fun w=> by kernel_rfl) (by rw [B6 rfl h0 (by simp [B9]),B6 rfl h1 (by simp [B9]),B6 rfl h2 (by simp [B9]),B6 rfl h3 (by simp [B9]),B6 rfl h4 (by simp [B9])]; rfl)
@[simp] theorem D3q {v0:Value} (h0:v0.cells.size = 1) (K:Value → WP):A0 PR (Instr.build 384 #[(4,v0)]) K = K (.agg (E7 #[(.string (ByteArray.mk #[])),(.string (ByteArray.mk #[])),(.string (ByteArray.mk #[])),(.int .i64 0),(.int .i64 0)] 4 v0.cells.toList)):=E6 (pl:=#[(0,1),(1,1),(2,1),(3,1),(4,1)]) A8c (fun w=> by kernel_rfl) (by rw [B6 rfl h0 (by simp [B9])]; rfl)
@[simp] theorem D7N  (K:Value → WP):A0 PR (Instr.build 386 #[]) K = K (.agg #[(.int .i64 0),(.int .i64 0),(.int .i64 0)]):=E6 (pl:=#[(0,1),(1,1),(2,1)]) B4W (fun w=> by kernel_rfl) rfl
@[simp] theorem D25 {v0 v1:Value} (h0:v0.cells.size = 1) (h1:v1.cells.size = 1) (K:Value → WP):A0 PR (Instr.build 386 #[(0,v0),(1,v1)]) K = K (.agg (E7 (E7 #[(.int .i64 0),(.int .i64 0),(.int .i64 0)] 0 v0.cells.toList) 1 v1.cells.toList)):=E6 (pl:=#[(0,1),(1,1),(2,1)]) B4W (fun w=> by kernel_rfl) (by rw [B6 rfl h0 (by simp [B9]),B6 rfl h1 (by simp [B9])]; rfl)
theorem B3M:TI PR 39 Tryz.t38.desc 11 120 (.agg #[(.int .i64 0),(.int .i64 0),(.int .i64 0),(.int .i64 0),(.int .i64 0),(.pointer none),(.pointer none),(.pointer none),(.slice none 0 0),(.slice none 0 0),(.int .i64 0)]):=⟨Tryz.underlying39,Tryz.t39,by kernel_rfl,rfl,rfl,rfl⟩
@[simp] theorem D6w {v0:Value} (h0:v0.cells.size = 5) (K:Value → WP):A0 PR (Instr.build 39 #[(0,v0)]) K = K (.agg (E7 #[(.int .i64 0),(.int .i64 0),(.int .i64 0),(.int .i64 0),(.int .i64 0),(.pointer none),(.pointer none),(.pointer none),(.slice none 0 0),(.slice none 0 0),(.int .i64 0)] 0 v0.cells.toList)):=E6 (pl:=#[(0,5),(5,1),(6,1),(7,1),(8,1),(9,1),(10,1)]) B3M (fun w=> by kernel_rfl) (by rw [B6 rfl h0 (by simp [B9])]; rfl)
@[simp] theorem D8J  (K:Value → WP):A0 PR (Instr.build 409 #[]) K = K (.agg #[(.string (ByteArray.mk #[])),(.string (ByteArray.mk #[])),(.int .i64 0)]):=E6 (pl:=#[(0,1),(1,1),(2,1)]) B4j (fun w=> by kernel_rfl) rfl
@[simp] theorem D1n {v0 v1 v2:Value} (h0:v0.cells.size = 1) (h1:v1.cells.size = 1) (h2:v2.cells.size = 1) (K:Value → WP):A0 PR (Instr.build 409 #[(0,v0),(1,v1),(2,v2)]) K = K (.agg (E7 (E7 (E7 #[(.string (ByteArray.mk #[])),(.string (ByteArray.mk #[])),(.int .i64 0)] 0 v0.cells.toList) 1 v1.cells.toList) 2 v2.cells.toList)):=E6 (pl:=#[(0,1),(1,1),(2,1)]) B4j (fun w=> by kernel_rfl) (by rw [B6 rfl h0 (by simp [B9]),B6 rfl h1 (by simp [B9]),B6 rfl h2 (by simp [B9])]; rfl)
@[simp] theorem D7D  (K:Value → WP):A0 PR (Instr.build 412 #[]) K = K (.agg #[(.string (ByteArray.mk #[])),(.string (ByteArray.mk #[])),(.int .i64 0)]):=E6 (pl:=#[(0,1),(1,1),(2,1)]) B4d (fun w=> by kernel_rfl) rfl
@[simp] theorem D1v {v0 v1 v2:Value} (h0:v0.cells.size = 1) (h1:v1.cells.size = 1) (h2:v2.cells.size = 1) (K:Value → WP):A0 PR (Instr.build 412 #[(0,v0),(1,v1),(2,v2)]) K = K (.agg (E7 (E7 (E7 #[(.string (ByteArray.mk #[])),(.string (ByteArray.mk #[])),(.int .i64 0)] 0 v0.cells.toList) 1 v1.cells.toList) 2 v2.cells.toList)):=E6 (pl:=#[(0,1),(1,1),(2,1)]) B4d (fun w=> by kernel_rfl) (by rw [B6 rfl h0 (by simp [B9]),B6 rfl h1 (by simp [B9]),B6 rfl h2 (by simp [B9])]; rfl)
@[simp] theorem D8w  (K:Value → WP):A0 PR (Instr.build 42 #[]) K = K (.agg #[(.bool false),(.bool false),(.bool false)]):=E6 (pl:=#[(0,1),(1,1),(2,1)]) B3L (fun w=> by kernel_rfl) rfl
@[simp] theorem D3Y {v0 v1:Value} (h0:v0.cells.size = 1) (h1:v1.cells.size = 1) (K:Value → WP):A0 PR (Instr.build 42 #[(0,v0),(1,v1)]) K = K (.agg (E7 (E7 #[(.bool false),(.bool false),(.bool false)] 0 v0.cells.toList) 1 v1.cells.toList)):=E6 (pl:=#[(0,1),(1,1),(2,1)]) B3L (fun w=> by kernel_rfl) (by rw [B6 rfl h0 (by simp [B9]),B6 rfl h1 (by simp [B9])]; rfl)
@[simp] theorem D7T {v0:Value} (h0:v0.cells.size = 1) (K:Value → WP):A0 PR (Instr.build 42 #[(0,v0)]) K = K (.agg (E7 #[(.bool false),(.bool false),(.bool false)] 0 v0.cells.toList)):=E6 (pl:=#[(0,1),(1,1),(2,1)]) B3L (fun w=> by kernel_rfl) (by rw [B6 rfl h0 (by simp [B9])]; rfl)
@[simp] theorem D7Q {v0:Value} (h0:v0.cells.size = 1) (K:Value → WP):A0 PR (Instr.build 42 #[(1,v0)]) K = K (.agg (E7 #[(.bool false),(.bool false),(.bool false)] 1 v0.cells.toList)):=E6 (pl:=#[(0,1),(1,1),(2,1)]) B3L (fun w=> by kernel_rfl) (by rw [B6 rfl h0 (by simp [B9])]; rfl)
@[simp] theorem D7F {v0:Value} (h0:v0.cells.size = 1) (K:Value → WP):A0 PR (Instr.build 42 #[(2,v0)]) K = K (.agg (E7 #[(.bool false),(.bool false),(.bool false)] 2 v0.cells.toList)):=E6 (pl:=#[(0,1),(1,1),(2,1)]) B3L (fun w=> by kernel_rfl) (by rw [B6 rfl h0 (by simp [B9])]; rfl)
@[simp] theorem D8q  (K:Value → WP):A0 PR (Instr.build 45 #[]) K = K (.agg #[(.int .i64 0),(.string (ByteArray.mk #[])),(.string (ByteArray.mk #[])),(.int .i64 0),(.int .i64 0),(.int .i64 0)]):=E6 (pl:=#[(0,1),(1,1),(2,1),(3,1),(4,1),(5,1)]) A6Z (fun w=> by kernel_rfl) rfl
@[simp] theorem C5K {v0 v1 v2 v3 v4 v5:Value} (h0:v0.cells.size = 1) (h1:v1.cells.size = 1) (h2:v2.cells.size = 1) (h3:v3.cells.size = 1) (h4:v4.cells.size = 1) (h5:v5.cells.size = 1) (K:Value → WP):A0 PR (Instr.build 45 #[(0,v0),(1,v1),(2,v2),(3,v3),(4,v4),(5,v5)]) K = K (.agg (E7 (E7 (E7 (E7 (E7 (E7 #[(.int .i64 0),(.string (ByteArray.mk #[])),(.string (ByteArray.mk #[])),(.int .i64 0),(.int .i64 0),(.int .i64 0)] 0 v0.cells.toList) 1 v1.cells.toList) 2 v2.cells.toList) 3 v3.cells.toList) 4 v4.cells.toList) 5 v5.cells.toList)):=E6 (pl:=#[(0,1),(1,1),(2,1),(3,1),(4,1),(5,1)]) A6Z (fun w=> by kernel_rfl) (by rw [B6 rfl h0 (by simp [B9]),B6 rfl h1 (by simp [B9]),B6 rfl h2 (by simp [B9]),B6 rfl h3 (by simp [B9]),B6 rfl h4 (by simp [B9]),B6 rfl h5 (by simp [B9])]; rfl)
@[simp] theorem D0N {v0 v1 v2 v3:Value} (h0:v0.cells.size = 1) (h1:v1.cells.size = 1) (h2:v2.cells.size = 1) (h3:v3.cells.size = 1) (K:Value → WP):A0 PR (Instr.build 45 #[(0,v0),(1,v1),(2,v2),(5,v3)]) K = K (.agg (E7 (E7 (E7 (E7 #[(.int .i64 0),(.string (ByteArray.mk #[])),(.string (ByteArray.mk #[])),(.int .i64 0),(.int .i64 0),(.int .i64 0)] 0 v0.cells.toList) 1 v1.cells.toList) 2 v2.cells.toList) 5 v3.cells.toList)):=E6 (pl:=#[(0,1),(1,1),(2,1),(3,1),(4,1),(5,1)]) A6Z (fun w=> by kernel_rfl) (by rw [B6 rfl h0 (by simp [B9]),B6 rfl h1 (by simp [B9]),B6 rfl h2 (by simp [B9]),B6 rfl h3 (by simp [B9])]; rfl)
@[simp] theorem D9G  (K:Value → WP):A0 PR (Instr.build 47 #[]) K = K (.agg #[(.int .i64 0),(.string (ByteArray.mk #[])),(.string (ByteArray.mk #[])),(.int .i64 0),(.int .i64 0),(.int .i64 0),(.int .i64 0)]):=E6 (pl:=#[(0,6),(6,1)]) B8E (fun w=> by kernel_rfl) rfl
@[simp] theorem D3g {v0 v1:Value} (h0:v0.cells.size = 6) (h1:v1.cells.size = 1) (K:Value → WP):A0 PR (Instr.build 47 #[(0,v0),(1,v1)]) K = K (.agg (E7 (E7 #[(.int .i64 0),(.string (ByteArray.mk #[])),(.string (ByteArray.mk #[])),(.int .i64 0),(.int .i64 0),(.int .i64 0),(.int .i64 0)] 0 v0.cells.toList) 6 v1.cells.toList)):=E6 (pl:=#[(0,6),(6,1)]) B8E (fun w=> by kernel_rfl) (by rw [B6 rfl h0 (by simp [B9]),B6 rfl h1 (by simp [B9])]; rfl)
@[simp] theorem D6y {v0:Value} (h0:v0.cells.size = 6) (K:Value → WP):A0 PR (Instr.build 47 #[(0,v0)]) K = K (.agg (E7 #[(.int .i64 0),(.string (ByteArray.mk #[])),(.string (ByteArray.mk #[])),(.int .i64 0),(.int .i64 0),(.int .i64 0),(.int .i64 0)] 0 v0.cells.toList)):=E6 (pl:=#[(0,6),(6,1)]) B8E (fun w=> by kernel_rfl) (by rw [B6 rfl h0 (by simp [B9])]; rfl)
@[simp] theorem D7H {v0:Value} (h0:v0.cells.size = 1) (K:Value → WP):A0 PR (Instr.build 55 #[(0,v0)]) K = K (.agg (E7 #[(.int .i64 0),(.int .i64 0),(.bool false),(.int .i64 0)] 0 v0.cells.toList)):=E6 (pl:=#[(0,1),(1,1),(2,1),(3,1)]) B3u (fun w=> by kernel_rfl) (by rw [B6 rfl h0 (by simp [B9])]; rfl)
@[simp] theorem D3d {v0 v1:Value} (h0:v0.cells.size = 1) (h1:v1.cells.size = 1) (K:Value → WP):A0 PR (Instr.build 55 #[(1,v0),(2,v1)]) K = K (.agg (E7 (E7 #[(.int .i64 0),(.int .i64 0),(.bool false),(.int .i64 0)] 1 v0.cells.toList) 2 v1.cells.toList)):=E6 (pl:=#[(0,1),(1,1),(2,1),(3,1)]) B3u (fun w=> by kernel_rfl) (by rw [B6 rfl h0 (by simp [B9]),B6 rfl h1 (by simp [B9])]; rfl)
@[simp] theorem D77 {v0:Value} (h0:v0.cells.size = 1) (K:Value → WP):A0 PR (Instr.build 55 #[(1,v0)]) K = K (.agg (E7 #[(.int .i64 0),(.int .i64 0),(.bool false),(.int .i64 0)] 1 v0.cells.toList)):=E6 (pl:=#[(0,1),(1,1),(2,1),(3,1)]) B3u (fun w=> by kernel_rfl) (by rw [B6 rfl h0 (by simp [B9])]; rfl)
theorem B7q:TI PR 79 Tryz.t78.desc 3 40 (.agg #[(.int .i64 0),(.int .i64 0),(.slice none 0 0)]):=⟨Tryz.underlying79,Tryz.t79,by kernel_rfl,rfl,rfl,rfl⟩
@[simp] theorem D8V  (K:Value → WP):A0 PR (Instr.build 82 #[]) K = K (.agg #[(.bool false),(.bool false),(.bool false)]):=E6 (pl:=#[(0,1),(1,1),(2,1)]) B7e (fun w=> by kernel_rfl) rfl
@[simp] theorem D3Z {v0 v1:Value} (h0:v0.cells.size = 1) (h1:v1.cells.size = 1) (K:Value → WP):A0 PR (Instr.build 82 #[(0,v0),(1,v1)]) K = K (.agg (E7 (E7 #[(.bool false),(.bool false),(.bool false)] 0 v0.cells.toList) 1 v1.cells.toList)):=E6 (pl:=#[(0,1),(1,1),(2,1)]) B7e (fun w=> by kernel_rfl) (by rw [B6 rfl h0 (by simp [B9]),B6 rfl h1 (by simp [B9])]; rfl)
@[simp] theorem D60 {v0:Value} (h0:v0.cells.size = 1) (K:Value → WP):A0 PR (Instr.build 82 #[(0,v0)]) K = K (.agg (E7 #[(.bool false),(.bool false),(.bool false)] 0 v0.cells.toList)):=E6 (pl:=#[(0,1),(1,1),(2,1)]) B7e (fun w=> by kernel_rfl) (by rw [B6 rfl h0 (by simp [B9])]; rfl)
@[simp] theorem D7P {v0:Value} (h0:v0.cells.size = 1) (K:Value → WP):A0 PR (Instr.build 82 #[(1,v0)]) K = K (.agg (E7 #[(.bool false),(.bool false),(.bool false)] 1 v0.cells.toList)):=E6 (pl:=#[(0,1),(1,1),(2,1)]) B7e (fun w=> by kernel_rfl) (by rw [B6 rfl h0 (by simp [B9])]; rfl)
@[simp] theorem D8F {v0:Value} (h0:v0.cells.size = 1) (K:Value → WP):A0 PR (Instr.build 82 #[(2,v0)]) K = K (.agg (E7 #[(.bool false),(.bool false),(.bool false)] 2 v0.cells.toList)):=E6 (pl:=#[(0,1),(1,1),(2,1)]) B7e (fun w=> by kernel_rfl) (by rw [B6 rfl h0 (by simp [B9])]; rfl)
theorem C4z:TI PR 228 Tryz.t228.desc 1 24 (.slice none 0 0):=⟨Tryz.underlying228,Tryz.t228,by kernel_rfl,rfl,rfl,rfl⟩
theorem C4x:TI PR 124 Tryz.t124.desc 1 8 .nilFunc:=⟨Tryz.underlying124,Tryz.t124,by kernel_rfl,rfl,rfl,rfl⟩
theorem C38:TI PR 259 Tryz.t259.desc 1 24 (.slice none 0 0):=⟨Tryz.underlying259,Tryz.t259,by kernel_rfl,rfl,rfl,rfl⟩
theorem ty5:TI PR 5 Tryz.t5.desc 1 1 (.int .u8 0):=⟨Tryz.underlying5,Tryz.t5,by kernel_rfl,rfl,rfl,rfl⟩
theorem C4a:TI PR 375 Tryz.t375.desc 1 24 (.slice none 0 0):=⟨Tryz.underlying375,Tryz.t375,by kernel_rfl,rfl,rfl,rfl⟩
theorem D0J:TI PR 242 Tryz.t242.desc 1 8 (.int .u64 0):=⟨Tryz.underlying242,Tryz.t242,by kernel_rfl,rfl,rfl,rfl⟩
@[simp] theorem D5V {k:IntKind} (a:Int) (K:Value → WP):A0 PR (convert 242 3 (.int k a)) K = K (.int .i64 (IntKind.i64.wrap a)):=A5H H4 D0J
@[simp] theorem D5L {k:IntKind} (a:Int) (K:Value → WP):A0 PR (convert 3 242 (.int k a)) K = K (.int .u64 (IntKind.u64.wrap a)):=A5H D0J H4
@[simp] theorem D6l {k:IntKind} (a:Int) (K:Value → WP):A0 PR (convert 3 89 (.int k a)) K = K (.int .u64 (IntKind.u64.wrap a)):=A5H B3F H4
theorem B5C {K:Value → WP} {w:World} {b o cap:Nat} {ns:List Int} (hr:P3 w b o (ns.map (Value.int .u8))):A6 PR (convert 301 9 (.slice (some ⟨b,o,none⟩) ns.length cap)) K w = K (.string (V2 ns)) w:=D5Y A5s ty5 k8 hr
@[simp] theorem D82 {k:IntKind} (a:Int) (K:Value → WP):A0 PR (convert 5 3 (.int k a)) K = K (.int .i64 (IntKind.i64.wrap a)):=A5H H4 ty5
@[simp] theorem D31 {k:IntKind} (a:Int) (K:Value → WP):A0 PR (convert 5 370 (.int k a)) K = K (.int .u64 (IntKind.u64.wrap a)):=A5H D0C ty5
@[simp] theorem D7z {k:IntKind} (a:Int) (K:Value → WP):A0 PR (convert 5 89 (.int k a)) K = K (.int .u64 (IntKind.u64.wrap a)):=A5H B3F ty5
@[simp] theorem D8C {k:IntKind} (a:Int) (K:Value → WP):A0 PR (convert 89 3 (.int k a)) K = K (.int .i64 (IntKind.i64.wrap a)):=A5H H4 B3F
@[simp] theorem D7A {k:IntKind} (a:Int) (K:Value → WP):A0 PR (convert 89 5 (.int k a)) K = K (.int .u8 (IntKind.u8.wrap a)):=A5H ty5 B3F
theorem C98:TI PR 131 Tryz.t131.desc 1 8 (.pointer none):=⟨Tryz.underlying131,Tryz.t131,by kernel_rfl,rfl,rfl,rfl⟩
@[simp] theorem C4T (a:Option Addr) (x y:Operand) (K:Value → WP) (w:World):A6 PR (H9 .eql 131 x y (.pointer a) (.pointer none)) K w = K (.bool a.isNone) w:=B4P C98
theorem C74:TI PR 26 Tryz.t26.desc 1 8 (.pointer none):=⟨Tryz.underlying26,Tryz.t26,by kernel_rfl,rfl,rfl,rfl⟩
@[simp] theorem C7N (a:Option Addr) (x y:Operand) (K:Value → WP) (w:World):A6 PR (H9 .eql 26 x y (.pointer a) (.pointer none)) K w = K (.bool a.isNone) w:=B4P C74
theorem D2D:TI PR 30 Tryz.t30.desc 1 8 (.pointer none):=⟨Tryz.underlying30,Tryz.t30,by kernel_rfl,rfl,rfl,rfl⟩
@[simp] theorem C6N (a:Option Addr) (x y:Operand) (K:Value → WP) (w:World):A6 PR (H9 .eql 30 x y (.pointer a) (.pointer none)) K w = K (.bool a.isNone) w:=B4P D2D
theorem B9z:TI PR 300 Tryz.t300.desc 1 8 (.pointer none):=⟨Tryz.underlying300,Tryz.t300,by kernel_rfl,rfl,rfl,rfl⟩
@[simp] theorem C5D (a:Option Addr) (x y:Operand) (K:Value → WP) (w:World):A6 PR (H9 .eql 300 x y (.pointer a) (.pointer none)) K w = K (.bool a.isNone) w:=B4P B9z
theorem ty4:TI PR 4 Tryz.t4.desc 1 1 (.bool false):=⟨Tryz.underlying4,Tryz.t4,by kernel_rfl,rfl,rfl,rfl⟩
@[simp] theorem C7u (a0 b0:Bool) (a1 b1:Bool) (a2 b2:Bool) (x y:Operand) (K:Value → WP) (w:World):A6 PR (H9 .eql 42 x y (.agg #[.bool a0,.bool a1,.bool a2]) (.agg #[.bool b0,.bool b1,.bool b2])) K w = K (.bool ((a0 == b0) && ((a1 == b1) && ((a2 == b2) && true)))) w:=D0B (by kernel_rfl) (A3g (e:=9999) B3L (by kernel_rfl) (Q1 rfl ty4 rfl rfl rfl (y8 (e:=9998) ty4) (Q1 rfl ty4 rfl rfl rfl (y8 (e:=9998) ty4) (Q1 rfl ty4 rfl rfl rfl (y8 (e:=9998) ty4) (A92)))))
@[simp] theorem C8M (a0 b0:Int) (a1 b1:Int) (a2 b2:Bool) (a3 b3:Int) (x y:Operand) (K:Value → WP) (w:World):A6 PR (H9 .eql 55 x y (.agg #[.int .i64 a0,.int .i64 a1,.bool a2,.int .i64 a3]) (.agg #[.int .i64 b0,.int .i64 b1,.bool b2,.int .i64 b3])) K w = K (.bool (decide (a0 = b0) && (decide (a1 = b1) && ((a2 == b2) && (decide (a3 = b3) && true))))) w:=D0B (by kernel_rfl) (A3g (e:=9999) B3u (by kernel_rfl) (Q1 rfl B23 rfl rfl rfl (A1A (e:=9998) B23) (Q1 rfl H4 rfl rfl rfl (A1A (e:=9998) H4) (Q1 rfl ty4 rfl rfl rfl (y8 (e:=9998) ty4) (Q1 rfl H4 rfl rfl rfl (A1A (e:=9998) H4) (A92))))))
@[simp] theorem C4k (a:Option Addr) (x y:Operand) (K:Value → WP) (w:World):A6 PR (H9 .neq 131 x y (.pointer a) (.pointer none)) K w = K (.bool (!a.isNone)) w:=A9v C98
@[simp] theorem C7p (a0 b0:Int) (a1 b1:ByteArray) (a2 b2:Int) (a3 b3:Int) (x y:Operand) (K:Value → WP) (w:World):A6 PR (H9 .neq 218 x y (.agg #[.int .i64 a0,.string a1,.int .i64 a2,.int .i64 a3]) (.agg #[.int .i64 b0,.string b1,.int .i64 b2,.int .i64 b3])) K w = K (.bool !(decide (a0 = b0) && ((a1 == b1) && (decide (a2 = b2) && (decide (a3 = b3) && true))))) w:=C36 (by kernel_rfl) (A3g (e:=9999) A3K (by kernel_rfl) (Q1 rfl H4 rfl rfl rfl (A1A (e:=9998) H4) (Q1 rfl k8 rfl rfl rfl (C4S (e:=9998) k8) (Q1 rfl H4 rfl rfl rfl (A1A (e:=9998) H4) (Q1 rfl H4 rfl rfl rfl (A1A (e:=9998) H4) (A92))))))
@[simp] theorem C7D (a:Option Addr) (x y:Operand) (K:Value → WP) (w:World):A6 PR (H9 .neq 26 x y (.pointer a) (.pointer none)) K w = K (.bool (!a.isNone)) w:=A9v C74
theorem C77:TI PR 33 Tryz.t33.desc 1 8 (.pointer none):=⟨Tryz.underlying33,Tryz.t33,by kernel_rfl,rfl,rfl,rfl⟩
@[simp] theorem C6g (a:Option Addr) (x y:Operand) (K:Value → WP) (w:World):A6 PR (H9 .neq 33 x y (.pointer a) (.pointer none)) K w = K (.bool (!a.isNone)) w:=A9v C77
theorem C8F:TI PR 34 Tryz.t34.desc 1 8 (.pointer none):=⟨Tryz.underlying34,Tryz.t34,by kernel_rfl,rfl,rfl,rfl⟩
@[simp] theorem C6d (a:Option Addr) (x y:Operand) (K:Value → WP) (w:World):A6 PR (H9 .neq 34 x y (.pointer a) (.pointer none)) K w = K (.bool (!a.isNone)) w:=A9v C8F
theorem C8d:TI PR 35 Tryz.t35.desc 1 8 (.pointer none):=⟨Tryz.underlying35,Tryz.t35,by kernel_rfl,rfl,rfl,rfl⟩
@[simp] theorem C5w (a:Option Addr) (x y:Operand) (K:Value → WP) (w:World):A6 PR (H9 .neq 35 x y (.pointer a) (.pointer none)) K w = K (.bool (!a.isNone)) w:=A9v C8d
@[simp] theorem C9N (a0 b0:Bool) (a1 b1:Bool) (a2 b2:Bool) (x y:Operand) (K:Value → WP) (w:World):A6 PR (H9 .neq 42 x y (.agg #[.bool a0,.bool a1,.bool a2]) (.agg #[.bool b0,.bool b1,.bool b2])) K w = K (.bool !((a0 == b0) && ((a1 == b1) && ((a2 == b2) && true)))) w:=C36 (by kernel_rfl) (A3g (e:=9999) B3L (by kernel_rfl) (Q1 rfl ty4 rfl rfl rfl (y8 (e:=9998) ty4) (Q1 rfl ty4 rfl rfl rfl (y8 (e:=9998) ty4) (Q1 rfl ty4 rfl rfl rfl (y8 (e:=9998) ty4) (A92)))))
@[simp] theorem C71 (a0 b0:Int) (a1 b1:Int) (a2 b2:Bool) (a3 b3:Int) (x y:Operand) (K:Value → WP) (w:World):A6 PR (H9 .neq 55 x y (.agg #[.int .i64 a0,.int .i64 a1,.bool a2,.int .i64 a3]) (.agg #[.int .i64 b0,.int .i64 b1,.bool b2,.int .i64 b3])) K w = K (.bool !(decide (a0 = b0) && (decide (a1 = b1) && ((a2 == b2) && (decide (a3 = b3) && true))))) w:=C36 (by kernel_rfl) (A3g (e:=9999) B3u (by kernel_rfl) (Q1 rfl B23 rfl rfl rfl (A1A (e:=9998) B23) (Q1 rfl H4 rfl rfl rfl (A1A (e:=9998) H4) (Q1 rfl ty4 rfl rfl rfl (y8 (e:=9998) ty4) (Q1 rfl H4 rfl rfl rfl (A1A (e:=9998) H4) (A92))))))
theorem C4d {cs:Array Value} {v:Value} (h:cs[1]? = some v) (K:Value → WP):A0 PR (Instr.field 205 (.agg cs) 1) K = K v:=C8W (i:=1) A8K rfl H4 rfl h
@[simp] theorem D5j (b o:Nat) (K:Value → WP):A0 PR (Instr.fieldAt 100 (.pointer (some ⟨b,o,none⟩)) 0) K = K (.pointer (some ⟨b,o,none⟩)):=B2 (i:=0) A56 rfl ⟨_,_,_,_,H4⟩ b o
@[simp] theorem D37 (b o:Nat) (K:Value → WP):A0 PR (Instr.fieldAt 100 (.pointer (some ⟨b,o,none⟩)) 1) K = K (.pointer (some ⟨b,o + 1,none⟩)):=B2 (i:=1) A56 rfl ⟨_,_,_,_,k8⟩ b o
@[simp] theorem D5b (b o:Nat) (K:Value → WP):A0 PR (Instr.fieldAt 100 (.pointer (some ⟨b,o,none⟩)) 2) K = K (.pointer (some ⟨b,o + 2,none⟩)):=B2 (i:=2) A56 rfl ⟨_,_,_,_,H4⟩ b o
@[simp] theorem D35 (b o:Nat) (K:Value → WP):A0 PR (Instr.fieldAt 100 (.pointer (some ⟨b,o,none⟩)) 3) K = K (.pointer (some ⟨b,o + 3,none⟩)):=B2 (i:=3) A56 rfl ⟨_,_,_,_,H4⟩ b o
@[simp] theorem D4N (b o:Nat) (K:Value → WP):A0 PR (Instr.fieldAt 100 (.pointer (some ⟨b,o,none⟩)) 4) K = K (.pointer (some ⟨b,o + 4,none⟩)):=B2 (i:=4) A56 rfl ⟨_,_,_,_,H4⟩ b o
@[simp] theorem D6H (b o:Nat) (K:Value → WP):A0 PR (Instr.fieldAt 100 (.pointer (some ⟨b,o,none⟩)) 5) K = K (.pointer (some ⟨b,o + 5,none⟩)):=B2 (i:=5) A56 rfl ⟨_,_,_,_,H4⟩ b o
@[simp] theorem D4u (b o:Nat) (K:Value → WP):A0 PR (Instr.fieldAt 100 (.pointer (some ⟨b,o,none⟩)) 6) K = K (.pointer (some ⟨b,o + 6,none⟩)):=B2 (i:=6) A56 rfl ⟨_,_,_,_,B05⟩ b o
@[simp] theorem D36 (b o:Nat) (K:Value → WP):A0 PR (Instr.fieldAt 100 (.pointer (some ⟨b,o,none⟩)) 7) K = K (.pointer (some ⟨b,o + 7,none⟩)):=B2 (i:=7) A56 rfl ⟨_,_,_,_,B3u⟩ b o
@[simp] theorem D5U (b o:Nat) (K:Value → WP):A0 PR (Instr.fieldAt 106 (.pointer (some ⟨b,o,none⟩)) 0) K = K (.pointer (some ⟨b,o,none⟩)):=B2 (i:=0) A3n rfl ⟨_,_,_,_,A6U⟩ b o
@[simp] theorem D6V (b o:Nat) (K:Value → WP):A0 PR (Instr.fieldAt 106 (.pointer (some ⟨b,o,none⟩)) 1) K = K (.pointer (some ⟨b,o + 5,none⟩)):=B2 (i:=1) A3n rfl ⟨_,_,_,_,H4⟩ b o
@[simp] theorem D5x (b o:Nat) (K:Value → WP):A0 PR (Instr.fieldAt 106 (.pointer (some ⟨b,o,none⟩)) 2) K = K (.pointer (some ⟨b,o + 6,none⟩)):=B2 (i:=2) A3n rfl ⟨_,_,_,_,H4⟩ b o
@[simp] theorem D52 (b o:Nat) (K:Value → WP):A0 PR (Instr.fieldAt 106 (.pointer (some ⟨b,o,none⟩)) 3) K = K (.pointer (some ⟨b,o + 7,none⟩)):=B2 (i:=3) A3n rfl ⟨_,_,_,_,A6x⟩ b o
@[simp] theorem D4f (b o:Nat) (K:Value → WP):A0 PR (Instr.fieldAt 106 (.pointer (some ⟨b,o,none⟩)) 4) K = K (.pointer (some ⟨b,o + 8,none⟩)):=B2 (i:=4) A3n rfl ⟨_,_,_,_,A6x⟩ b o
@[simp] theorem D6Y (b o:Nat) (K:Value → WP):A0 PR (Instr.fieldAt 106 (.pointer (some ⟨b,o,none⟩)) 5) K = K (.pointer (some ⟨b,o + 9,none⟩)):=B2 (i:=5) A3n rfl ⟨_,_,_,_,B6d⟩ b o
@[simp] theorem D3p (b o:Nat) (K:Value → WP):A0 PR (Instr.fieldAt 106 (.pointer (some ⟨b,o,none⟩)) 6) K = K (.pointer (some ⟨b,o + 10,none⟩)):=B2 (i:=6) A3n rfl ⟨_,_,_,_,C4c⟩ b o
@[simp] theorem D4c (b o:Nat) (K:Value → WP):A0 PR (Instr.fieldAt 106 (.pointer (some ⟨b,o,none⟩)) 7) K = K (.pointer (some ⟨b,o + 11,none⟩)):=B2 (i:=7) A3n rfl ⟨_,_,_,_,B78⟩ b o
@[simp] theorem D6K (b o:Nat) (K:Value → WP):A0 PR (Instr.fieldAt 106 (.pointer (some ⟨b,o,none⟩)) 8) K = K (.pointer (some ⟨b,o + 12,none⟩)):=B2 (i:=8) A3n rfl ⟨_,_,_,_,A6x⟩ b o
@[simp] theorem D6F (b o:Nat) (K:Value → WP):A0 PR (Instr.fieldAt 106 (.pointer (some ⟨b,o,none⟩)) 9) K = K (.pointer (some ⟨b,o + 13,none⟩)):=B2 (i:=9) A3n rfl ⟨_,_,_,_,H4⟩ b o
@[simp] theorem D5f (b o:Nat) (K:Value → WP):A0 PR (Instr.fieldAt 128 (.pointer (some ⟨b,o,none⟩)) 0) K = K (.pointer (some ⟨b,o,none⟩)):=B2 (i:=0) B4b rfl ⟨_,_,_,_,k8⟩ b o
@[simp] theorem D5G (b o:Nat) (K:Value → WP):A0 PR (Instr.fieldAt 128 (.pointer (some ⟨b,o,none⟩)) 1) K = K (.pointer (some ⟨b,o + 1,none⟩)):=B2 (i:=1) B4b rfl ⟨_,_,_,_,k8⟩ b o
@[simp] theorem D5F (b o:Nat) (K:Value → WP):A0 PR (Instr.fieldAt 128 (.pointer (some ⟨b,o,none⟩)) 2) K = K (.pointer (some ⟨b,o + 2,none⟩)):=B2 (i:=2) B4b rfl ⟨_,_,_,_,H4⟩ b o
@[simp] theorem D4Z (b o:Nat) (K:Value → WP):A0 PR (Instr.fieldAt 128 (.pointer (some ⟨b,o,none⟩)) 3) K = K (.pointer (some ⟨b,o + 3,none⟩)):=B2 (i:=3) B4b rfl ⟨_,_,_,_,ty4⟩ b o
@[simp] theorem D4H (b o:Nat) (K:Value → WP):A0 PR (Instr.fieldAt 130 (.pointer (some ⟨b,o,none⟩)) 0) K = K (.pointer (some ⟨b,o,none⟩)):=B2 (i:=0) A51 rfl ⟨_,_,_,_,B4b⟩ b o
@[simp] theorem D43 (b o:Nat) (K:Value → WP):A0 PR (Instr.fieldAt 130 (.pointer (some ⟨b,o,none⟩)) 1) K = K (.pointer (some ⟨b,o + 4,none⟩)):=B2 (i:=1) A51 rfl ⟨_,_,_,_,H4⟩ b o
@[simp] theorem D3l (b o:Nat) (K:Value → WP):A0 PR (Instr.fieldAt 130 (.pointer (some ⟨b,o,none⟩)) 2) K = K (.pointer (some ⟨b,o + 5,none⟩)):=B2 (i:=2) A51 rfl ⟨_,_,_,_,H4⟩ b o
@[simp] theorem D4z (b o:Nat) (K:Value → WP):A0 PR (Instr.fieldAt 130 (.pointer (some ⟨b,o,none⟩)) 3) K = K (.pointer (some ⟨b,o + 6,none⟩)):=B2 (i:=3) A51 rfl ⟨_,_,_,_,H4⟩ b o
@[simp] theorem D4M (b o:Nat) (K:Value → WP):A0 PR (Instr.fieldAt 130 (.pointer (some ⟨b,o,none⟩)) 4) K = K (.pointer (some ⟨b,o + 7,none⟩)):=B2 (i:=4) A51 rfl ⟨_,_,_,_,H4⟩ b o
@[simp] theorem D4k (b o:Nat) (K:Value → WP):A0 PR (Instr.fieldAt 130 (.pointer (some ⟨b,o,none⟩)) 5) K = K (.pointer (some ⟨b,o + 8,none⟩)):=B2 (i:=5) A51 rfl ⟨_,_,_,_,H4⟩ b o
@[simp] theorem D4D (b o:Nat) (K:Value → WP):A0 PR (Instr.fieldAt 130 (.pointer (some ⟨b,o,none⟩)) 6) K = K (.pointer (some ⟨b,o + 9,none⟩)):=B2 (i:=6) A51 rfl ⟨_,_,_,_,B05⟩ b o
@[simp] theorem D5c (b o:Nat) (K:Value → WP):A0 PR (Instr.fieldAt 130 (.pointer (some ⟨b,o,none⟩)) 7) K = K (.pointer (some ⟨b,o + 10,none⟩)):=B2 (i:=7) A51 rfl ⟨_,_,_,_,B3u⟩ b o
theorem D0G:TI PR 137 Tryz.t136.desc 1 8 (.agg #[(.int .i64 0)]):=⟨Tryz.underlying137,Tryz.t137,by kernel_rfl,rfl,rfl,rfl⟩
theorem ty2:TI PR 2 Tryz.t2.desc 1 8 (.int .i64 0):=⟨Tryz.underlying2,Tryz.t2,by kernel_rfl,rfl,rfl,rfl⟩
@[simp] theorem D44 (b o:Nat) (K:Value → WP):A0 PR (Instr.fieldAt 137 (.pointer (some ⟨b,o,none⟩)) 2) K = K (.pointer (some ⟨b,o,none⟩)):=B2 (i:=2) D0G rfl ⟨_,_,_,_,ty2⟩ b o
theorem C94:TI PR 139 Tryz.t138.desc 1 8 (.agg #[(.int .i64 0)]):=⟨Tryz.underlying139,Tryz.t139,by kernel_rfl,rfl,rfl,rfl⟩
@[simp] theorem D6M (b o:Nat) (K:Value → WP):A0 PR (Instr.fieldAt 139 (.pointer (some ⟨b,o,none⟩)) 0) K = K (.pointer (some ⟨b,o,none⟩)):=B2 (i:=0) C94 rfl ⟨_,_,_,_,D0G⟩ b o
@[simp] theorem D30 (b o:Nat) (K:Value → WP):A0 PR (Instr.fieldAt 141 (.pointer (some ⟨b,o,none⟩)) 0) K = K (.pointer (some ⟨b,o,none⟩)):=B2 (i:=0) B9x rfl ⟨_,_,_,_,C94⟩ b o
@[simp] theorem D6B (b o:Nat) (K:Value → WP):A0 PR (Instr.fieldAt 141 (.pointer (some ⟨b,o,none⟩)) 1) K = K (.pointer (some ⟨b,o + 1,none⟩)):=B2 (i:=1) B9x rfl ⟨_,_,_,_,A6x⟩ b o
@[simp] theorem D4Q (b o:Nat) (K:Value → WP):A0 PR (Instr.fieldAt 141 (.pointer (some ⟨b,o,none⟩)) 2) K = K (.pointer (some ⟨b,o + 2,none⟩)):=B2 (i:=2) B9x rfl ⟨_,_,_,_,A6x⟩ b o
@[simp] theorem D5C (b o:Nat) (K:Value → WP):A0 PR (Instr.fieldAt 148 (.pointer (some ⟨b,o,none⟩)) 0) K = K (.pointer (some ⟨b,o,none⟩)):=B2 (i:=0) B1D rfl ⟨_,_,_,_,H4⟩ b o
@[simp] theorem D5n (b o:Nat) (K:Value → WP):A0 PR (Instr.fieldAt 148 (.pointer (some ⟨b,o,none⟩)) 1) K = K (.pointer (some ⟨b,o + 1,none⟩)):=B2 (i:=1) B1D rfl ⟨_,_,_,_,H4⟩ b o
@[simp] theorem D3m (b o:Nat) (K:Value → WP):A0 PR (Instr.fieldAt 148 (.pointer (some ⟨b,o,none⟩)) 2) K = K (.pointer (some ⟨b,o + 2,none⟩)):=B2 (i:=2) B1D rfl ⟨_,_,_,_,H4⟩ b o
@[simp] theorem D5P (b o:Nat) (K:Value → WP):A0 PR (Instr.fieldAt 155 (.pointer (some ⟨b,o,none⟩)) 0) K = K (.pointer (some ⟨b,o,none⟩)):=B2 (i:=0) B4S rfl ⟨_,_,_,_,H4⟩ b o
@[simp] theorem D6S (b o:Nat) (K:Value → WP):A0 PR (Instr.fieldAt 155 (.pointer (some ⟨b,o,none⟩)) 1) K = K (.pointer (some ⟨b,o + 1,none⟩)):=B2 (i:=1) B4S rfl ⟨_,_,_,_,H4⟩ b o
theorem C4n:TI PR 192 Tryz.t58.desc 1 24 (.slice none 0 0):=⟨Tryz.underlying192,Tryz.t192,by kernel_rfl,rfl,rfl,rfl⟩
@[simp] theorem D5J (b o:Nat) (K:Value → WP):A0 PR (Instr.fieldAt 195 (.pointer (some ⟨b,o,none⟩)) 0) K = K (.pointer (some ⟨b,o,none⟩)):=B2 (i:=0) A8N rfl ⟨_,_,_,_,C4n⟩ b o
@[simp] theorem D5H (b o:Nat) (K:Value → WP):A0 PR (Instr.fieldAt 195 (.pointer (some ⟨b,o,none⟩)) 1) K = K (.pointer (some ⟨b,o + 1,none⟩)):=B2 (i:=1) A8N rfl ⟨_,_,_,_,B1W⟩ b o
@[simp] theorem D54 (b o:Nat) (K:Value → WP):A0 PR (Instr.fieldAt 205 (.pointer (some ⟨b,o,none⟩)) 0) K = K (.pointer (some ⟨b,o,none⟩)):=B2 (i:=0) A8K rfl ⟨_,_,_,_,k8⟩ b o
@[simp] theorem D5r (b o:Nat) (K:Value → WP):A0 PR (Instr.fieldAt 205 (.pointer (some ⟨b,o,none⟩)) 1) K = K (.pointer (some ⟨b,o + 1,none⟩)):=B2 (i:=1) A8K rfl ⟨_,_,_,_,H4⟩ b o
@[simp] theorem D5A (b o:Nat) (K:Value → WP):A0 PR (Instr.fieldAt 205 (.pointer (some ⟨b,o,none⟩)) 2) K = K (.pointer (some ⟨b,o + 2,none⟩)):=B2 (i:=2) A8K rfl ⟨_,_,_,_,ty4⟩ b o
@[simp] theorem D53 (b o:Nat) (K:Value → WP):A0 PR (Instr.fieldAt 205 (.pointer (some ⟨b,o,none⟩)) 3) K = K (.pointer (some ⟨b,o + 3,none⟩)):=B2 (i:=3) A8K rfl ⟨_,_,_,_,B23⟩ b o
@[simp] theorem D4v (b o:Nat) (K:Value → WP):A0 PR (Instr.fieldAt 218 (.pointer (some ⟨b,o,none⟩)) 0) K = K (.pointer (some ⟨b,o,none⟩)):=B2 (i:=0) A3K rfl ⟨_,_,_,_,H4⟩ b o
@[simp] theorem D3n (b o:Nat) (K:Value → WP):A0 PR (Instr.fieldAt 218 (.pointer (some ⟨b,o,none⟩)) 1) K = K (.pointer (some ⟨b,o + 1,none⟩)):=B2 (i:=1) A3K rfl ⟨_,_,_,_,k8⟩ b o
@[simp] theorem D3u (b o:Nat) (K:Value → WP):A0 PR (Instr.fieldAt 218 (.pointer (some ⟨b,o,none⟩)) 2) K = K (.pointer (some ⟨b,o + 2,none⟩)):=B2 (i:=2) A3K rfl ⟨_,_,_,_,H4⟩ b o
@[simp] theorem D45 (b o:Nat) (K:Value → WP):A0 PR (Instr.fieldAt 218 (.pointer (some ⟨b,o,none⟩)) 3) K = K (.pointer (some ⟨b,o + 3,none⟩)):=B2 (i:=3) A3K rfl ⟨_,_,_,_,H4⟩ b o
@[simp] theorem D4g (b o:Nat) (K:Value → WP):A0 PR (Instr.fieldAt 224 (.pointer (some ⟨b,o,none⟩)) 0) K = K (.pointer (some ⟨b,o,none⟩)):=B2 (i:=0) B4f rfl ⟨_,_,_,_,k8⟩ b o
@[simp] theorem D42 (b o:Nat) (K:Value → WP):A0 PR (Instr.fieldAt 224 (.pointer (some ⟨b,o,none⟩)) 1) K = K (.pointer (some ⟨b,o + 1,none⟩)):=B2 (i:=1) B4f rfl ⟨_,_,_,_,k8⟩ b o
@[simp] theorem D3z (b o:Nat) (K:Value → WP):A0 PR (Instr.fieldAt 224 (.pointer (some ⟨b,o,none⟩)) 2) K = K (.pointer (some ⟨b,o + 2,none⟩)):=B2 (i:=2) B4f rfl ⟨_,_,_,_,H4⟩ b o
@[simp] theorem D4P (b o:Nat) (K:Value → WP):A0 PR (Instr.fieldAt 226 (.pointer (some ⟨b,o,none⟩)) 0) K = K (.pointer (some ⟨b,o,none⟩)):=B2 (i:=0) B4V rfl ⟨_,_,_,_,k8⟩ b o
@[simp] theorem D4L (b o:Nat) (K:Value → WP):A0 PR (Instr.fieldAt 226 (.pointer (some ⟨b,o,none⟩)) 1) K = K (.pointer (some ⟨b,o + 1,none⟩)):=B2 (i:=1) B4V rfl ⟨_,_,_,_,k8⟩ b o
@[simp] theorem D4m (b o:Nat) (K:Value → WP):A0 PR (Instr.fieldAt 226 (.pointer (some ⟨b,o,none⟩)) 2) K = K (.pointer (some ⟨b,o + 2,none⟩)):=B2 (i:=2) B4V rfl ⟨_,_,_,_,H4⟩ b o
@[simp] theorem D76 (b o:Nat) (K:Value → WP):A0 PR (Instr.fieldAt 23 (.pointer (some ⟨b,o,none⟩)) 0) K = K (.pointer (some ⟨b,o,none⟩)):=B2 (i:=0) A6U rfl ⟨_,_,_,_,H4⟩ b o
@[simp] theorem D6k (b o:Nat) (K:Value → WP):A0 PR (Instr.fieldAt 23 (.pointer (some ⟨b,o,none⟩)) 1) K = K (.pointer (some ⟨b,o + 1,none⟩)):=B2 (i:=1) A6U rfl ⟨_,_,_,_,H4⟩ b o
@[simp] theorem D6v (b o:Nat) (K:Value → WP):A0 PR (Instr.fieldAt 23 (.pointer (some ⟨b,o,none⟩)) 2) K = K (.pointer (some ⟨b,o + 2,none⟩)):=B2 (i:=2) A6U rfl ⟨_,_,_,_,H4⟩ b o
@[simp] theorem D6s (b o:Nat) (K:Value → WP):A0 PR (Instr.fieldAt 23 (.pointer (some ⟨b,o,none⟩)) 3) K = K (.pointer (some ⟨b,o + 3,none⟩)):=B2 (i:=3) A6U rfl ⟨_,_,_,_,H4⟩ b o
@[simp] theorem D7Y (b o:Nat) (K:Value → WP):A0 PR (Instr.fieldAt 23 (.pointer (some ⟨b,o,none⟩)) 4) K = K (.pointer (some ⟨b,o + 4,none⟩)):=B2 (i:=4) A6U rfl ⟨_,_,_,_,H4⟩ b o
theorem B67:TI PR 229 Tryz.t229.desc 1 24 (.slice none 0 0):=⟨Tryz.underlying229,Tryz.t229,by kernel_rfl,rfl,rfl,rfl⟩
@[simp] theorem D59 (b o:Nat) (K:Value → WP):A0 PR (Instr.fieldAt 231 (.pointer (some ⟨b,o,none⟩)) 0) K = K (.pointer (some ⟨b,o,none⟩)):=B2 (i:=0) D0D rfl ⟨_,_,_,_,B67⟩ b o
@[simp] theorem D5N (b o:Nat) (K:Value → WP):A0 PR (Instr.fieldAt 270 (.pointer (some ⟨b,o,none⟩)) 0) K = K (.pointer (some ⟨b,o,none⟩)):=B2 (i:=0) A72 rfl ⟨_,_,_,_,H4⟩ b o
@[simp] theorem D6W (b o:Nat) (K:Value → WP):A0 PR (Instr.fieldAt 270 (.pointer (some ⟨b,o,none⟩)) 1) K = K (.pointer (some ⟨b,o + 1,none⟩)):=B2 (i:=1) A72 rfl ⟨_,_,_,_,B5d⟩ b o
@[simp] theorem D32 (b o:Nat) (K:Value → WP):A0 PR (Instr.fieldAt 284 (.pointer (some ⟨b,o,none⟩)) 0) K = K (.pointer (some ⟨b,o,none⟩)):=B2 (i:=0) B06 rfl ⟨_,_,_,_,B3F⟩ b o
@[simp] theorem D49 (b o:Nat) (K:Value → WP):A0 PR (Instr.fieldAt 284 (.pointer (some ⟨b,o,none⟩)) 1) K = K (.pointer (some ⟨b,o + 1,none⟩)):=B2 (i:=1) B06 rfl ⟨_,_,_,_,H4⟩ b o
@[simp] theorem D46 (b o:Nat) (K:Value → WP):A0 PR (Instr.fieldAt 290 (.pointer (some ⟨b,o,none⟩)) 0) K = K (.pointer (some ⟨b,o,none⟩)):=B2 (i:=0) A5p rfl ⟨_,_,_,_,B3F⟩ b o
@[simp] theorem D4d (b o:Nat) (K:Value → WP):A0 PR (Instr.fieldAt 290 (.pointer (some ⟨b,o,none⟩)) 1) K = K (.pointer (some ⟨b,o + 1,none⟩)):=B2 (i:=1) A5p rfl ⟨_,_,_,_,H4⟩ b o
@[simp] theorem D4S (b o:Nat) (K:Value → WP):A0 PR (Instr.fieldAt 303 (.pointer (some ⟨b,o,none⟩)) 0) K = K (.pointer (some ⟨b,o,none⟩)):=B2 (i:=0) B4Z rfl ⟨_,_,_,_,B9z⟩ b o
@[simp] theorem D6E (b o:Nat) (K:Value → WP):A0 PR (Instr.fieldAt 303 (.pointer (some ⟨b,o,none⟩)) 1) K = K (.pointer (some ⟨b,o + 1,none⟩)):=B2 (i:=1) B4Z rfl ⟨_,_,_,_,A5s⟩ b o
@[simp] theorem D6L (b o:Nat) (K:Value → WP):A0 PR (Instr.fieldAt 305 (.pointer (some ⟨b,o,none⟩)) 0) K = K (.pointer (some ⟨b,o,none⟩)):=B2 (i:=0) D0c rfl ⟨_,_,_,_,B4Z⟩ b o
theorem D2q:TI PR 24 Tryz.t24.desc 1 8 .nilFunc:=⟨Tryz.underlying24,Tryz.t24,by kernel_rfl,rfl,rfl,rfl⟩
@[simp] theorem D4K (b o:Nat) (K:Value → WP):A0 PR (Instr.fieldAt 330 (.pointer (some ⟨b,o,none⟩)) 0) K = K (.pointer (some ⟨b,o,none⟩)):=B2 (i:=0) B4a rfl ⟨_,_,_,_,D2q⟩ b o
@[simp] theorem D4Y (b o:Nat) (K:Value → WP):A0 PR (Instr.fieldAt 330 (.pointer (some ⟨b,o,none⟩)) 1) K = K (.pointer (some ⟨b,o + 1,none⟩)):=B2 (i:=1) B4a rfl ⟨_,_,_,_,B23⟩ b o
@[simp] theorem D3y (b o:Nat) (K:Value → WP):A0 PR (Instr.fieldAt 384 (.pointer (some ⟨b,o,none⟩)) 0) K = K (.pointer (some ⟨b,o,none⟩)):=B2 (i:=0) A8c rfl ⟨_,_,_,_,k8⟩ b o
@[simp] theorem D4r (b o:Nat) (K:Value → WP):A0 PR (Instr.fieldAt 384 (.pointer (some ⟨b,o,none⟩)) 1) K = K (.pointer (some ⟨b,o + 1,none⟩)):=B2 (i:=1) A8c rfl ⟨_,_,_,_,k8⟩ b o
@[simp] theorem D4V (b o:Nat) (K:Value → WP):A0 PR (Instr.fieldAt 384 (.pointer (some ⟨b,o,none⟩)) 2) K = K (.pointer (some ⟨b,o + 2,none⟩)):=B2 (i:=2) A8c rfl ⟨_,_,_,_,k8⟩ b o
@[simp] theorem D5D (b o:Nat) (K:Value → WP):A0 PR (Instr.fieldAt 384 (.pointer (some ⟨b,o,none⟩)) 3) K = K (.pointer (some ⟨b,o + 3,none⟩)):=B2 (i:=3) A8c rfl ⟨_,_,_,_,H4⟩ b o
@[simp] theorem D5w (b o:Nat) (K:Value → WP):A0 PR (Instr.fieldAt 384 (.pointer (some ⟨b,o,none⟩)) 4) K = K (.pointer (some ⟨b,o + 4,none⟩)):=B2 (i:=4) A8c rfl ⟨_,_,_,_,B23⟩ b o
@[simp] theorem D5M (b o:Nat) (K:Value → WP):A0 PR (Instr.fieldAt 386 (.pointer (some ⟨b,o,none⟩)) 0) K = K (.pointer (some ⟨b,o,none⟩)):=B2 (i:=0) B4W rfl ⟨_,_,_,_,H4⟩ b o
@[simp] theorem D4q (b o:Nat) (K:Value → WP):A0 PR (Instr.fieldAt 386 (.pointer (some ⟨b,o,none⟩)) 1) K = K (.pointer (some ⟨b,o + 1,none⟩)):=B2 (i:=1) B4W rfl ⟨_,_,_,_,H4⟩ b o
@[simp] theorem D6P (b o:Nat) (K:Value → WP):A0 PR (Instr.fieldAt 386 (.pointer (some ⟨b,o,none⟩)) 2) K = K (.pointer (some ⟨b,o + 2,none⟩)):=B2 (i:=2) B4W rfl ⟨_,_,_,_,H4⟩ b o
@[simp] theorem D6z (b o:Nat) (K:Value → WP):A0 PR (Instr.fieldAt 39 (.pointer (some ⟨b,o,none⟩)) 0) K = K (.pointer (some ⟨b,o,none⟩)):=B2 (i:=0) B3M rfl ⟨_,_,_,_,A6U⟩ b o
@[simp] theorem D7l (b o:Nat) (K:Value → WP):A0 PR (Instr.fieldAt 39 (.pointer (some ⟨b,o,none⟩)) 1) K = K (.pointer (some ⟨b,o + 5,none⟩)):=B2 (i:=1) B3M rfl ⟨_,_,_,_,C77⟩ b o
@[simp] theorem D7v (b o:Nat) (K:Value → WP):A0 PR (Instr.fieldAt 39 (.pointer (some ⟨b,o,none⟩)) 2) K = K (.pointer (some ⟨b,o + 6,none⟩)):=B2 (i:=2) B3M rfl ⟨_,_,_,_,C8F⟩ b o
@[simp] theorem D7S (b o:Nat) (K:Value → WP):A0 PR (Instr.fieldAt 39 (.pointer (some ⟨b,o,none⟩)) 3) K = K (.pointer (some ⟨b,o + 7,none⟩)):=B2 (i:=3) B3M rfl ⟨_,_,_,_,C8d⟩ b o
@[simp] theorem D7B (b o:Nat) (K:Value → WP):A0 PR (Instr.fieldAt 39 (.pointer (some ⟨b,o,none⟩)) 4) K = K (.pointer (some ⟨b,o + 8,none⟩)):=B2 (i:=4) B3M rfl ⟨_,_,_,_,B78⟩ b o
@[simp] theorem D65 (b o:Nat) (K:Value → WP):A0 PR (Instr.fieldAt 39 (.pointer (some ⟨b,o,none⟩)) 5) K = K (.pointer (some ⟨b,o + 9,none⟩)):=B2 (i:=5) B3M rfl ⟨_,_,_,_,A6x⟩ b o
@[simp] theorem D6g (b o:Nat) (K:Value → WP):A0 PR (Instr.fieldAt 39 (.pointer (some ⟨b,o,none⟩)) 6) K = K (.pointer (some ⟨b,o + 10,none⟩)):=B2 (i:=6) B3M rfl ⟨_,_,_,_,H4⟩ b o
@[simp] theorem D5d (b o:Nat) (K:Value → WP):A0 PR (Instr.fieldAt 409 (.pointer (some ⟨b,o,none⟩)) 0) K = K (.pointer (some ⟨b,o,none⟩)):=B2 (i:=0) B4j rfl ⟨_,_,_,_,k8⟩ b o
@[simp] theorem D4p (b o:Nat) (K:Value → WP):A0 PR (Instr.fieldAt 409 (.pointer (some ⟨b,o,none⟩)) 1) K = K (.pointer (some ⟨b,o + 1,none⟩)):=B2 (i:=1) B4j rfl ⟨_,_,_,_,k8⟩ b o
@[simp] theorem D5e (b o:Nat) (K:Value → WP):A0 PR (Instr.fieldAt 409 (.pointer (some ⟨b,o,none⟩)) 2) K = K (.pointer (some ⟨b,o + 2,none⟩)):=B2 (i:=2) B4j rfl ⟨_,_,_,_,H4⟩ b o
@[simp] theorem D47 (b o:Nat) (K:Value → WP):A0 PR (Instr.fieldAt 412 (.pointer (some ⟨b,o,none⟩)) 0) K = K (.pointer (some ⟨b,o,none⟩)):=B2 (i:=0) B4d rfl ⟨_,_,_,_,k8⟩ b o
@[simp] theorem D58 (b o:Nat) (K:Value → WP):A0 PR (Instr.fieldAt 412 (.pointer (some ⟨b,o,none⟩)) 1) K = K (.pointer (some ⟨b,o + 1,none⟩)):=B2 (i:=1) B4d rfl ⟨_,_,_,_,k8⟩ b o
@[simp] theorem D5k (b o:Nat) (K:Value → WP):A0 PR (Instr.fieldAt 412 (.pointer (some ⟨b,o,none⟩)) 2) K = K (.pointer (some ⟨b,o + 2,none⟩)):=B2 (i:=2) B4d rfl ⟨_,_,_,_,H4⟩ b o
@[simp] theorem D6e (b o:Nat) (K:Value → WP):A0 PR (Instr.fieldAt 45 (.pointer (some ⟨b,o,none⟩)) 0) K = K (.pointer (some ⟨b,o,none⟩)):=B2 (i:=0) A6Z rfl ⟨_,_,_,_,H4⟩ b o
@[simp] theorem D8D (b o:Nat) (K:Value → WP):A0 PR (Instr.fieldAt 45 (.pointer (some ⟨b,o,none⟩)) 1) K = K (.pointer (some ⟨b,o + 1,none⟩)):=B2 (i:=1) A6Z rfl ⟨_,_,_,_,k8⟩ b o
@[simp] theorem D7G (b o:Nat) (K:Value → WP):A0 PR (Instr.fieldAt 45 (.pointer (some ⟨b,o,none⟩)) 2) K = K (.pointer (some ⟨b,o + 2,none⟩)):=B2 (i:=2) A6Z rfl ⟨_,_,_,_,k8⟩ b o
@[simp] theorem D74 (b o:Nat) (K:Value → WP):A0 PR (Instr.fieldAt 45 (.pointer (some ⟨b,o,none⟩)) 3) K = K (.pointer (some ⟨b,o + 3,none⟩)):=B2 (i:=3) A6Z rfl ⟨_,_,_,_,H4⟩ b o
@[simp] theorem D8L (b o:Nat) (K:Value → WP):A0 PR (Instr.fieldAt 45 (.pointer (some ⟨b,o,none⟩)) 4) K = K (.pointer (some ⟨b,o + 4,none⟩)):=B2 (i:=4) A6Z rfl ⟨_,_,_,_,H4⟩ b o
@[simp] theorem D66 (b o:Nat) (K:Value → WP):A0 PR (Instr.fieldAt 45 (.pointer (some ⟨b,o,none⟩)) 5) K = K (.pointer (some ⟨b,o + 5,none⟩)):=B2 (i:=5) A6Z rfl ⟨_,_,_,_,H4⟩ b o
@[simp] theorem D6b (b o:Nat) (K:Value → WP):A0 PR (Instr.fieldAt 47 (.pointer (some ⟨b,o,none⟩)) 0) K = K (.pointer (some ⟨b,o,none⟩)):=B2 (i:=0) B8E rfl ⟨_,_,_,_,A6Z⟩ b o
@[simp] theorem D7m (b o:Nat) (K:Value → WP):A0 PR (Instr.fieldAt 47 (.pointer (some ⟨b,o,none⟩)) 1) K = K (.pointer (some ⟨b,o + 6,none⟩)):=B2 (i:=1) B8E rfl ⟨_,_,_,_,H4⟩ b o
@[simp] theorem D73 (b o:Nat) (K:Value → WP):A0 PR (Instr.fieldAt 79 (.pointer (some ⟨b,o,none⟩)) 0) K = K (.pointer (some ⟨b,o,none⟩)):=B2 (i:=0) B7q rfl ⟨_,_,_,_,H4⟩ b o
@[simp] theorem D8N (b o:Nat) (K:Value → WP):A0 PR (Instr.fieldAt 79 (.pointer (some ⟨b,o,none⟩)) 1) K = K (.pointer (some ⟨b,o + 1,none⟩)):=B2 (i:=1) B7q rfl ⟨_,_,_,_,H4⟩ b o
@[simp] theorem D7n (b o:Nat) (K:Value → WP):A0 PR (Instr.fieldAt 79 (.pointer (some ⟨b,o,none⟩)) 2) K = K (.pointer (some ⟨b,o + 2,none⟩)):=B2 (i:=2) B7q rfl ⟨_,_,_,_,B5d⟩ b o
theorem c8 {k1:IntKind} {i:Int} {s:ByteArray} {b:UInt8} (h0:0 ≤ i) (h1:s[i.toNat]? = some b) (K:Value → WP):A0 PR (Instr.index 9 (.string s) (.int k1 i)) K = K (.int .u8 b.toNat):=C8v k8 h0 h1
@[simp] theorem D9C {k:IntKind} {i:Int} {len cap:Nat} (h0:0 ≤ i) (h1:i < len) (b o:Nat) (K:Value → WP):A0 PR (Instr.indexAt 103 (.slice (some ⟨b,o,none⟩) len cap) (.int k i)) K = K (.pointer (some ⟨b,o + i.toNat * 2,none⟩)):=(Q0 (K:=K) B6d A72 h0 h1 b o)
theorem D0U:TI PR 143 Tryz.t143.desc 1 8 .nilFunc:=⟨Tryz.underlying143,Tryz.t143,by kernel_rfl,rfl,rfl,rfl⟩
@[simp] theorem D9B {k:IntKind} {i:Int} (h0:0 ≤ i) (h1:i < (10:Nat)) (b o:Nat) (K:Value → WP):A0 PR (Instr.indexAt 144 (.pointer (some ⟨b,o,none⟩)) (.int k i)) K = K (.pointer (some ⟨b,o + i.toNat,none⟩)):=(by simpa using B6f (K:=K) D0W D0U h0 h1 b o)
@[simp] theorem D8j {k:IntKind} {i:Int} (h0:0 ≤ i) (h1:i < (2:Nat)) (b o:Nat) (K:Value → WP):A0 PR (Instr.indexAt 158 (.pointer (some ⟨b,o,none⟩)) (.int k i)) K = K (.pointer (some ⟨b,o + i.toNat,none⟩)):=(by simpa using B6f (K:=K) B6s H4 h0 h1 b o)
@[simp] theorem D85 {k:IntKind} {i:Int} {len cap:Nat} (h0:0 ≤ i) (h1:i < len) (b o:Nat) (K:Value → WP):A0 PR (Instr.indexAt 193 (.slice (some ⟨b,o,none⟩) len cap) (.int k i)) K = K (.pointer (some ⟨b,o + i.toNat * 2,none⟩)):=(Q0 (K:=K) B1W A5p h0 h1 b o)
@[simp] theorem D8p {k:IntKind} {i:Int} {len cap:Nat} (h0:0 ≤ i) (h1:i < len) (b o:Nat) (K:Value → WP):A0 PR (Instr.indexAt 228 (.slice (some ⟨b,o,none⟩) len cap) (.int k i)) K = K (.pointer (some ⟨b,o + i.toNat,none⟩)):=(by simpa using Q0 (K:=K) C4z C4x h0 h1 b o)
theorem C4l:TI PR 266 Tryz.t265.desc 1 16 .nilIface:=⟨Tryz.underlying266,Tryz.t266,by kernel_rfl,rfl,rfl,rfl⟩
@[simp] theorem D8x {k:IntKind} {i:Int} {len cap:Nat} (h0:0 ≤ i) (h1:i < len) (b o:Nat) (K:Value → WP):A0 PR (Instr.indexAt 229 (.slice (some ⟨b,o,none⟩) len cap) (.int k i)) K = K (.pointer (some ⟨b,o + i.toNat,none⟩)):=(by simpa using Q0 (K:=K) B67 C4l h0 h1 b o)
@[simp] theorem D9M {k:IntKind} {i:Int} {len cap:Nat} (h0:0 ≤ i) (h1:i < len) (b o:Nat) (K:Value → WP):A0 PR (Instr.indexAt 259 (.slice (some ⟨b,o,none⟩) len cap) (.int k i)) K = K (.pointer (some ⟨b,o + i.toNat * 2,none⟩)):=(Q0 (K:=K) C38 B6s h0 h1 b o)
theorem C4F:TI PR 279 Tryz.t193.desc 1 24 (.slice none 0 0):=⟨Tryz.underlying279,Tryz.t279,by kernel_rfl,rfl,rfl,rfl⟩
@[simp] theorem D9V {k:IntKind} {i:Int} {len cap:Nat} (h0:0 ≤ i) (h1:i < len) (b o:Nat) (K:Value → WP):A0 PR (Instr.indexAt 279 (.slice (some ⟨b,o,none⟩) len cap) (.int k i)) K = K (.pointer (some ⟨b,o + i.toNat * 2,none⟩)):=(Q0 (K:=K) C4F A5p h0 h1 b o)
@[simp] theorem D9Q {k:IntKind} {i:Int} {len cap:Nat} (h0:0 ≤ i) (h1:i < len) (b o:Nat) (K:Value → WP):A0 PR (Instr.indexAt 281 (.slice (some ⟨b,o,none⟩) len cap) (.int k i)) K = K (.pointer (some ⟨b,o + i.toNat * 2,none⟩)):=(Q0 (K:=K) B94 B06 h0 h1 b o)
@[simp] theorem D9L {k:IntKind} {i:Int} {len cap:Nat} (h0:0 ≤ i) (h1:i < len) (b o:Nat) (K:Value → WP):A0 PR (Instr.indexAt 301 (.slice (some ⟨b,o,none⟩) len cap) (.int k i)) K = K (.pointer (some ⟨b,o + i.toNat,none⟩)):=(by simpa using Q0 (K:=K) A5s ty5 h0 h1 b o)
@[simp] theorem D9E {k:IntKind} {i:Int} {len cap:Nat} (h0:0 ≤ i) (h1:i < len) (b o:Nat) (K:Value → WP):A0 PR (Instr.indexAt 324 (.slice (some ⟨b,o,none⟩) len cap) (.int k i)) K = K (.pointer (some ⟨b,o + i.toNat * 4,none⟩)):=(Q0 (K:=K) C4C A3K h0 h1 b o)
@[simp] theorem D9r {k:IntKind} {i:Int} {len cap:Nat} (h0:0 ≤ i) (h1:i < len) (b o:Nat) (K:Value → WP):A0 PR (Instr.indexAt 36 (.slice (some ⟨b,o,none⟩) len cap) (.int k i)) K = K (.pointer (some ⟨b,o + i.toNat,none⟩)):=(by simpa using Q0 (K:=K) B78 B05 h0 h1 b o)
@[simp] theorem D9b {k:IntKind} {i:Int} {len cap:Nat} (h0:0 ≤ i) (h1:i < len) (b o:Nat) (K:Value → WP):A0 PR (Instr.indexAt 37 (.slice (some ⟨b,o,none⟩) len cap) (.int k i)) K = K (.pointer (some ⟨b,o + i.toNat,none⟩)):=(by simpa using Q0 (K:=K) A6x H4 h0 h1 b o)
@[simp] theorem D9J {k:IntKind} {i:Int} {len cap:Nat} (h0:0 ≤ i) (h1:i < len) (b o:Nat) (K:Value → WP):A0 PR (Instr.indexAt 375 (.slice (some ⟨b,o,none⟩) len cap) (.int k i)) K = K (.pointer (some ⟨b,o + i.toNat * 2,none⟩)):=(Q0 (K:=K) C4a B4a h0 h1 b o)
@[simp] theorem D9c {k:IntKind} {i:Int} {len cap:Nat} (h0:0 ≤ i) (h1:i < len) (b o:Nat) (K:Value → WP):A0 PR (Instr.indexAt 51 (.slice (some ⟨b,o,none⟩) len cap) (.int k i)) K = K (.pointer (some ⟨b,o + i.toNat,none⟩)):=(by simpa using Q0 (K:=K) C88 k8 h0 h1 b o)
@[simp] theorem D9u {k:IntKind} {i:Int} {len cap:Nat} (h0:0 ≤ i) (h1:i < len) (b o:Nat) (K:Value → WP):A0 PR (Instr.indexAt 58 (.slice (some ⟨b,o,none⟩) len cap) (.int k i)) K = K (.pointer (some ⟨b,o + i.toNat * 2,none⟩)):=(Q0 (K:=K) B5d B4S h0 h1 b o)
theorem D2x:TI PR 71 Tryz.t71.desc 1 24 (.slice none 0 0):=⟨Tryz.underlying71,Tryz.t71,by kernel_rfl,rfl,rfl,rfl⟩
@[simp] theorem D9W {k:IntKind} {i:Int} {len cap:Nat} (h0:0 ≤ i) (h1:i < len) (b o:Nat) (K:Value → WP):A0 PR (Instr.indexAt 71 (.slice (some ⟨b,o,none⟩) len cap) (.int k i)) K = K (.pointer (some ⟨b,o + i.toNat * 3,none⟩)):=(Q0 (K:=K) D2x B7q h0 h1 b o)
@[simp] theorem D9d {k:IntKind} {i:Int} {len cap:Nat} (h0:0 ≤ i) (h1:i < len) (b o:Nat) (K:Value → WP):A0 PR (Instr.indexAt 84 (.slice (some ⟨b,o,none⟩) len cap) (.int k i)) K = K (.pointer (some ⟨b,o + i.toNat * 4,none⟩)):=(Q0 (K:=K) B05 A3K h0 h1 b o)
@[simp] theorem D7j (a:Option Addr) (n c:Nat) (K:Value → WP):A0 PR (A8 .len #[103] 0 [.slice a n c]) K = K (.int .i64 n):=n0 B6d a n c
@[simp] theorem D7K (a:Option Addr) (n c:Nat) (K:Value → WP):A0 PR (A8 .len #[192] 0 [.slice a n c]) K = K (.int .i64 n):=n0 C4n a n c
@[simp] theorem D69 (a:Option Addr) (n c:Nat) (K:Value → WP):A0 PR (A8 .len #[193] 0 [.slice a n c]) K = K (.int .i64 n):=n0 B1W a n c
@[simp] theorem D7r (a:Option Addr) (n c:Nat) (K:Value → WP):A0 PR (A8 .len #[228] 0 [.slice a n c]) K = K (.int .i64 n):=n0 C4z a n c
@[simp] theorem D78 (a:Option Addr) (n c:Nat) (K:Value → WP):A0 PR (A8 .len #[229] 0 [.slice a n c]) K = K (.int .i64 n):=n0 B67 a n c
@[simp] theorem D7c (a:Option Addr) (n c:Nat) (K:Value → WP):A0 PR (A8 .len #[259] 0 [.slice a n c]) K = K (.int .i64 n):=n0 C38 a n c
@[simp] theorem D6n (a:Option Addr) (n c:Nat) (K:Value → WP):A0 PR (A8 .len #[279] 0 [.slice a n c]) K = K (.int .i64 n):=n0 C4F a n c
@[simp] theorem D6c (a:Option Addr) (n c:Nat) (K:Value → WP):A0 PR (A8 .len #[281] 0 [.slice a n c]) K = K (.int .i64 n):=n0 B94 a n c
@[simp] theorem D6r (a:Option Addr) (n c:Nat) (K:Value → WP):A0 PR (A8 .len #[301] 0 [.slice a n c]) K = K (.int .i64 n):=n0 A5s a n c
@[simp] theorem D7g (a:Option Addr) (n c:Nat) (K:Value → WP):A0 PR (A8 .len #[324] 0 [.slice a n c]) K = K (.int .i64 n):=n0 C4C a n c
@[simp] theorem D8v (a:Option Addr) (n c:Nat) (K:Value → WP):A0 PR (A8 .len #[36] 0 [.slice a n c]) K = K (.int .i64 n):=n0 B78 a n c
@[simp] theorem D8m (a:Option Addr) (n c:Nat) (K:Value → WP):A0 PR (A8 .len #[37] 0 [.slice a n c]) K = K (.int .i64 n):=n0 A6x a n c
@[simp] theorem D61 (a:Option Addr) (n c:Nat) (K:Value → WP):A0 PR (A8 .len #[375] 0 [.slice a n c]) K = K (.int .i64 n):=n0 C4a a n c
@[simp] theorem D8W (a:Option Addr) (n c:Nat) (K:Value → WP):A0 PR (A8 .len #[51] 0 [.slice a n c]) K = K (.int .i64 n):=n0 C88 a n c
@[simp] theorem D81 (a:Option Addr) (n c:Nat) (K:Value → WP):A0 PR (A8 .len #[58] 0 [.slice a n c]) K = K (.int .i64 n):=n0 B5d a n c
@[simp] theorem D84 (a:Option Addr) (n c:Nat) (K:Value → WP):A0 PR (A8 .len #[71] 0 [.slice a n c]) K = K (.int .i64 n):=n0 D2x a n c
@[simp] theorem D9S (a:Option Addr) (n c:Nat) (K:Value → WP):A0 PR (A8 .len #[84] 0 [.slice a n c]) K = K (.int .i64 n):=n0 B05 a n c
@[simp] theorem D9a (s:ByteArray) (K:Value → WP):A0 PR (A8 .len #[9] 0 [.string s]) K = K (.int .i64 s.size):=D3U k8 s
@[simp] theorem D9v (a:Addr) (K:Value → WP) (w:World):A6 PR (Instr.loadAt 3 (.pointer (some a))) K w = rdc (w.cell? a) K (far PR 3 a K) w:=C1x H4 rfl a
@[simp] theorem D9f (a:Addr) (K:Value → WP) (w:World):A6 PR (Instr.loadAt 89 (.pointer (some a))) K w = rdc (w.cell? a) K (far PR 89 a K) w:=C1x B3F rfl a
@[simp] theorem D9F (v:Value) (K:Value → WP):A0 PR (Instr.makeInterface 195 v) K = K (.iface 195 v):=A8d A8N (by intro ms h; cases h) v
@[simp] theorem D9A (v:Value) (K:Value → WP):A0 PR (Instr.makeInterface 263 v) K = K (.iface 263 v):=A8d B4J (by intro ms h; cases h) v
@[simp] theorem D8e (v:Value) (K:Value → WP):A0 PR (Instr.makeInterface 333 v) K = K (.iface 333 v):=A8d D0E (by intro ms h; cases h) v
@[simp] theorem D9T (v:Value) (K:Value → WP):A0 PR (Instr.makeInterface 334 v) K = K (.iface 334 v):=A8d D0S (by intro ms h; cases h) v
@[simp] theorem D7J {k1:IntKind} {hi:Int} {len cap:Nat} (a:Option Addr) (h0:0 ≤ hi) (h1:hi ≤ cap) (K:Value → WP):A0 PR (Instr.sliceAt 193 (.slice a len cap) none (some (.int k1 hi)) none) K = K (slc a 0 hi.toNat cap 2):=C70 B1W A5p a h0 h1
@[simp] theorem D6x {k1:IntKind} {lo:Int} {len cap:Nat} (a:Option Addr) (h0:0 ≤ lo) (h1:lo ≤ len) (K:Value → WP):A0 PR (Instr.sliceAt 193 (.slice a len cap) (some (.int k1 lo)) none none) K = K (slc a lo.toNat len cap 2):=C8u B1W A5p a h0 h1
@[simp] theorem D4E (b o:Nat) (K:Value → WP):A0 PR (Instr.sliceAt 355 (.pointer (some ⟨b,o,none⟩)) none none none) K = K (.slice (some ⟨b,o,none⟩) 38 38):=C5g C4W ty5 b o
@[simp] theorem D9l {k1:IntKind} {hi:Int} {s:ByteArray} (h0:0 ≤ hi) (h1:hi ≤ s.size) (K:Value → WP):A0 PR (Instr.sliceAt 9 (.string s) none (some (.int k1 hi)) none) K = K (.string (s.extract 0 hi.toNat)):=C6P k8 h0 h1
@[simp] theorem D9Y {k1:IntKind} {lo:Int} {s:ByteArray} (h0:0 ≤ lo) (h1:lo ≤ s.size) (K:Value → WP):A0 PR (Instr.sliceAt 9 (.string s) (some (.int k1 lo)) none none) K = K (.string (s.extract lo.toNat s.size)):=C59 k8 h0 h1
@[simp] theorem D97 {k1 k2:IntKind} {lo hi:Int} {s:ByteArray} (h0:0 ≤ lo) (h1:lo ≤ hi) (h2:hi ≤ s.size) (K:Value → WP):A0 PR (Instr.sliceAt 9 (.string s) (some (.int k1 lo)) (some (.int k2 hi)) none) K = K (.string (s.extract lo.toNat hi.toNat)):=C9W k8 h0 h1 h2
theorem C92:TI PR 156 Tryz.t156.desc 1 8 (.map none):=⟨Tryz.underlying156,Tryz.t156,by kernel_rfl,rfl,rfl,rfl⟩
theorem B93:TI PR 250 Tryz.t249.desc 1 16 .nilIface:=⟨Tryz.underlying250,Tryz.t250,by kernel_rfl,rfl,rfl,rfl⟩
theorem B9u:TI PR 251 Tryz.t251.desc 1 8 (.map none):=⟨Tryz.underlying251,Tryz.t251,by kernel_rfl,rfl,rfl,rfl⟩
@[simp] theorem C6x (a b:ByteArray):(a == b) = decide (a = b):=by
 obtain ⟨x⟩:=a; obtain ⟨y⟩:=b
 have h:((⟨x⟩:ByteArray) == ⟨y⟩) = (x == y):=rfl
 rw [h]
 by_cases e:x = y
 ·subst e; simp
 ·simp [e]
@[simp] theorem D6A (a:Array UInt8):(ByteArray.mk a).size = a.size:=rfl
theorem A3b (ns:List Int):(V2 ns).data.toList = ns.map fun n=> UInt8.ofNat n.toNat:=by
 have:∀ (l:List Int) (r:ByteArray),(l.foldl (fun r n=> r.push (UInt8.ofNat n.toNat)) r).data.toList = r.data.toList ++ l.map fun n=> UInt8.ofNat n.toNat:=by
  intro l
  induction l with
  | nil=> intro r; simp
  | cons x l ih=> intro r; rw [List.foldl_cons,ih]; simp [ByteArray.push]
 have h:=this ns ByteArray.empty
 rw [show ByteArray.empty.data.toList = [] from rfl,List.nil_append] at h
 exact h
@[simp] theorem B4A (ns:List Int):(V2 ns).size = ns.length:=by
 have:=congrArg List.length (A3b ns)
 rw [List.length_map] at this
 exact this
class TS (t:TypeId) (z:outParam Value):Prop where
 ti:∃ d m,TI PR t d 1 m z ∧ U2 d = false
class TG (t:TypeId) (n:outParam Nat) (z:outParam Value):Prop where
 ti:∃ d m,TI PR t d n m z ∧ U2 d = true
class TA (t:TypeId) (n:outParam Nat) (z:outParam Value):Prop where
 ti:∃ d m,TI PR t d n m z
class SL (t:TypeId) (e:outParam TypeId) (k by':outParam Nat) (z:outParam Value):Prop where
 ti:(∃ n m z',TI PR t (.slice e) n m z') ∧ (∃ d,TI PR e d k by' z) ∧ z.cells.size = k
instance TS.ta {t:TypeId} {z:Value} [h:TS t z]:TA t 1 z:=⟨let ⟨d,m,h,_⟩:=h.ti; ⟨d,m,h⟩⟩
instance TG.ta {t:TypeId} {n:Nat} {z:Value} [h:TG t n z]:TA t n z:=⟨let ⟨d,m,h,_⟩:=h.ti; ⟨d,m,h⟩⟩
def rdq (x:Option (List Value)) (G:List Value → WP) (F:WP):WP:=match x with | some l=> G l | none=> F
@[simp] theorem B5c (l:List Value) (G:List Value → WP) (F:WP):rdq (some l) G F = G l:=id rfl
@[congr] theorem D8K {x x':Option (List Value)} {G:List Value → WP} {F:WP} (h:x = x') {q:Nat} (hq:j8 = q):rdq x G F = rdq x' G F:=by rw [h]
@[simp] theorem D9N (xs:List Value):W3 xs 0 0 = some []:=by simp [W3]
@[simp] theorem D4B (x:Value) (xs:List Value) (n:Nat):W3 (x :: xs) 0 (n + 1) = (W3 xs 0 n).map (x :: ·):=by
 simp only [W3,Nat.zero_add,List.length_cons,List.drop_zero,List.take_succ_cons]
 by_cases h:n ≤ xs.length
 ·rw [if_pos h,if_pos (by omega)]; rfl
 ·rw [if_neg h,if_neg (by omega)]; rfl
@[simp] theorem D56 (x:Value) (xs:List Value) (o n:Nat):W3 (x :: xs) (o + 1) n = W3 xs o n:=by
 simp only [W3,List.length_cons,List.drop_succ_cons]
 by_cases h:o + n ≤ xs.length
 ·rw [if_pos h,if_pos (by omega)]
 ·rw [if_neg h,if_neg (by omega)]
theorem C5U {α:Type} {l:List α} {f:α → List Value} {k i:Nat} {x:α} (hk:∀ x,(f x).length = k) (hx:l[i]? = some x):W3 (l.flatMap f) (i * k) k = some (f x):=by
 obtain ⟨hlt,hx'⟩:=List.getElem?_eq_some_iff.1 hx
 have h1:(i + 1) * k ≤ l.length * k:=Nat.mul_le_mul_right k hlt
 rw [Nat.add_mul] at h1
 rw [W3,if_pos (by rw [T2 hk]; omega),B3Y hk,List.drop_eq_getElem_cons hlt,List.flatMap_cons,hx']
 rw [List.take_left' (hk x)]
inductive Sel (r:Res):List Res → List Res → Prop where
 | here {H:List Res}:Sel r (r :: H) H
 | there {x:Res} {H H':List Res}:Sel r H H' → Sel r (x :: H) (x :: H')
theorem Sel.perm {r:Res} {H Hr:List Res} (h:Sel r H Hr):H.Perm (r :: Hr):=by
 induction h with
 | here=> exact .refl _
 | there _ ih=> exact (ih.cons _).trans (.swap ..)
theorem Sel.sub {r:Res} {H Hr:List Res} (h:Sel r H Hr):Hr.Sublist H:=by
 induction h with
 | here=> exact List.sublist_cons_self ..
 | there _ ih=> exact ih.cons_cons _
theorem A1 {r:Res} {H:List Res}:r ∈ r :: H:=List.mem_cons_self ..
theorem uH {r r':Res} {H:List Res}:Up r r' (r :: H) (r' :: H):=Up.here
theorem uT {r r' x:Res} {H H':List Res} (h:Up r r' H H'):Up r r' (x :: H) (x :: H'):=Up.there h
theorem A2 {r x:Res} {H:List Res} (h:r ∈ H):r ∈ x :: H:=List.mem_cons_of_mem _ h
inductive Sels:List Res → List Res → Prop where
 | nil {H:List Res}:Sels [] H
 | cons {r:Res} {rs H Hr:List Res}:Sel r H Hr → Sels rs Hr → Sels (r :: rs) H
theorem Sels.sub {rs H:List Res} (h:Sels rs H):∃ H',H.Perm H' ∧ rs.Sublist H':=by
 induction h with
 | nil=> exact ⟨_,.refl _,List.nil_sublist _⟩
 | cons h1 _ ih=> obtain ⟨H',h2,h3⟩:=ih; exact ⟨_ :: H',h1.perm.trans (h2.cons _),h3.cons_cons _⟩
theorem Sels.lw {κ:Bool} {S:List Nat} {w0 w:World} {rs H:List Res} (h:Sels rs H) (hw:LW κ S w0 H w):LW κ S w0 rs w:=let ⟨_,h1,h2⟩:=h.sub; (hw.perm h1).sub h2
theorem Sels.tw {κ:Bool} {S:List Nat} {w0:World} {rs H:List Res} {K:WP} (h:Sels rs H) (hk:TW κ S w0 rs K):TW κ S w0 H K:=fun w hw=> hk w (h.lw hw)
inductive Part:List Res → List Res → List Res → Prop where
 | nil {H:List Res}:Part [] H H
 | cons {r:Res} {rs H H1 Hk:List Res}:Sel r H H1 → Part rs H1 Hk → Part (r :: rs) H Hk
theorem Part.perm {Hc H Hk:List Res} (h:Part Hc H Hk):H.Perm (Hc ++ Hk):=by
 induction h with
 | nil=> exact .refl _
 | cons h1 _ ih=> exact h1.perm.trans (ih.cons _)
theorem C8 {κ:Bool} {X:Nat → Prop} {S:List Nat} {w0:World} {H Hk Hc:List Res} {K:Value → WP} {f:FuncId} {args:List Value} {α:Type} {φ:α → Value → Prop} {Hn:α → List Res} (he:B0 PR f)
  (hf:∀ w,LW κ S w0 (Hc ++ Hk) w → LW false (C3 Hc) w Hc w → Fn PR B8 f args.toArray w (Rn (C3 Hc) w φ Hn)) (hp:Part Hc H Hk) (hK:∀ a v,φ a v → TW κ S w0 (Hn a ++ Hk) (K v)):TW κ S w0 H (B3 PR X f args K) :=
 B7S he hp.perm (fun w hw=> let h:=hw.perm hp.perm; hf w h (h.sub (List.sublist_append_left _ _)).self) hK
theorem B1 {κ:Bool} {S:List Nat} {w0:World} {H:List Res} {α:Type} {φ:α → Value → Prop} {Hn:α → List Res} {v:Value} (a:α) (h:φ a v) (hs:Sels (Hn a) H):TW κ S w0 H (Rn S w0 φ Hn v):=fun w hw=> ⟨a,h,hs.lw hw.low⟩
theorem D0d {κ:Bool} {S:List Nat} {w0:World} {H:List Res} {F:Value → WP} {A:(Value → WP) → WP} {α:Type} (φ:α → Prop) (Hh:α → List Res) (v1:α → Value) (hF:∀ x,φ x → TW κ S w0 (Hh x) (F (v1 x)))
  (hA:∀ J:Value → WP,(∀ x,φ x → TW κ S w0 (Hh x) (J (v1 x))) → TW κ S w0 H (A J)):TW κ S w0 H (kt (n:=1) F A):=hA F hF
theorem D55 {κ:Bool} {S:List Nat} {w0:World} {H:List Res} {F:Value → Value → WP} {A:(Value → Value → WP) → WP} {α:Type} (φ:α → Prop) (Hh:α → List Res) (v1 v2:α → Value) (hF:∀ x,φ x → TW κ S w0 (Hh x) (F (v1 x) (v2 x)))
  (hA:∀ J:Value → Value → WP,(∀ x,φ x → TW κ S w0 (Hh x) (J (v1 x) (v2 x))) → TW κ S w0 H (A J)):TW κ S w0 H (kt (n:=2) F A):=hA F hF
theorem F5.form {w:World} {v:Value} {n:Nat} {xs:List Value} (h:F5 w v n xs):∃ a c,v = .slice a n c ∧ (0 < n → ∃ b o,a = some ⟨b,o,none⟩ ∧ P3 w b o xs):=by
 rcases h with ⟨rfl,rfl,a,c,rfl⟩ | ⟨b,o,c,rfl,hr⟩
 ·exact ⟨a,c,rfl,fun h=> absurd h (by omega)⟩
 ·exact ⟨_,c,rfl,fun _=> ⟨b,o,rfl,hr⟩⟩
theorem P3.at {w:World} {b o k:Nat} {α:Type} {l:List α} {f:α → List Value} (h:P3 w b o (l.flatMap f)) (hk:∀ x,(f x).length = k) {i:Nat} {x:α} (hx:l[i]? = some x):v8 w b (o + i * k) k = some (f x):=by
 have h1:P3 w b (o + i * k) (f x):=fun j hj=> by
  rw [hk] at hj
  have h2:=l0 hk l i j hj
  rw [hx] at h2
  have h3:(l.flatMap f)[i * k + j]? = some ((f x)[j]'(by rw [hk]; exact hj)):=by rw [h2]; simp [List.getElem?_eq_getElem,hk,hj]
  rw [Nat.add_assoc,h.get h3]; simp [List.getElem?_eq_getElem,hk,hj]
 have:=A6B h1
 rwa [hk] at this
theorem P3.cellAt {w:World} {b o k:Nat} {α:Type} {l:List α} {f:α → List Value} (h:P3 w b o (l.flatMap f)) (hk:∀ x,(f x).length = k) {i j:Nat} {x:α} {u:Value} (hx:l[i]? = some x) (hu:(f x)[j]? = some u):w.cell? ⟨b,o + i * k + j,none⟩ = some u:=by
 have hj:j < k:=by rw [← hk x]; exact (List.getElem?_eq_some_iff.1 hu).1
 have h2:=l0 hk l i j hj
 rw [hx] at h2
 rw [Nat.add_assoc]
 exact h.get (by rw [h2]; exact hu)
theorem P3.one {w:World} {b o:Nat} {α:Type} {l:List α} {f:α → Value} (h:P3 w b o (l.map f)) {i:Nat} {x:α} (hx:l[i]? = some x):w.cell? ⟨b,o + i,none⟩ = some (f x):=h.get (by simp [hx])
section
variable {κ:Bool} {X:Nat → Prop} {S:List Nat} {w0:World} {H H' Hr:List Res} {K:Value → WP} {K0:WP} {t e:TypeId} {n k by':Nat} {z:Value}
theorem D33 {s:Sem Value} {v:Value} (h:∀ w,LW κ S w0 H w → A6 PR s K w = K v w):TW κ S w0 H (A6 PR s K) = TW κ S w0 H (K v):=TW.congr h
theorem C09 {s:Sem Value} {v:Value} (hK:TW κ S w0 H (K v)) (h:∀ w,LW κ S w0 H w → A6 PR s K w = K v w):TW κ S w0 H (A6 PR s K):=fun w hw=> by rw [h w hw]; exact hK w hw
theorem V5 {v:Value} {q:Nat} {xs:List Value} (hm:Res.own e k v q xs ∈ H) (hq:0 < q) (h:∀ g c,v = .slice (some ⟨g,0,none⟩) q c → TW κ S w0 H K0):TW κ S w0 H K0:=fun w hw=> by
 rcases (hw.hold _ hm).2 with ⟨_,rfl⟩ | ⟨g,c,_,rfl,_⟩
 ·omega
 ·exact h g c rfl w hw
@[simp] theorem D9p [h:TS t z] {b o:Nat} {c:Array Value} {T:TypeId} {f:Nat × Nat} (hm:Res.pt b (.cells c T f) ∈ H) :
  TW κ S w0 H (A6 PR (Instr.loadAt t (.pointer (some ⟨b,o,none⟩))) K) = TW κ S w0 H (rdc c[o]? K (far PR t ⟨b,o,none⟩ K)):=let ⟨_,_,h,hd⟩:=h.ti; D1J h hd hm
@[simp] theorem D8S [h:TS t z] {g o:Nat} {k q c:Nat} {xs:List Value} (hm:Res.own e k (.slice (some ⟨g,0,none⟩) q c) q xs ∈ H) :
  TW κ S w0 H (A6 PR (Instr.loadAt t (.pointer (some ⟨g,o,none⟩))) K) = TW κ S w0 H (rdc xs[o]? K (A6 PR (Instr.loadAt t (.pointer (some ⟨g,o,none⟩))) K)):=by
 cases hv:xs[o]? with
 | none=> rfl
 | some v=> exact let ⟨_,_,h,hd⟩:=h.ti; C8e h hd hm hv
@[simp] theorem D80 [h:TS t z] {b o:Nat} {v:Value} (hc:w0.cell? ⟨b,o,none⟩ = some v) (hS:b ∉ S) :
  TW κ S w0 H (A6 PR (Instr.loadAt t (.pointer (some ⟨b,o,none⟩))) K) = TW κ S w0 H (K v):=let ⟨_,_,h,hd⟩:=h.ti; C8Z h hd hc hS
@[simp] theorem D8Y [h:TG t n z] {b o:Nat} {c:Array Value} {T:TypeId} {f:Nat × Nat} (hm:Res.pt b (.cells c T f) ∈ H) :
  TW κ S w0 H (A6 PR (Instr.loadAt t (.pointer (some ⟨b,o,none⟩))) K) = TW κ S w0 H (rdq (W3 c.toList o n) (fun l=> K (.agg l.toArray)) (A6 PR (Instr.loadAt t (.pointer (some ⟨b,o,none⟩))) K)):=by
 cases hl:W3 c.toList o n with
 | none=> rfl
 | some l=> exact let ⟨_,_,h,hd⟩:=h.ti; C8Y h hd hm hl
@[simp] theorem D7b [h:TG t n z] {g o:Nat} {k q c:Nat} {xs:List Value} (hm:Res.own e k (.slice (some ⟨g,0,none⟩) q c) q xs ∈ H) :
  TW κ S w0 H (A6 PR (Instr.loadAt t (.pointer (some ⟨g,o,none⟩))) K) = TW κ S w0 H (rdq (W3 xs o n) (fun l=> K (.agg l.toArray)) (A6 PR (Instr.loadAt t (.pointer (some ⟨g,o,none⟩))) K)):=by
 cases hl:W3 xs o n with
 | none=> rfl
 | some l=> exact let ⟨_,_,h,hd⟩:=h.ti; C6m h hd hm hl
@[simp] theorem D7w [h:TG t n z] {b o:Nat} {l:List Value} (hc:v8 w0 b o n = some l) (hS:b ∉ S) :
  TW κ S w0 H (A6 PR (Instr.loadAt t (.pointer (some ⟨b,o,none⟩))) K) = TW κ S w0 H (K (.agg l.toArray)):=let ⟨_,_,h,hd⟩:=h.ti; C50 h hd hc hS
@[simp] theorem D3H [h:TS t z] {b o:Nat} {c:Array Value} {T:TypeId} {f:Nat × Nat} (hm:Res.pt b (.cells c T f) ∈ H) {v:Value} (hv:c[o]? = some v) :
  TW κ S w0 H (A6 PR (E1 [.c t (.pointer (some ⟨b,o,none⟩))]) K) = TW κ S w0 H (K v):=let ⟨_,_,h,hd⟩:=h.ti; D2G h hd hm hv
@[simp] theorem D9w [h:TG t n z] {b o:Nat} {c:Array Value} {T:TypeId} {f:Nat × Nat} (hm:Res.pt b (.cells c T f) ∈ H) :
  TW κ S w0 H (A6 PR (E1 [.c t (.pointer (some ⟨b,o,none⟩))]) K) = TW κ S w0 H (rdq (W3 c.toList o n) (fun l=> K (.agg l.toArray)) (A6 PR (E1 [.c t (.pointer (some ⟨b,o,none⟩))]) K)):=by
 cases hl:W3 c.toList o n with
 | none=> rfl
 | some l=> exact let ⟨_,_,h,hd⟩:=h.ti; D3J h hd hm hl
@[simp] theorem D9s [h:TG t n z] {b o:Nat} {c:Array Value} {T:TypeId} {f:Nat × Nat} {x:Value} (hm:Res.pt b (.cells c T f) ∈ H) :
  TW κ S w0 H (A6 PR (E1 [.c t (.pointer (some ⟨b,o,none⟩)),.v x]) K) = TW κ S w0 H (rdq (W3 c.toList o n) (fun l=> K (.tuple #[.agg l.toArray,x])) (A6 PR (E1 [.c t (.pointer (some ⟨b,o,none⟩)),.v x]) K)):=by
 cases hl:W3 c.toList o n with
 | none=> rfl
 | some l=>
   obtain ⟨_,_,h,hd⟩:=h.ti
   refine TW.congr fun w hw=> ?_
   rw [B5c]
   have hr:=A08 hl (P3.bl (hw.pt hm)); have h2:=A0s hr
   refine V8 ?_ K
   have:=A2x h hd h2.1 h2.2
   simp only [Instr.loadAt,Instr.sureAddr,Sem.run_bind,Sem.run_pure,Result.andThen_ok] at this
   simp [E1,A5S,RV.sem,asAddr,this,one]
@[simp] theorem D9m [h:TG t n z] {b o:Nat} {c:Array Value} {T:TypeId} {f:Nat × Nat} {x y:Value} (hm:Res.pt b (.cells c T f) ∈ H) :
  TW κ S w0 H (A6 PR (E1 [.c t (.pointer (some ⟨b,o,none⟩)),.v x,.v y]) K) = TW κ S w0 H (rdq (W3 c.toList o n) (fun l=> K (.tuple #[.agg l.toArray,x,y])) (A6 PR (E1 [.c t (.pointer (some ⟨b,o,none⟩)),.v x,.v y]) K)):=by
 cases hl:W3 c.toList o n with
 | none=> rfl
 | some l=>
   obtain ⟨_,_,h,hd⟩:=h.ti
   refine TW.congr fun w hw=> ?_
   rw [B5c]
   have hr:=A08 hl (P3.bl (hw.pt hm)); have h2:=A0s hr
   refine V8 ?_ K
   have:=A2x h hd h2.1 h2.2
   simp only [Instr.loadAt,Instr.sureAddr,Sem.run_bind,Sem.run_pure,Result.andThen_ok] at this
   simp [E1,A5S,RV.sem,asAddr,this,one]
@[simp] theorem D6C [h:TS t z] {b o:Nat} {c:Array Value} {T:TypeId} {f:Nat × Nat} {v:Value} {l:List Rd} (hm:Res.pt b (.cells c T f) ∈ H) (hv:c[o]? = some v) :
  TW κ S w0 H (watch PR ((none,Instr.loadAt t (.pointer (some ⟨b,o,none⟩)),v) :: l) K0) = TW κ S w0 H (watch PR l K0):=let ⟨_,_,h,hd⟩:=h.ti; B4G fun w hw=> x6 h hd (by rw [E8 (hw.pt hm)]; exact hv)
@[simp] theorem D3f [h:TS t z] {g o:Nat} {k q c:Nat} {xs:List Value} {v:Value} {l:List Rd} (hm:Res.own e k (.slice (some ⟨g,0,none⟩) q c) q xs ∈ H) (hv:xs[o]? = some v) :
  TW κ S w0 H (watch PR ((none,Instr.loadAt t (.pointer (some ⟨g,o,none⟩)),v) :: l) K0) = TW κ S w0 H (watch PR l K0):=let ⟨_,_,h,hd⟩:=h.ti; B4G fun w hw=> x6 h hd (by have:=(hw.ownr hm).get hv; rwa [Nat.zero_add] at this)
@[simp] theorem D3e [h:TS t z] {b o:Nat} {v:Value} {l:List Rd} (hc:w0.cell? ⟨b,o,none⟩ = some v) (hS:b ∉ S) :
  TW κ S w0 H (watch PR ((none,Instr.loadAt t (.pointer (some ⟨b,o,none⟩)),v) :: l) K0) = TW κ S w0 H (watch PR l K0):=let ⟨_,_,h,hd⟩:=h.ti; B4G fun w hw=> x6 h hd (hw.ks.cell hS hc)
@[simp] theorem D8z [h:TA t n z] {v:Value} {b o:Nat} {c:Array Value} {T:TypeId} (hv:v.cells.size = n)
  (hu:Up (.pt b (.cells c T (0,0))) (.pt b (.cells (E7 c o v.cells.toList) T (0,0))) H H') (hs:o + n ≤ c.size) (hp:v.cells.toList.all plain = true) :
  TW κ S w0 H (C1 PR X (Instr.storeAt t (.pointer (some ⟨b,o,none⟩)) v) K0) = TW κ S w0 H' K0:=let ⟨_,_,h⟩:=h.ti; D8n h hv hu hs hp
theorem Q9 [h:TA t n z] {v:Value} {g o q c:Nat} {xs:List Value} (hu:Up (.own e k (.slice (some ⟨g,0,none⟩) q c) q xs) (.own e k (.slice (some ⟨g,0,none⟩) q c) q (Y8 xs o v.cells.toList)) H H')
  (hv:v.cells.size = n) (hs:o + n ≤ xs.length) (hp:v.cells.toList.all plain = true) (hK:TW κ S w0 H' K0) :
  TW κ S w0 H (C1 PR X (Instr.storeAt t (.pointer (some ⟨g,o,none⟩)) v) K0):=let ⟨_,_,h⟩:=h.ti; C8K h hv hu hs hp hK
theorem A5 [h:TA t n z] (hK:∀ b,TW κ S w0 (.pt b (.cells z.cells t) :: H) (K (.pointer (some ⟨b,0,none⟩)))):TW κ S w0 H (B5 PR X (Instr.alloc t true (.tuple #[])) K):=let ⟨_,_,h⟩:=h.ti; D9H h hK
theorem A1m {k1 k2:IntKind} {l:Int} [h:SL t e k by' z] (h0:0 ≤ l) (hb:l * by' ≤ 140737488355328) (hc:l ≤ 9223372036854775807) (hk:0 < k)
  (hK:∀ b,TW κ S w0 (.own e k (.slice (some ⟨b,0,none⟩) l.toNat l.toNat) l.toNat (Builtin.zeroCells z.cells l.toNat).toList :: H) (K (.slice (some ⟨b,0,none⟩) l.toNat l.toNat))) :
  TW κ S w0 H (B5 PR X (Instr.makeSlice t (.int k1 l) (.int k2 l)) K):=let ⟨⟨_,_,_,h1⟩,⟨_,h2⟩,h3⟩:=h.ti; D9D h1 h2 h3 hk h0 rfl hb hc hK
theorem D5 [h:SL t e k by' z] (hK:∀ b,TW κ S w0 (.own e k (.slice (some ⟨b,0,none⟩) 0 0) 0 [] :: H) (K (.slice (some ⟨b,0,none⟩) 0 0))):TW κ S w0 H (B5 PR X (Instr.buildSlice t 0 #[]) K) :=
 let ⟨⟨_,_,_,h1⟩,⟨_,h2⟩,h3⟩:=h.ti; D41 h1 h2 hK
theorem C8L {m n q:Nat} (hq:0 < n):∀ (vs:List Value) (i:Nat) (cs:Array Value),(∀ v ∈ vs,v.cells.size = n) → (i + vs.length) * n ≤ cs.size →
  Instr.fill (fun i=> some (i * n,n)) cs ((List.range' i vs.length).zip vs) = some (E7 cs (i * n) (vs.flatMap fun v=> v.cells.toList)):=by
 intro vs
 induction vs with
 | nil=> intro i cs _ _; simp [Instr.fill]
 | cons v vs ih=>
  intro i cs hv hs
  simp only [List.length_cons] at hs
  have hv0:v.cells.size = n:=hv v (by simp)
  have e1:(i + (vs.length + 1)) * n = i * n + n + vs.length * n:=by rw [Nat.add_mul,Nat.add_mul]; omega
  simp only [List.length_cons,List.range'_succ,List.zip_cons_cons]
  rw [B6 rfl hv0 (by omega),ih (i + 1) _ (fun u hu=> hv u (by simp [hu])) (by rw [B9]; (have:(i + 1 + vs.length) * n = i * n + n + vs.length * n:=by (rw [Nat.add_mul,Nat.add_mul]; omega)); omega)]
  have spl_spl:∀ (l l':List Value) (c:Array Value) (o:Nat),E7 (E7 c o l) (o + l.length) l' = E7 c o (l ++ l'):=by
   intro l
   induction l with
   | nil=> intro l' c o; simp
   | cons u l ih=> intro l' c o; simp only [C1K,List.cons_append,List.length_cons]; rw [← ih]; congr 1; omega
  rw [List.flatMap_cons,← spl_spl]
  congr 2
  have:v.cells.toList.length = n:=by simp [hv0]
  rw [this,Nat.add_mul]; omega
theorem C1P {len:Nat} {parts:Array (Nat × Value)} (vs:List Value) [h:SL t e k by' z] (hk:0 < k) (h0:0 < len) (hb:len * k ≤ 2 ^ 24) (hp:parts.toList = (List.range' 0 len).zip vs) (hl:vs.length = len) (hv:∀ v ∈ vs,v.cells.size = k)
  (hK:∀ b,TW κ S w0 (.own e k (.slice (some ⟨b,0,none⟩) len len) len (vs.flatMap fun v=> v.cells.toList) :: H) (K (.slice (some ⟨b,0,none⟩) len len))) :
  TW κ S w0 H (B5 PR X (Instr.buildSlice t len parts) K):=by
 obtain ⟨⟨_,_,_,h1⟩,⟨_,h2⟩,h3⟩:=h.ti
 have hlen:(vs.flatMap fun v=> v.cells.toList).length = len * k:=by
  rw [← hl]; clear hp hl hK hb h0
  induction vs with
  | nil=> simp
  | cons v vs ih=>
   have:=hv v (by simp)
   rw [List.flatMap_cons,List.length_append,ih fun u hu=> hv u (by simp [hu])]
   simp only [Array.length_toList,List.length_cons,this]; rw [Nat.add_mul]; omega
 have hf:=C8L (m:=0) (q:=0) hk vs 0 ((Array.range (len * k)).map (z.cells[· % z.cells.size]!)) hv (by simp [hl])
 rw [hl,← hp] at hf
 have hz:E7 ((Array.range (len * k)).map (z.cells[· % z.cells.size]!)) (0 * k) (vs.flatMap fun v=> v.cells.toList) = (vs.flatMap fun v=> v.cells.toList).toArray:=by
  apply Array.toList_inj.1
  rw [A3p _ _ _ (by simp [-List.length_flatMap,hlen])]
  simp only [Nat.zero_mul,List.take_zero,List.nil_append,hlen,Nat.zero_add]
  rw [List.drop_eq_nil_of_le (by simp)]; simp
 refine D8f h1 h2 hb (by have:0 < len * k:=Nat.mul_pos h0 hk; omega) (hf.trans (by rw [hz])) (by simp [-List.length_flatMap,hlen]) ?_
 simpa using hK
theorem E0 {v0:Value} [h:SL t e k by' z] (hk:0 < k:=by decide) (hb:1 * k ≤ 2 ^ 24:=by decide) (h0:v0.cells.size = k:=by simp) (hK:∀ b,TW κ S w0 (.own e k (.slice (some ⟨b,0,none⟩) 1 1) 1 (v0.cells.toList) :: H) (K (.slice (some ⟨b,0,none⟩) 1 1))) :
  TW κ S w0 H (B5 PR X (Instr.buildSlice t 1 #[(0,v0)]) K):=C1P [v0] hk (by omega) hb rfl rfl (by intro v hv; simp only [List.mem_cons,List.not_mem_nil,or_false] at hv; subst hv; assumption) (by simpa using hK)
theorem D6 {v0 v1:Value} [h:SL t e k by' z] (hk:0 < k:=by decide) (hb:2 * k ≤ 2 ^ 24:=by decide) (h0:v0.cells.size = k:=by simp) (h1:v1.cells.size = k:=by simp) (hK:∀ b,TW κ S w0 (.own e k (.slice (some ⟨b,0,none⟩) 2 2) 2 (v0.cells.toList ++ v1.cells.toList) :: H) (K (.slice (some ⟨b,0,none⟩) 2 2))) :
  TW κ S w0 H (B5 PR X (Instr.buildSlice t 2 #[(0,v0),(1,v1)]) K):=C1P [v0,v1] hk (by omega) hb rfl rfl (by intro v hv; simp only [List.mem_cons,List.not_mem_nil,or_false] at hv; rcases hv with rfl | rfl <;> assumption) (by simpa using hK)
theorem D4 {v0 v1 v2:Value} [h:SL t e k by' z] (hk:0 < k:=by decide) (hb:3 * k ≤ 2 ^ 24:=by decide) (h0:v0.cells.size = k:=by simp) (h1:v1.cells.size = k:=by simp) (h2:v2.cells.size = k:=by simp) (hK:∀ b,TW κ S w0 (.own e k (.slice (some ⟨b,0,none⟩) 3 3) 3 (v0.cells.toList ++ v1.cells.toList ++ v2.cells.toList) :: H) (K (.slice (some ⟨b,0,none⟩) 3 3))) :
  TW κ S w0 H (B5 PR X (Instr.buildSlice t 3 #[(0,v0),(1,v1),(2,v2)]) K):=C1P [v0,v1,v2] hk (by omega) hb rfl rfl (by intro v hv; simp only [List.mem_cons,List.not_mem_nil,or_false] at hv; rcases hv with rfl | rfl | rfl <;> assumption) (by simpa using hK)
theorem D9 {v0 v1 v2 v3 v4:Value} [h:SL t e k by' z] (hk:0 < k:=by decide) (hb:5 * k ≤ 2 ^ 24:=by decide) (h0:v0.cells.size = k:=by simp) (h1:v1.cells.size = k:=by simp) (h2:v2.cells.size = k:=by simp) (h3:v3.cells.size = k:=by simp) (h4:v4.cells.size = k:=by simp) (hK:∀ b,TW κ S w0 (.own e k (.slice (some ⟨b,0,none⟩) 5 5) 5 (v0.cells.toList ++ v1.cells.toList ++ v2.cells.toList ++ v3.cells.toList ++ v4.cells.toList) :: H) (K (.slice (some ⟨b,0,none⟩) 5 5))) :
  TW κ S w0 H (B5 PR X (Instr.buildSlice t 5 #[(0,v0),(1,v1),(2,v2),(3,v3),(4,v4)]) K):=C1P [v0,v1,v2,v3,v4] hk (by omega) hb rfl rfl (by intro v hv; simp only [List.mem_cons,List.not_mem_nil,or_false] at hv; rcases hv with rfl | rfl | rfl | rfl | rfl <;> assumption) (by simpa using hK)
theorem D7 {v0 v1 v2 v3 v4 v5:Value} [h:SL t e k by' z] (hk:0 < k:=by decide) (hb:6 * k ≤ 2 ^ 24:=by decide) (h0:v0.cells.size = k:=by simp) (h1:v1.cells.size = k:=by simp) (h2:v2.cells.size = k:=by simp) (h3:v3.cells.size = k:=by simp) (h4:v4.cells.size = k:=by simp) (h5:v5.cells.size = k:=by simp) (hK:∀ b,TW κ S w0 (.own e k (.slice (some ⟨b,0,none⟩) 6 6) 6 (v0.cells.toList ++ v1.cells.toList ++ v2.cells.toList ++ v3.cells.toList ++ v4.cells.toList ++ v5.cells.toList) :: H) (K (.slice (some ⟨b,0,none⟩) 6 6))) :
  TW κ S w0 H (B5 PR X (Instr.buildSlice t 6 #[(0,v0),(1,v1),(2,v2),(3,v3),(4,v4),(5,v5)]) K):=C1P [v0,v1,v2,v3,v4,v5] hk (by omega) hb rfl rfl (by intro v hv; simp only [List.mem_cons,List.not_mem_nil,or_false] at hv; rcases hv with rfl | rfl | rfl | rfl | rfl | rfl <;> assumption) (by simpa using hK)
theorem U4.form {w:World} {e:TypeId} {k n:Nat} {v:Value} {xs:List Value} (h:U4 w e k v n xs):∃ a c,v = .slice a n c:=by
 rcases h.2 with ⟨rfl,rfl⟩ | ⟨g,cap,cur,rfl,_⟩
 ·exact ⟨_,_,rfl⟩
 ·exact ⟨_,_,rfl⟩
theorem C7J {q:Nat} {xs:List Value} {A:Value → WP} (h:∀ a c,TW κ S w0 (.own e k (.slice a q c) q xs :: H) (A (.slice a q c))) (v:Value):TW κ S w0 (.own e k v q xs :: H) (A v):=fun w hw=> by
 obtain ⟨a,c,rfl⟩:=U4.form (hw.hold _ A1)
 exact h a c w hw
theorem r9 {ty:TypeId} {v x:Value} {q r:Nat} {xs news:List Value} [h:SL t e k by' z] (hs:Sel (.own e k v q xs) H Hr) (hx:M0 κ S w0 H x r news) (hk:0 < k) (hl:news.length = r * k) (hp:news.all plain = true)
  (h63:q + r ≤ maxLen) (hby:(q + r) * by' ≤ 140737488355328) (hK:∀ a c,TW κ S w0 (.own e k (.slice a (q + r) c) (q + r) (xs ++ news) :: Hr) (K (.slice a (q + r) c))):TW κ S w0 H (B5 PR X (A8 .append #[t,t] ty [v,x]) K):=by
 obtain ⟨⟨_,_,_,h1⟩,⟨_,h2⟩,h3⟩:=h.ti
 refine TW.perm ?_ hs.perm
 exact D4U (H'':=fun v' => .own e k v' (q + r) (xs ++ news) :: Hr) h1 h2 h3 hk (fun v' => .here) (fun w hw=> hx w (hw.perm hs.perm.symm)) hl hp h63 hby (C7J hK)
end
instance:TS 3 (.int .i64 0):=⟨_,_,H4,rfl⟩
instance:TS 4 (.bool false):=⟨_,_,ty4,rfl⟩
instance:TS 5 (.int .u8 0):=⟨_,_,ty5,rfl⟩
instance:TS 9 (.string (ByteArray.mk #[])):=⟨_,_,k8,rfl⟩
instance:TG 23 5 (.agg #[(.int .i64 0),(.int .i64 0),(.int .i64 0),(.int .i64 0),(.int .i64 0)]):=⟨_,_,A6U,rfl⟩
instance:TS 24 .nilFunc:=⟨_,_,D2q,rfl⟩
instance:TS 26 (.pointer none):=⟨_,_,C74,rfl⟩
instance:TS 27 (.int .i64 0):=⟨_,_,B23,rfl⟩
instance:TS 30 (.pointer none):=⟨_,_,D2D,rfl⟩
instance:TS 33 (.pointer none):=⟨_,_,C77,rfl⟩
instance:TS 34 (.pointer none):=⟨_,_,C8F,rfl⟩
instance:TS 35 (.pointer none):=⟨_,_,C8d,rfl⟩
instance:TS 36 (.slice none 0 0):=⟨_,_,B78,rfl⟩
instance:SL 36 84 1 24 (.slice none 0 0):=⟨⟨_,_,_,B78⟩,⟨_,B05⟩,rfl⟩
instance:TS 37 (.slice none 0 0):=⟨_,_,A6x,rfl⟩
instance:SL 37 3 1 8 (.int .i64 0):=⟨⟨_,_,_,A6x⟩,⟨_,H4⟩,rfl⟩
instance:TG 42 3 (.agg #[(.bool false),(.bool false),(.bool false)]):=⟨_,_,B3L,rfl⟩
instance:TG 45 6 (.agg #[(.int .i64 0),(.string (ByteArray.mk #[])),(.string (ByteArray.mk #[])),(.int .i64 0),(.int .i64 0),(.int .i64 0)]):=⟨_,_,A6Z,rfl⟩
instance:TG 47 7 (.agg #[(.int .i64 0),(.string (ByteArray.mk #[])),(.string (ByteArray.mk #[])),(.int .i64 0),(.int .i64 0),(.int .i64 0),(.int .i64 0)]):=⟨_,_,B8E,rfl⟩
instance:SL 51 9 1 16 (.string (ByteArray.mk #[])):=⟨⟨_,_,_,C88⟩,⟨_,k8⟩,rfl⟩
instance:TG 55 4 (.agg #[(.int .i64 0),(.int .i64 0),(.bool false),(.int .i64 0)]):=⟨_,_,B3u,rfl⟩
instance:TS 58 (.slice none 0 0):=⟨_,_,B5d,rfl⟩
instance:SL 58 155 2 16 (.agg #[(.int .i64 0),(.int .i64 0)]):=⟨⟨_,_,_,B5d⟩,⟨_,B4S⟩,rfl⟩
instance:TG 79 3 (.agg #[(.int .i64 0),(.int .i64 0),(.slice none 0 0)]):=⟨_,_,B7q,rfl⟩
instance:TG 82 3 (.agg #[(.bool false),(.bool false),(.bool false)]):=⟨_,_,B7e,rfl⟩
instance:TS 84 (.slice none 0 0):=⟨_,_,B05,rfl⟩
instance:SL 84 218 4 40 (.agg #[(.int .i64 0),(.string (ByteArray.mk #[])),(.int .i64 0),(.int .i64 0)]):=⟨⟨_,_,_,B05⟩,⟨_,A3K⟩,rfl⟩
instance:TS 89 (.int .u64 0):=⟨_,_,B3F,rfl⟩
instance:TS 103 (.slice none 0 0):=⟨_,_,B6d,rfl⟩
instance:SL 103 270 2 32 (.agg #[(.int .i64 0),(.slice none 0 0)]):=⟨⟨_,_,_,B6d⟩,⟨_,A72⟩,rfl⟩
instance:TS 104 (.slice none 0 0):=⟨_,_,C4c,rfl⟩
instance:SL 104 277 2 16 (.agg #[(.int .i64 0),(.int .i64 0)]):=⟨⟨_,_,_,C4c⟩,⟨_,D4e⟩,rfl⟩
instance:TS 124 .nilFunc:=⟨_,_,C4x,rfl⟩
instance:TS 143 .nilFunc:=⟨_,_,D0U,rfl⟩
instance:TG 144 10 (.agg #[.nilFunc,.nilFunc,.nilFunc,.nilFunc,.nilFunc,.nilFunc,.nilFunc,.nilFunc,.nilFunc,.nilFunc]):=⟨_,_,D0W,rfl⟩
instance:TG 148 3 (.agg #[(.int .i64 0),(.int .i64 0),(.int .i64 0)]):=⟨_,_,B1D,rfl⟩
instance:TG 155 2 (.agg #[(.int .i64 0),(.int .i64 0)]):=⟨_,_,B4S,rfl⟩
instance:TG 158 2 (.agg #[(.int .i64 0),(.int .i64 0)]):=⟨_,_,B6s,rfl⟩
instance:TS 180 .nilFunc:=⟨_,_,D5g,rfl⟩
instance:TS 192 (.slice none 0 0):=⟨_,_,C4n,rfl⟩
instance:TS 193 (.slice none 0 0):=⟨_,_,B1W,rfl⟩
instance:SL 193 290 2 16 (.agg #[(.int .u64 0),(.int .i64 0)]):=⟨⟨_,_,_,B1W⟩,⟨_,A5p⟩,rfl⟩
instance:TG 195 2 (.agg #[(.slice none 0 0),(.slice none 0 0)]):=⟨_,_,A8N,rfl⟩
instance:TG 205 4 (.agg #[(.string (ByteArray.mk #[])),(.int .i64 0),(.bool false),(.int .i64 0)]):=⟨_,_,A8K,rfl⟩
instance:TG 218 4 (.agg #[(.int .i64 0),(.string (ByteArray.mk #[])),(.int .i64 0),(.int .i64 0)]):=⟨_,_,A3K,rfl⟩
instance:TG 224 3 (.agg #[(.string (ByteArray.mk #[])),(.string (ByteArray.mk #[])),(.int .i64 0)]):=⟨_,_,B4f,rfl⟩
instance:TG 226 3 (.agg #[(.string (ByteArray.mk #[])),(.string (ByteArray.mk #[])),(.int .i64 0)]):=⟨_,_,B4V,rfl⟩
instance:SL 228 124 1 8 .nilFunc:=⟨⟨_,_,_,C4z⟩,⟨_,C4x⟩,rfl⟩
instance:TS 229 (.slice none 0 0):=⟨_,_,B67,rfl⟩
instance:SL 229 266 1 16 .nilIface:=⟨⟨_,_,_,B67⟩,⟨_,C4l⟩,rfl⟩
instance:SL 259 158 2 16 (.agg #[(.int .i64 0),(.int .i64 0)]):=⟨⟨_,_,_,C38⟩,⟨_,B6s⟩,rfl⟩
instance:TG 263 0 (.agg #[]):=⟨_,_,B4J,rfl⟩
instance:TS 266 .nilIface:=⟨_,_,C4l,rfl⟩
instance:TG 270 2 (.agg #[(.int .i64 0),(.slice none 0 0)]):=⟨_,_,A72,rfl⟩
instance:TS 279 (.slice none 0 0):=⟨_,_,C4F,rfl⟩
instance:TS 281 (.slice none 0 0):=⟨_,_,B94,rfl⟩
instance:SL 281 284 2 16 (.agg #[(.int .u64 0),(.int .i64 0)]):=⟨⟨_,_,_,B94⟩,⟨_,B06⟩,rfl⟩
instance:TG 284 2 (.agg #[(.int .u64 0),(.int .i64 0)]):=⟨_,_,B06,rfl⟩
instance:TG 290 2 (.agg #[(.int .u64 0),(.int .i64 0)]):=⟨_,_,A5p,rfl⟩
instance:TS 300 (.pointer none):=⟨_,_,B9z,rfl⟩
instance:TS 301 (.slice none 0 0):=⟨_,_,A5s,rfl⟩
instance:SL 301 5 1 1 (.int .u8 0):=⟨⟨_,_,_,A5s⟩,⟨_,ty5⟩,rfl⟩
instance:TG 305 2 (.agg #[(.pointer none),(.slice none 0 0)]):=⟨_,_,D0c,rfl⟩
instance:TS 324 (.slice none 0 0):=⟨_,_,C4C,rfl⟩
instance:TG 330 2 (.agg #[.nilFunc,(.int .i64 0)]):=⟨_,_,B4a,rfl⟩
instance:TG 355 38 (.agg #[(.int .u8 0),(.int .u8 0),(.int .u8 0),(.int .u8 0),(.int .u8 0),(.int .u8 0),(.int .u8 0),(.int .u8 0),(.int .u8 0),(.int .u8 0),(.int .u8 0),(.int .u8 0),(.int .u8 0),(.int .u8 0),(.int .u8 0),(.int .u8 0),(.int .u8 0),(.int .u8 0),(.int .u8 0),(.int .u8 0),(.int .u8 0),(.int .u8 0),(.int .u8 0),(.int .u8 0),(.int .u8 0),(.int .u8 0),(.int .u8 0),(.int .u8 0),(.int .u8 0),(.int .u8 0),(.int .u8 0),(.int .u8 0),(.int .u8 0),(.int .u8 0),(.int .u8 0),(.int .u8 0),(.int .u8 0),(.int .u8 0)]):=⟨_,_,C4W,rfl⟩
instance:TS 368 .nilFunc:=⟨_,_,D4J,rfl⟩
instance:TS 370 (.int .u64 0):=⟨_,_,D0C,rfl⟩
instance:SL 375 330 2 16 (.agg #[.nilFunc,(.int .i64 0)]):=⟨⟨_,_,_,C4a⟩,⟨_,B4a⟩,rfl⟩
instance:TG 384 5 (.agg #[(.string (ByteArray.mk #[])),(.string (ByteArray.mk #[])),(.string (ByteArray.mk #[])),(.int .i64 0),(.int .i64 0)]):=⟨_,_,A8c,rfl⟩
instance:TG 386 3 (.agg #[(.int .i64 0),(.int .i64 0),(.int .i64 0)]):=⟨_,_,B4W,rfl⟩
instance:TG 409 3 (.agg #[(.string (ByteArray.mk #[])),(.string (ByteArray.mk #[])),(.int .i64 0)]):=⟨_,_,B4j,rfl⟩
instance:TG 412 3 (.agg #[(.string (ByteArray.mk #[])),(.string (ByteArray.mk #[])),(.int .i64 0)]):=⟨_,_,B4d,rfl⟩
@[simp] theorem D5B (a:Option Addr) (x y:Operand) (K:Value → WP):A6 PR (H9 .eql 131 x y (.pointer a) (.pointer none)) K = K (.bool a.isNone):=funext fun w=> C4T a x y K w
@[simp] theorem D7E (a:Option Addr) (x y:Operand) (K:Value → WP):A6 PR (H9 .eql 26 x y (.pointer a) (.pointer none)) K = K (.bool a.isNone):=funext fun w=> C7N a x y K w
@[simp] theorem D7x (a:Option Addr) (x y:Operand) (K:Value → WP):A6 PR (H9 .eql 30 x y (.pointer a) (.pointer none)) K = K (.bool a.isNone):=funext fun w=> C6N a x y K w
@[simp] theorem D4C (a:Option Addr) (x y:Operand) (K:Value → WP):A6 PR (H9 .eql 300 x y (.pointer a) (.pointer none)) K = K (.bool a.isNone):=funext fun w=> C5D a x y K w
@[simp] theorem D9P (a0 b0:Bool) (a1 b1:Bool) (a2 b2:Bool) (x y:Operand) (K:Value → WP):A6 PR (H9 .eql 42 x y (.agg #[.bool a0,.bool a1,.bool a2]) (.agg #[.bool b0,.bool b1,.bool b2])) K = K (.bool ((a0 == b0) && ((a1 == b1) && ((a2 == b2) && true)))):=funext fun w=> C7u a0 b0 a1 b1 a2 b2 x y K w
@[simp] theorem D8d (a0 b0:Int) (a1 b1:Int) (a2 b2:Bool) (a3 b3:Int) (x y:Operand) (K:Value → WP):A6 PR (H9 .eql 55 x y (.agg #[.int .i64 a0,.int .i64 a1,.bool a2,.int .i64 a3]) (.agg #[.int .i64 b0,.int .i64 b1,.bool b2,.int .i64 b3])) K = K (.bool (decide (a0 = b0) && (decide (a1 = b1) && ((a2 == b2) && (decide (a3 = b3) && true))))):=funext fun w=> C8M a0 b0 a1 b1 a2 b2 a3 b3 x y K w
@[simp] theorem D5q (a:Option Addr) (x y:Operand) (K:Value → WP):A6 PR (H9 .neq 131 x y (.pointer a) (.pointer none)) K = K (.bool (!a.isNone)):=funext fun w=> C4k a x y K w
@[simp] theorem D6q (a0 b0:Int) (a1 b1:ByteArray) (a2 b2:Int) (a3 b3:Int) (x y:Operand) (K:Value → WP):A6 PR (H9 .neq 218 x y (.agg #[.int .i64 a0,.string a1,.int .i64 a2,.int .i64 a3]) (.agg #[.int .i64 b0,.string b1,.int .i64 b2,.int .i64 b3])) K = K (.bool !(decide (a0 = b0) && ((a1 == b1) && (decide (a2 = b2) && (decide (a3 = b3) && true))))):=funext fun w=> C7p a0 b0 a1 b1 a2 b2 a3 b3 x y K w
@[simp] theorem D7U (a:Option Addr) (x y:Operand) (K:Value → WP):A6 PR (H9 .neq 26 x y (.pointer a) (.pointer none)) K = K (.bool (!a.isNone)):=funext fun w=> C7D a x y K w
@[simp] theorem D6u (a:Option Addr) (x y:Operand) (K:Value → WP):A6 PR (H9 .neq 33 x y (.pointer a) (.pointer none)) K = K (.bool (!a.isNone)):=funext fun w=> C6g a x y K w
@[simp] theorem D6p (a:Option Addr) (x y:Operand) (K:Value → WP):A6 PR (H9 .neq 34 x y (.pointer a) (.pointer none)) K = K (.bool (!a.isNone)):=funext fun w=> C6d a x y K w
@[simp] theorem D64 (a:Option Addr) (x y:Operand) (K:Value → WP):A6 PR (H9 .neq 35 x y (.pointer a) (.pointer none)) K = K (.bool (!a.isNone)):=funext fun w=> C5w a x y K w
@[simp] theorem D8U (a0 b0:Bool) (a1 b1:Bool) (a2 b2:Bool) (x y:Operand) (K:Value → WP):A6 PR (H9 .neq 42 x y (.agg #[.bool a0,.bool a1,.bool a2]) (.agg #[.bool b0,.bool b1,.bool b2])) K = K (.bool !((a0 == b0) && ((a1 == b1) && ((a2 == b2) && true)))):=funext fun w=> C9N a0 b0 a1 b1 a2 b2 x y K w
@[simp] theorem D8g (a0 b0:Int) (a1 b1:Int) (a2 b2:Bool) (a3 b3:Int) (x y:Operand) (K:Value → WP):A6 PR (H9 .neq 55 x y (.agg #[.int .i64 a0,.int .i64 a1,.bool a2,.int .i64 a3]) (.agg #[.int .i64 b0,.int .i64 b1,.bool b2,.int .i64 b3])) K = K (.bool !(decide (a0 = b0) && (decide (a1 = b1) && ((a2 == b2) && (decide (a3 = b3) && true))))):=funext fun w=> C71 a0 b0 a1 b1 a2 b2 a3 b3 x y K w
def B7g (n i:Nat):List Value := [.int .i64 (i:Int),.int .u64 (8 * ((n:Int) - 1 - i))]
abbrev C65 (b:Nat):Value:=.func (.func 243) #[] #[.pointer (some ⟨b,0,none⟩)]
theorem C08 (w:World) (n:Int):Fn PR B8 199 #[.int .i64 n] w (Rn [] w (fun b v=> v = C65 b) fun b=> [.pt b (.cells #[.int .i64 n] 3)]):=by
 refine B7l (TW.go (κ:=false) (S := []) ?_)
 unfold A99
 (have z:=trivial;repeat((first|clear z|with_reducible first|apply A3|refine A4 fun _=>?_|refine A5 fun _=>?_);try simp(disch:=solve|omega|assumption|repeat(first|exact A1|exact uH|apply A2|apply uT)|(simp;try omega)|fail)[]))
 rename_i b
 exact u7 b rfl (by simp)
theorem C1Q (b:Nat) {n:Nat} (hn:n ≤ 8):B00 (C65 b) [.pt b (.cells #[.int .i64 (n:Int)] 3)] (fun _ _=> True) ((List.range n).map (B7g n)):=by
 refine ⟨_,_,_,rfl,fun l J E hJ hE stJ stE hy w0 h0=> ?_⟩
 refine B45 (B4q (TW.at (κ:=true) ?_ (hJ _ _ _ h0).1))
 unfold A5f
 (have z:=trivial;repeat((first|clear z|with_reducible first|apply A3|refine A4 fun _=>?_|refine A5 fun _=>?_);try simp(disch:=solve|omega|assumption|repeat(first|exact A1|exact uH|apply A2|apply uT)|(simp;try omega)|fail)[]))
 refine B0G n (fun i=> i) (fun _=> _) hJ stJ h0 fun i a hi hJi _ L hL=> ?_
 by_cases hlt:i < n
 ·(have z:=trivial;repeat((first|clear z|with_reducible first|apply A3|refine A4 fun _=>?_|refine A5 fun _=>?_);try simp(disch:=solve|omega|assumption|repeat(first|exact A1|exact uH|apply A2|apply uT)|(simp;try omega)|fail)[hlt]))
  refine B4L hJ hE stJ hy hJi (by simpa using hlt) (by simp [B7g]) (fun w3 h=> ?_) (fun w3 h=> ?_)
  ·(have z:=trivial;repeat((first|clear z|with_reducible first|apply A3|refine A4 fun _=>?_|refine A5 fun _=>?_);try simp(disch:=solve|omega|assumption|repeat(first|exact A1|exact uH|apply A2|apply uT)|(simp;try omega)|fail)[]))
   exact fun w' hw' => hL hlt w' (stJ _ _ _ _ _ h hw')
  ·(have z:=trivial;repeat((first|clear z|with_reducible first|apply A3|refine A4 fun _=>?_|refine A5 fun _=>?_);try simp(disch:=solve|omega|assumption|repeat(first|exact A1|exact uH|apply A2|apply uT)|(simp;try omega)|fail)[]))
   exact A91 stE h
 ·obtain rfl:i = n:=by omega
  (have z:=trivial;repeat((first|clear z|with_reducible first|apply A3|refine A4 fun _=>?_|refine A5 fun _=>?_);try simp(disch:=solve|omega|assumption|repeat(first|exact A1|exact uH|apply A2|apply uT)|(simp;try omega)|fail)[]))
  exact B0C stJ (by simpa using hJi)
def C9 (s:ByteArray) (i:Nat):Nat:=(s.data.getD i 0).toNat
def a6 (s:ByteArray) (a:Nat):Nat → Nat
 | 0=> 0
 | i + 1=> a6 s a i * 256 + C9 s (a + i)
theorem P6 (s:ByteArray) (i:Nat):C9 s i < 256:=(s.data.getD i 0).toNat_lt
theorem A6M (s:ByteArray) (a i:Nat):a6 s a i < 256 ^ i:=by
 induction i with
 | zero=> simp [a6]
 | succ i ih=>
  have:=P6 s (a + i)
  simp only [a6,Nat.pow_succ]
  omega
theorem x9 {s:ByteArray} {i:Nat} (h:i < s.size):∃ b:UInt8,s[i]? = some b ∧ b.toNat = C9 s i:=by
 refine ⟨s[i],by simp [h],?_⟩
 have h':i < s.data.size:=h
 have e:s.data.getD i 0 = s[i]:=by rw [Array.getD_eq_getD_getElem?,Array.getElem?_eq_getElem h']; rfl
 rw [C9,e]
def x7 (s:ByteArray) (a n:Int):Bool:=decide (1 ≤ n ∧ n ≤ 8 ∧ 0 ≤ a ∧ a ≤ s.size - n)
def A3V (s:ByteArray) (a n:Int):Int:=if x7 s a n = true then (a6 s a.toNat n.toNat:Nat) else 0
theorem A4y (w:World) (s:ByteArray) (hs:s.size < 2 ^ 63) (a n:Int) :
  Fn PR B8 145 #[.string s,.int .i64 a,.int .i64 n] w (fun v w' => v = .tuple #[.int .u64 (A3V s a n),.bool (x7 s a n)] ∧ C7 [] w w'):=by
 refine Fn.pure (C1G (TW.go (κ:=false) (S := []) ?_))
 unfold B21
 by_cases hok:x7 s a n = true
 case neg=>
  have hv:A3V s a n = 0:=if_neg hok
  have hok':x7 s a n = false:=by simpa using hok
  rw [hv,hok']
  have hc:n < 1 ∨ 8 < n ∨ a < 0 ∨ (s.size:Int) - n < a:=by
   simp only [x7,decide_eq_true_eq] at hok; omega
  by_cases h1:n < 1
  ·(have z:=trivial;repeat((first|clear z|with_reducible first|apply A3|refine A4 fun _=>?_|refine A5 fun _=>?_);try simp(disch:=solve|omega|assumption|repeat(first|exact A1|exact uH|apply A2|apply uT)|(simp;try omega)|fail)[h1])); exact A9 rfl
  by_cases h2:8 < n
  ·(have z:=trivial;repeat((first|clear z|with_reducible first|apply A3|refine A4 fun _=>?_|refine A5 fun _=>?_);try simp(disch:=solve|omega|assumption|repeat(first|exact A1|exact uH|apply A2|apply uT)|(simp;try omega)|fail)[h1,h2])); exact A9 rfl
  by_cases h3:a < 0
  ·(have z:=trivial;repeat((first|clear z|with_reducible first|apply A3|refine A4 fun _=>?_|refine A5 fun _=>?_);try simp(disch:=solve|omega|assumption|repeat(first|exact A1|exact uH|apply A2|apply uT)|(simp;try omega)|fail)[h1,h2,h3])); exact A9 rfl
  have h4:(s.size:Int) - n < a:=by omega
  (have z:=trivial;repeat((first|clear z|with_reducible first|apply A3|refine A4 fun _=>?_|refine A5 fun _=>?_);try simp(disch:=solve|omega|assumption|repeat(first|exact A1|exact uH|apply A2|apply uT)|(simp;try omega)|fail)[h1,h2,h3,h4])); exact A9 rfl
 have hv:A3V s a n = (a6 s a.toNat n.toNat:Nat):=if_pos hok
 rw [hv,hok]
 simp only [x7,decide_eq_true_eq] at hok
 obtain ⟨m,rfl⟩:∃ m:Nat,n = m:=⟨n.toNat,by omega⟩
 obtain ⟨k,rfl⟩:∃ k:Nat,a = k:=⟨a.toNat,by omega⟩
 have h1:¬ (m:Int) < 1:=by omega
 have h2:¬ 8 < (m:Int):=by omega
 have h4:¬ (s.size:Int) - m < k:=by omega
 have h5:¬ (k:Int) < 0:=by omega
 (have z:=trivial;repeat((first|clear z|with_reducible first|apply A3|refine A4 fun _=>?_|refine A5 fun _=>?_);try simp(disch:=solve|omega|assumption|repeat(first|exact A1|exact uH|apply A2|apply uT)|(simp;try omega)|fail)[h1,h2,h4,h5]))
 rename_i bs ba bv
 refine H3 A8A (fun w' _=> C08 w' m) ?_
 rintro b v rfl
 refine A8j (C1Q b (n:=m) (by omega)) (by simp [B7g]) (fun _ (_:Unit)=> True) (fun i _=> [.pt bv (.cells #[.int .u64 ((a6 s k i * 256 ^ (m - i):Nat):Int)] 89),.pt ba (.cells #[.int .i64 (k:Int)] 3),.pt bs (.cells #[.string s] 9)])
  (fun _ (_:Unit)=> False) (fun _=> []) () trivial ?_ ?_ ?_ ?_ (by simp [a6])
 ·intros; trivial
 ·rintro i hi _ F _ K' hK _
  have hi':i < m:=by simpa using hi
  obtain ⟨by0,hb0,hb1⟩:=x9 (s:=s) (i:=k + i) (by omega)
  have hidx:((k:Int) + i).toNat = k + i:=by omega
  have hbl:=P6 s (k + i)
  rw [← hidx] at hb0
  have hsh:(0:Int) ≤ 8 * ((m:Int) - 1 - i):=by omega
  simp only [List.getElem_map,List.getElem_range,B7g,VF.app]
  (have z:=trivial;repeat((first|clear z|with_reducible first|apply A3|refine A4 fun _=>?_|refine A5 fun _=>?_);try simp(disch:=solve|omega|assumption|repeat(first|exact A1|exact uH|apply A2|apply uT)|(simp;try omega)|fail)[c8]))
  refine TW.eqH ?_ (hK () trivial)
  have hlt:(a6 s k i * 256 + C9 s (k + i)) * 256 ^ (m - 1 - i) < 2 ^ 64:=by
   have hA:a6 s k (i + 1) < 256 ^ (i + 1):=A6M s k (i + 1)
   have h8:256 ^ (i + 1) * 256 ^ (m - 1 - i) ≤ 2 ^ 64:=by
    rw [← Nat.pow_add,show (2:Nat) ^ 64 = 256 ^ 8 from rfl]
    exact Nat.pow_le_pow_right (by omega) (by omega)
   exact Nat.lt_of_lt_of_le (Nat.mul_lt_mul_of_pos_right hA (Nat.pow_pos (by omega))) h8
  have hval:=D1U hbl hlt (by omega)
  rw [show m - (i + 1) = m - 1 - i from by omega]
  simp [a6,← hval]
  rw [hb1,show (8 * ((m:Int) - 1 - i)).toNat = 8 * (m - 1 - i) from by omega,show m - i = m - 1 - i + 1 from by omega]
 ·rintro _ _
  (have z:=trivial;repeat((first|clear z|with_reducible first|apply A3|refine A4 fun _=>?_|refine A5 fun _=>?_);try simp(disch:=solve|omega|assumption|repeat(first|exact A1|exact uH|apply A2|apply uT)|(simp;try omega)|fail)[]))
  exact A9 (by simp)
 ·rintro _ _ h; exact h.elim
def A8M (v:Int) (n i:Nat):Int:=IntKind.u8.wrap (v.fdiv (2 ^ min (8 * ((n:Int) - 1 - i)).toNat IntKind.u64.bits))
def A0T (v:Int) (n i:Nat):List Int:=(List.range n).map fun j=> if j < i then A8M v n j else 0
def F3 (v n:Int):ByteArray:=if 1 ≤ n ∧ n ≤ 8 then V2 (A0T v n.toNat n.toNat) else ByteArray.mk #[]
theorem C9a (v:Int) {n i:Nat} (h:i < n):(A0T v n i).set i (A8M v n i) = A0T v n (i + 1):=by
 apply List.ext_getElem (by simp [A0T])
 intro j h1 h2
 simp only [A0T,List.length_set,List.length_map,List.length_range] at h1
 rw [List.getElem_set]
 simp only [A0T,List.getElem_map,List.getElem_range]
 by_cases hij:i = j
 ·subst hij; simp
 ·by_cases hj:j < i
  ·simp [hij,hj,Nat.lt_succ_of_lt hj]
  ·have:¬ j < i + 1:=by omega
   simp [hij,hj,this]
def A9m (v:Int) (n i:Nat):Array Value:=((A0T v n i).map (Value.int .u8)).toArray
theorem C5n (v:Int) {m:Nat} (h:m ≤ 8):Builtin.zeroCells (Value.int .u8 0).cells m = A9m v m 0:=by
 have:m = 0 ∨ m = 1 ∨ m = 2 ∨ m = 3 ∨ m = 4 ∨ m = 5 ∨ m = 6 ∨ m = 7 ∨ m = 8:=by omega
 rcases this with rfl | rfl | rfl | rfl | rfl | rfl | rfl | rfl | rfl <;>
  (apply Array.ext'; simp [Builtin.zeroCells,A9m,A0T,List.range,List.range.loop])
@[simp] theorem C5P {v n:Int} (h1:1 ≤ n) (h2:n ≤ 8):(F3 v n).size = n.toNat:=by simp [F3,h1,h2,A0T]
theorem j9 (w:World) (v n:Int) :
  Fn PR B8 176 #[.int .u64 v,.int .i64 n] w (fun u w' => u = .string (F3 v n) ∧ C7 [] w w'):=by
 refine Fn.pure (C0A (TW.go (κ:=false) (S := []) ?_))
 unfold B3Q
 by_cases hok:1 ≤ n ∧ n ≤ 8
 case neg=>
  have hv:F3 v n = ByteArray.mk #[]:=if_neg hok
  rw [hv]
  by_cases h1:n < 1
  ·(have z:=trivial;repeat((first|clear z|with_reducible first|apply A3|refine A4 fun _=>?_|refine A5 fun _=>?_);try simp(disch:=solve|omega|assumption|repeat(first|exact A1|exact uH|apply A2|apply uT)|(simp;try omega)|fail)[h1])); exact A9 rfl
  ·have h2:8 < n:=by omega
   (have z:=trivial;repeat((first|clear z|with_reducible first|apply A3|refine A4 fun _=>?_|refine A5 fun _=>?_);try simp(disch:=solve|omega|assumption|repeat(first|exact A1|exact uH|apply A2|apply uT)|(simp;try omega)|fail)[h1,h2])); exact A9 rfl
 have hv:F3 v n = V2 (A0T v n.toNat n.toNat):=if_pos hok
 rw [hv]
 obtain ⟨m,rfl⟩:∃ m:Nat,n = m:=⟨n.toNat,by omega⟩
 have h1:¬ (m:Int) < 1:=by omega
 have h2:¬ 8 < (m:Int):=by omega
 (have z:=trivial;repeat((first|clear z|with_reducible first|apply A3|refine A4 fun _=>?_|refine A5 fun _=>?_);try simp(disch:=solve|omega|assumption|repeat(first|exact A1|exact uH|apply A2|apply uT)|(simp;try omega)|fail)[h1,h2]))
 refine A1m (by omega) (by omega) (by omega) (by omega) fun bs=> ?_
 rw [Int.toNat_natCast,C5n v (by omega)]
 (have z:=trivial;repeat((first|clear z|with_reducible first|apply A3|refine A4 fun _=>?_|refine A5 fun _=>?_);try simp(disch:=solve|omega|assumption|repeat(first|exact A1|exact uH|apply A2|apply uT)|(simp;try omega)|fail)[h1,h2]))
 rename_i bv bb
 refine H3 A8A (fun w' _=> C08 w' m) ?_
 rintro b v rfl
 refine A8j (C1Q b (n:=m) (by omega)) (by simp [B7g]) (fun _ (_:Unit)=> True) (fun i _=> [.pt bb (.cells #[.slice (some ⟨bs,0,none⟩) m m] 301),
   .own 5 1 (.slice (some ⟨bs,0,none⟩) m m) m (A9m v m i).toList,.pt bv (.cells #[.int .u64 v] 89)])
  (fun _ (_:Unit)=> False) (fun _=> []) () trivial ?_ ?_ ?_ ?_ (by simp)
 ·intros; trivial
 ·rintro i hi _ F _ K' hK _
  have hi':i < m:=by simpa using hi
  have hsh:(0:Int) ≤ 8 * ((m:Int) - 1 - i):=by omega
  simp only [List.getElem_map,List.getElem_range,B7g,VF.app]
  (have z:=trivial;repeat((first|clear z|with_reducible first|apply A3|refine A4 fun _=>?_|refine A5 fun _=>?_);try simp(disch:=solve|omega|assumption|repeat(first|exact A1|exact uH|apply A2|apply uT)|(simp;try omega)|fail)[]))
  refine Q9 (by (repeat constructor)) (by simp) (by simp [A9m,A0T]; omega) (by simp) ?_
  refine TW.eqH ?_ (hK () trivial)
  have e:Y8 (A9m v m i).toList i [.int .u8 (A8M v m i)] = (A9m v m (i + 1)).toList:=by
   rw [C0K (by simp [A9m,A0T]; omega)]; simp [A9m,← C9a v hi',List.map_set]
  rw [← e]; simp [A8M]
 ·rintro _ _
  (have z:=trivial;repeat((first|clear z|with_reducible first|apply A3|refine A4 fun _=>?_|refine A5 fun _=>?_);try simp(disch:=solve|omega|assumption|repeat(first|exact A1|exact uH|apply A2|apply uT)|(simp;try omega)|fail)[]))
  have hlen:(A0T v m m).length = m:=by simp [A0T]
  have:=fun w' K (hr:P3 w' bs 0 ((A0T v m m).map (Value.int .u8)))=> @B5C K w' bs 0 m _ hr
  rw [hlen] at this
  rw [D33 fun w' hw' => this w' _ (by simpa [A9m] using hw'.ownr (e:=5) (k:=1) (q:=m) (c:=m) (xs:=(A9m v m m).toList) (by (repeat constructor)))]
  simp only [D39]
  exact A9 rfl
 ·rintro _ _ h; exact h.elim
end Go.Proofs.YtjobgnabneddjaaGreat
