/-
  THE CONTRACT of micro.Check.
-/
import Derived.Test.YtklofgfkaaoipaaGreatDoorMForms
import Derived.Test.YtklofgfkaaoipaaGreatDoorMOps
import Derived.Deep.DeepCutAuto
import Derived.Deep.RegionWith
import Derived.Deep.Light
import Derived.Deep.RegionHeld3
import Derived.Test.YtklofgfkaaoipaaGreatDoorMHd
set_option maxHeartbeats 16000000
set_option maxRecDepth 100000
set_option linter.unusedSimpArgs false
set_option linter.unusedVariables false
namespace Go.Proofs.YtklofgfkaaoipaaGreatDoor
open Go.RowKit Go.Proofs.Tryz
theorem zhn (v:Value)(a b:Int)(w:World)(l:a<0)(c:yC w):
  Calls prog 16 #[v,.agg #[.int .i64 a,.int .i64 b]] w fun d g=>(∃h i,d= .returned (.iface h i))∧Below w.heap.size w g:=by
 have j:=Z (c.below ((Below.refl _ _).alloc (Nat.le_refl _) (.cells #[.int .i64 a,.int .i64 b] 23)));clear c;have:∀(w:World),(Instr.index 23 (.agg #[.int .i64 a,.int .i64 b]) (.int .i64 0)).run prog w= .ok (.int .i64 a) w:=fun _=>by kernel_rfl
 have:∀(w:World),(Instr.index 23 (.agg #[.int .i64 a,.int .i64 b]) (.int .i64 1)).run prog w= .ok (.int .i64 b) w:=fun _=>by kernel_rfl
 go_enter func16,ntmps16;go_wp2_with fail;refine wp_loop_rounds 2 ?_;rw [rounds_succ];go_wp2_with (go_at_call 14;go_must (refine (yV _ _ _ _ j).mono ?_;rintro d _ ⟨_,rfl,e,f⟩;obtain ⟨_,_,rfl⟩:=e.form;have k:=Z (yF f).2.1;clear e f));go_ret;exact ⟨⟨_,_,rfl⟩,k⟩
theorem zhm (v:Value)(a b:Int)(w:World)(l:¬a<0)(m:65536<a)(c:yC w):
  Calls prog 16 #[v,.agg #[.int .i64 a,.int .i64 b]] w fun d g=>(∃h i,d= .returned (.iface h i))∧Below w.heap.size w g:=by
 have j:=Z (c.below ((Below.refl _ _).alloc (Nat.le_refl _) (.cells #[.int .i64 a,.int .i64 b] 23)));clear c;have:∀(w:World),(Instr.index 23 (.agg #[.int .i64 a,.int .i64 b]) (.int .i64 0)).run prog w= .ok (.int .i64 a) w:=fun _=>by kernel_rfl
 have:∀(w:World),(Instr.index 23 (.agg #[.int .i64 a,.int .i64 b]) (.int .i64 1)).run prog w= .ok (.int .i64 b) w:=fun _=>by kernel_rfl
 go_enter func16,ntmps16;go_wp2_with fail;refine wp_loop_rounds 2 ?_;rw [rounds_succ];go_wp2_with (go_at_call 14;go_must (refine (yV _ _ _ _ j).mono ?_;rintro d _ ⟨_,rfl,e,f⟩;obtain ⟨_,_,rfl⟩:=e.form;have k:=Z (yF f).2.1;clear e f));go_ret;exact ⟨⟨_,_,rfl⟩,k⟩
theorem zhp (v:Value)(a b:Int)(w:World)(l:¬a<0)(m:¬65536<a)(n:b<0)(c:yC w):
  Calls prog 16 #[v,.agg #[.int .i64 a,.int .i64 b]] w fun d g=>(∃h i,d= .returned (.iface h i))∧Below w.heap.size w g:=by
 have j:=Z (c.below ((Below.refl _ _).alloc (Nat.le_refl _) (.cells #[.int .i64 a,.int .i64 b] 23)));clear c;have:∀(w:World),(Instr.index 23 (.agg #[.int .i64 a,.int .i64 b]) (.int .i64 0)).run prog w= .ok (.int .i64 a) w:=fun _=>by kernel_rfl
 have:∀(w:World),(Instr.index 23 (.agg #[.int .i64 a,.int .i64 b]) (.int .i64 1)).run prog w= .ok (.int .i64 b) w:=fun _=>by kernel_rfl
 go_enter func16,ntmps16;go_wp2_with fail;refine wp_loop_rounds 2 ?_;rw [rounds_succ];go_wp2_with fail;rw [rounds_succ];go_wp2_with (go_at_call 14;go_must (refine (yV _ _ _ _ j).mono ?_;rintro d _ ⟨_,rfl,e,f⟩;obtain ⟨_,_,rfl⟩:=e.form;have k:=Z (yF f).2.1;clear e f));go_ret;exact ⟨⟨_,_,rfl⟩,k⟩
theorem zho (v:Value)(a b:Int)(w:World)(l:¬a<0)(m:¬65536<a)(n:¬b<0)(o:65536<b)(c:yC w):
  Calls prog 16 #[v,.agg #[.int .i64 a,.int .i64 b]] w fun d g=>(∃h i,d= .returned (.iface h i))∧Below w.heap.size w g:=by
 have j:=Z (c.below ((Below.refl _ _).alloc (Nat.le_refl _) (.cells #[.int .i64 a,.int .i64 b] 23)));clear c;have:∀(w:World),(Instr.index 23 (.agg #[.int .i64 a,.int .i64 b]) (.int .i64 0)).run prog w= .ok (.int .i64 a) w:=fun _=>by kernel_rfl
 have:∀(w:World),(Instr.index 23 (.agg #[.int .i64 a,.int .i64 b]) (.int .i64 1)).run prog w= .ok (.int .i64 b) w:=fun _=>by kernel_rfl
 go_enter func16,ntmps16;go_wp2_with fail;refine wp_loop_rounds 2 ?_;rw [rounds_succ];go_wp2_with fail;rw [rounds_succ];go_wp2_with (go_at_call 14;go_must (refine (yV _ _ _ _ j).mono ?_;rintro d _ ⟨_,rfl,e,f⟩;obtain ⟨_,_,rfl⟩:=e.form;have k:=Z (yF f).2.1;clear e f));go_ret;exact ⟨⟨_,_,rfl⟩,k⟩
theorem zkP (g:Option Addr)(n h:Nat)(a b:Int)(w:World)(o:¬a<0)(p:¬65536<a)(q:¬b<0)(r:¬65536<b)(s:16384<n)(t:n≤1000000)(c:yC w):
  Calls prog 16 #[.slice g n h,.agg #[.int .i64 a,.int .i64 b]] w fun d i=>(∃j k,d= .returned (.iface j k))∧Below w.heap.size w i:=by
 have l:=Z (c.below ((Below.refl _ _).alloc (Nat.le_refl _) (.cells #[.int .i64 a,.int .i64 b] 23)));clear c;have:∀(w:World),(Instr.index 23 (.agg #[.int .i64 a,.int .i64 b]) (.int .i64 0)).run prog w= .ok (.int .i64 a) w:=fun _=>by kernel_rfl
 have:∀(w:World),(Instr.index 23 (.agg #[.int .i64 a,.int .i64 b]) (.int .i64 1)).run prog w= .ok (.int .i64 b) w:=fun _=>by kernel_rfl
 go_enter func16,ntmps16;go_wp2_with fail;refine wp_loop_rounds 3 ?_;rw [rounds_succ];go_wp2_with fail;rw [rounds_succ];go_wp2_with fail;rw [rounds_succ];go_wp2_with (go_at_call 14;go_must (refine (yV _ _ _ _ l).mono ?_;rintro d _ ⟨_,rfl,e,f⟩;obtain ⟨_,_,rfl⟩:=e.form;have m:=Z (yF f).2.1;clear e f));go_ret;exact ⟨⟨_,_,rfl⟩,m⟩
def zn0:Option (List Int)→Ending→Prop
 |some _,a=>a= .returned .nilIface
 |none,a=>∃b c,a= .returned (.iface b c)
theorem Arr.later' {w a:World}{k:Nat}{v:Value}{n:Nat}{b:List Value}(d:Arr w.heap.size w k v n b)(c:Below w.heap.size w a):Arr a.heap.size a k v n b:=d.later c c.size
theorem zeb (v:Value)(ops:List MOp)(a b:Int)(w:World)(z:¬a<0)(A:¬65536<a)(B:¬b<0)(C:¬65536<b)(D:ops.length≤16384)(d:Arr w.heap.size w 6 v ops.length (qz ops))(g:∀o∈ops,o.c<18446744073709551616)(h:yC w)(r:Option (List Int))(i:zaA ops a b=r):
  Calls prog 16 #[v,.agg #[.int .i64 a,.int .i64 b]] w fun e p=>zn0 r e∧Below w.heap.size w p:=by
 have j:=Z (h.below ((Below.refl _ _).alloc (Nat.le_refl _) (.cells #[.int .i64 a,.int .i64 b] 23)));have k:=Z (d.later' ((Below.refl _ _).alloc (Nat.le_refl _) (.cells #[.int .i64 a,.int .i64 b] 23)));obtain ⟨_,_,rfl,_,q,s,t⟩:=d.open;have l:=Z g;have m:=Z i;clear h d g i q s t;have:∀(w:World),(Instr.index 23 (.agg #[.int .i64 a,.int .i64 b]) (.int .i64 0)).run prog w= .ok (.int .i64 a) w:=fun _=>by kernel_rfl
 have:∀(w:World),(Instr.index 23 (.agg #[.int .i64 a,.int .i64 b]) (.int .i64 1)).run prog w= .ok (.int .i64 b) w:=fun _=>by kernel_rfl
 cases r with
 |none=>
  go_enter func16,ntmps16;go_wp2_with fail;refine wp_loop_rounds 3 ?_;rw [rounds_succ];go_wp2_with fail;rw [rounds_succ];go_wp2_with fail;rw [rounds_succ];go_wp2_with (go_at_call 35;go_must (refine (zfA _ ops a b _ k (by omega) l j).mono ?_;rw [m.out];rintro e u ⟨c,x,rfl,_,_,n⟩;obtain ⟨_,_,rfl⟩:=n.form;have f:=Z (yF c).2.1;clear n c));go_ret;exact ⟨⟨_,_,rfl⟩,f⟩
 |some E=>
  go_enter func16,ntmps16;go_wp2_with fail;refine wp_loop_rounds 3 ?_;rw [rounds_succ];go_wp2_with fail;rw [rounds_succ];go_wp2_with fail;rw [rounds_succ];go_wp2_with (go_at_call 35;go_must (refine (zfA _ ops a b _ k (by omega) l j).mono ?_;rw [m.out];rintro e u ⟨c,x,rfl,y⟩;have f:=Z (yF c).2.1;clear y c));go_ret;exact ⟨rfl,f⟩
theorem Zv (v:Value)(ops:List MOp)(a b:Int)(w:World)(c:qK ops a b=true)(d:Arr w.heap.size w 6 v ops.length (qz ops))(e:∀f∈ops,f.c<18446744073709551616)(g:yC w):
  Calls prog 16 #[v,.agg #[.int .i64 a,.int .i64 b]] w fun h i=>h= .returned .nilIface∧Below w.heap.size w i:=by
 simp only [qK,Bool.and_eq_true,decide_eq_true_eq] at c;obtain ⟨⟨⟨⟨⟨_,_⟩,_⟩,_⟩,j⟩,k⟩:=c;obtain ⟨_,l⟩:=Option.isSome_iff_exists.1 k;exact zeb v ops a b w (by omega) (by omega) (by omega) (by omega) j d e g _ l
theorem zec (v:Value)(ops:List MOp)(a b:Int)(w:World)(j:qK ops a b=false)(i:Arr w.heap.size w 6 v ops.length (qz ops))(k:ops.length≤1000000)(l:∀m∈ops,m.c<18446744073709551616)(c:yC w):
  Calls prog 16 #[v,.agg #[.int .i64 a,.int .i64 b]] w fun n o=>(∃p q,n= .returned (.iface p q))∧Below w.heap.size w o:=by
 by_cases d:a<0
 ·exact zhn v a b w d c
 by_cases e:65536<a
 ·exact zhm v a b w d e c
 by_cases f:b<0
 ·exact zhp v a b w d e f c
 by_cases g:65536<b
 ·exact zho v a b w d e f g c
 by_cases r:16384<ops.length
 ·obtain ⟨s,t,rfl,_⟩:=i.open
  exact zkP s _ t a b w d e f g r k c
 have h:zaA ops a b=none:=by
  cases h:zaA ops a b with
  |none=>rfl
  |some u=>simp [qK,h] at j;omega
 exact zeb v ops a b w d e f g (by omega) i l c _ h
end Go.Proofs.YtklofgfkaaoipaaGreatDoor
namespace Go.Proofs.YtklofgfkaaoipaaGreatDoor
open Go.Proofs.Tryz
variable {h A n:Int}{l:List Int}
theorem zfO {c:List Int}{a w:Int}(b:qG c a w=true)(d:w≠0):0≤a∧a<c.length:=by
 simp only [qG,if_neg d,Bool.and_eq_true,decide_eq_true_eq] at b;exact ⟨b.1.1,b.1.2⟩
theorem zaT {outs:Nat}:∀{b:List MOp} {g c i:List Int},zZ h A outs b g c=some i→∀(a:Nat) (d:a<b.length),
  ((qq b[a] h A).1.a≠0→0≤b[a].a∧b[a].a<(c.length+a:Nat))∧((qq b[a] h A).1.b≠0→0≤b[a].b∧b[a].b<(c.length+a:Nat))
 |[],_,_,_,_,a,d=>by simp at d
 |l::b,g,c,i,e,a,d=>by
  rw [zZ] at e
  split at e
  ·rename_i f
   cases a with
   |zero=>
    simp only [zl,Bool.and_eq_true] at f;simp only [List.getElem_cons_zero,Nat.add_zero];exact ⟨fun j=>zfO f.1.2.1 j,fun k=>zfO f.1.2.2 k⟩
   |succ a=>
    have:=zaT e a (by simpa using d);simp only [List.getElem_cons_succ];simp only [List.length_append,List.length_cons,List.length_nil] at this;rw [show c.length+(a+1)=c.length+(0+1)+a by omega];exact this
  ·cases e
theorem zaq {ops:List MOp}(a:qK ops h A=true)(j:Nat)(b:j<ops.length):
  ((qq ops[j] h A).1.a≠0→0≤ops[j].a∧ops[j].a<j)∧((qq ops[j] h A).1.b≠0→0≤ops[j].b∧ops[j].b<j):=by
 simp only [qK,Bool.and_eq_true] at a;obtain ⟨_,c⟩:=Option.isSome_iff_exists.1 a.2;have:=zaT c j b;simpa using this
theorem Zp (o:MOp)(b c:Int):0≤(qq o b c).1.rounds∧(qq o b c).1.rounds≤2:=by
 unfold qq
 split
 ·unfold zI;split
  ·simp
  ·split<;>simp [Yz]
 ·split
  ·unfold ye;split<;>simp [Yz]
  ·by_cases a:(qu o.kind).2=true
   ·rcases zS _ a with a | a | a | a | a | a | a | a | a | a | a | a | a | a | a | a | a<;>rw [a]<;>decide
   ·rw [Zu _ (by simpa using a)];simp [Yz]
def zaM (n:Int)(l:List Int):Prop:=∀a∈l,0≤a∧a≤n
theorem zaM.getD (b:zaM n l)(c:0≤n)(k:Nat):0≤l.getD k 0∧l.getD k 0≤n:=by
 by_cases a:k<l.length
 ·have:=b l[k] (List.getElem_mem _);simpa [List.getD,a] using this
 ·simp [List.getD,a];exact c
theorem zaM.snoc {m:Int}(b:zaM n l)(d:n≤m){x:Int}(e:0≤x)(f:x≤m):zaM m (l++[x]):=by
 intro c a;rcases List.mem_append.1 a with a | a
 ·have:=b c a;omega
 ·simp at a;omega
theorem zaN {a:List Int}(b:zaM n a)(c:0≤n)(o:MOp)(r:Rule):0≤Qf a o r∧Qf a o r≤n:=by
 have:=b.getD c o.a.toNat;have:=b.getD c o.b.toNat;unfold Qf
 split<;>split<;>omega
theorem zcL:∀(a:List MOp) (b:List Int),(yM a b).length=b.length+a.length
 |[],b=>by simp [yM]
 |c::a,b=>by rw [yM,zcL a];simp;omega
theorem zbK:∀(b:List MOp) (c:List Int) (a:Nat),zaM a c→zaM (a+2 * b.length:Nat) (yM b c)
 |[],c,a,e=>by simpa [yM] using e
 |d::b,c,a,e=>by
  rw [yM];have f:=zaN e (by omega) d (qq d 65536 65536).1;have g:=Zp d 65536 65536;have:=zbK b (c++[Qf c d (qq d 65536 65536).1+(qq d 65536 65536).1.rounds]) (a+2) (e.snoc (m:=((a+2:Nat):Int)) (by omega) (by omega) (by omega));simp only [List.length_cons];rw [show a+2 * (b.length+1)=a+2+2 * b.length by omega];exact this
theorem QP (ops:List MOp):(qw ops).length=if qK ops 65536 65536 then ops.length else 0:=by
 unfold qw;split<;>simp [zcL, *]
theorem YF (ops:List MOp):zaM (2 * ops.length:Nat) (qw ops):=by
 unfold qw;split
 ·have:=zbK ops [] 0 (by intro b a;cases a);simpa using this
 ·intro b a;cases a
end Go.Proofs.YtklofgfkaaoipaaGreatDoor
namespace Go.Proofs.YtklofgfkaaoipaaGreatDoor
open Go.RowKit Go.Proofs.Tryz
variable {w E D W F:World}{g A h:Nat}{o:MOp}{r:Rule}{x:Value}
theorem zdh (v:Value)(ops:List MOp)(w:World)(c:qK ops 65536 65536=false)(d:Arr w.heap.size w 6 v ops.length (qz ops))(i:ops.length≤1000000)(e:∀j∈ops,j.c<18446744073709551616)(f:yC w):
  Calls prog 18 #[v] w fun b k=>b= .returned (.slice none 0 0)∧Below w.heap.size w k:=by
 have l:=Z d;have m:=Z f;have n:=Z e;have o:=Z c;clear d f e c;go_enter func18,ntmps18;go_wp2_with (first | (go_at_call 37;go_must (refine (zcj _).mono ?_;rintro b _ ⟨rfl,g⟩;have a:=Z g;clear g)) | (go_at_call 16;go_must (refine (zec _ ops _ _ _ o (l.later' a) i n (m.below a)).mono ?_;rintro b _ ⟨⟨_,_,rfl⟩,h⟩;have p:=Z (a.trans (h.mono a.size));clear h)));go_ret;exact ⟨rfl,p⟩
theorem Below.undrew {b:World}(a:Below w.drew.heap.size w.drew b):Below w.heap.size w b:=⟨a.os,a.tape,a.output,a.size,a.block⟩
theorem yC.drew (a:yC w):yC w.drew:=a
theorem yC.alloc (a:yC w)(o:Obj):yC (w.alloc o):=a.below ((Below.refl _ _).alloc (Nat.le_refl _) o)
theorem Qd {k a b c d:Int}{C:Nat}{t:TypeId}{fr:Nat×Nat}(e:w.heap[g]? =some (.cells #[.int .i64 k,.int .i64 a,.int .i64 b,.int .i64 c,.int .u64 C,.int .i64 d] t fr)):
  w.cell? ⟨g,0,none⟩=some (.int .i64 k)∧w.cell? ⟨g,1,none⟩=some (.int .i64 a)∧w.cell? ⟨g,2,none⟩=some (.int .i64 b)∧w.cell? ⟨g,3,none⟩=some (.int .i64 c)∧w.cell? ⟨g,4,none⟩=some (.int .u64 C)∧w.cell? ⟨g,5,none⟩=some (.int .i64 d):=by
 refine ⟨?_,?_,?_,?_,?_,?_⟩<;>simp [World.cell?,e]
theorem ze0 (a:w.heap[g]? =some (.cells #[.int .i64 0,.int .i64 0,.int .i64 0,.int .i64 0,.bool false,.bool false,.int .i64 0] 92 (0,0))):
  (w.cell? ⟨g,0,none⟩=some (.int .i64 0)∧w.cell? ⟨g,1,none⟩=some (.int .i64 0)∧w.cell? ⟨g,2,none⟩=some (.int .i64 0)∧w.cell? ⟨g,3,none⟩=some (.int .i64 0)∧
  w.cell? ⟨g,4,none⟩=some (.bool false)∧w.cell? ⟨g,5,none⟩=some (.bool false)∧w.cell? ⟨g,6,none⟩=some (.int .i64 0))∧
  (w.frozen? ⟨g,0,none⟩=false∧w.frozen? ⟨g,1,none⟩=false∧w.frozen? ⟨g,2,none⟩=false∧w.frozen? ⟨g,3,none⟩=false∧w.frozen? ⟨g,4,none⟩=false∧w.frozen? ⟨g,5,none⟩=false∧w.frozen? ⟨g,6,none⟩=false):=by
 refine ⟨⟨?_,?_,?_,?_,?_,?_,?_⟩,?_,?_,?_,?_,?_,?_,?_⟩<;>simp [World.cell?,World.frozen?,a]
structure RSt (w:World)(B1 B2:Nat)(o:MOp)(r:Rule)(out:List Int)(x:Value)(wx:World):Prop where
 op:wx.heap[B1]? =some (.cells o.arr 61 (0,0))
 rule:wx.heap[B2]? =some (.cells r.arr 92 (0,0))
 own:wx.ownsRow w.heap.size 3 1 x out.length (ints out)
 below:Below w.heap.size w wx
theorem RSt.rulec {a:List Int}(b:RSt w A h o r a x E):
  E.cell? ⟨h,0,none⟩=some (.int .i64 r.a)∧E.cell? ⟨h,1,none⟩=some (.int .i64 r.b)∧E.cell? ⟨h,6,none⟩=some (.int .i64 r.rounds):=by
 have:=b.rule;refine ⟨?_,?_,?_⟩<;>simp [World.cell?,this,Rule.arr]
theorem RSt.opc {a:List Int}(b:RSt w A h o r a x E):
  E.cell? ⟨A,1,none⟩=some (.int .i64 o.a)∧E.cell? ⟨A,2,none⟩=some (.int .i64 o.b):=by
 have:=b.op;refine ⟨?_,?_⟩<;>simp [World.cell?,this,MOp.arr]
theorem RSt.of {a:List Int}(d:D.ownsRow w.heap.size 3 1 x a.length (ints a))(b:Below w.heap.size w D)
  (e:W.heap[D.heap.size]? =some (.cells o.arr 61 (0,0))) (f:W.heap[h]? =some (.cells r.arr 92 (0,0))) (c:Below D.heap.size D W):RSt w D.heap.size h o r a x W:=
 ⟨e,f,Below.owns d c,b.trans (c.mono b.size)⟩
theorem RSt.last {a:List Int}(c:D.ownsRow w.heap.size 3 1 x a.length (ints a))(d:Below w.heap.size w D)
  (e:F.heap[D.heap.size]? =some (.cells o.arr 61 (0,0))) (b:Below D.heap.size D F):RSt w D.heap.size F.heap.size o r a x (F.alloc (.cells r.arr 92)):=
 RSt.of c d (QH _ e) (heap_alloc_new _ _) (b.alloc b.size _)
theorem RSt.set7 {b:List Int}(c:D.ownsRow w.heap.size 3 1 x b.length (ints b))(d:Below w.heap.size w D)
  (e:F.heap[D.heap.size]? =some (.cells o.arr 61 (0,0))) (f:Below D.heap.size D F) (k:D.heap.size<g)
  (h:F.heap[g]? =some (.cells #[.int .i64 0,.int .i64 0,.int .i64 0,.int .i64 0,.bool false,.bool false,.int .i64 0] 92 (0,0))):
  RSt w D.heap.size g o r b x (((((((F.setCell ⟨g,0,none⟩ (.int .i64 r.a)).setCell ⟨g,1,none⟩ (.int .i64 r.b)).setCell ⟨g,2,none⟩ (.int .i64 r.makes)).setCell ⟨g,3,none⟩ (.int .i64 r.k)).setCell ⟨g,4,none⟩ (.bool r.c)).setCell ⟨g,5,none⟩ (.bool r.party)).setCell ⟨g,6,none⟩ (.int .i64 r.rounds)):=by
 refine RSt.of c d ?_ ?_ ?_
 ·iterate 7 rw [qe (by omega)]
  exact e
 ·have i:=heap_setCell (j:=6) (heap_setCell (j:=5) (heap_setCell (j:=4) (heap_setCell (j:=3) (heap_setCell (j:=2) (heap_setCell (j:=1) (heap_setCell (j:=0) h (.int .i64 r.a)) (.int .i64 r.b)) (.int .i64 r.makes)) (.int .i64 r.k)) (.bool r.c)) (.bool r.party)) (.int .i64 r.rounds)
  exact i
 ·have a:D.heap.size≤g:=by omega
  exact ((((((f.setCell a _).setCell a _).setCell a _).setCell a _).setCell a _).setCell a _).setCell a _
theorem RSt.drew {b:List Int}(a:RSt w A h o r b x W):RSt w A h o r b x W.drew:=⟨a.op,a.rule,a.own,a.below.drew⟩
theorem zaG (v:Value)(ops:List MOp)(w:World)(ae:qK ops 65536 65536=true)(af:Arr w.heap.size w 6 v ops.length (qz ops))(bS:ops.length≤16384)(aD:∀e∈ops,e.c<18446744073709551616)(aE:yC w):
  Calls prog 18 #[v] w fun I aF=>∃r,I= .returned r∧aF.ownsRow w.heap.size 3 1 r (qw ops).length (ints (qw ops))∧Below w.heap.size w aF:=by
 have aG:=zaq ae;obtain ⟨_,_,rfl,_,a1,a2,P⟩:=af.open;have a3:=Z af;have aH:=Z aE;have aI:=Z aD;have aJ:=Z ae;have a4:=Z P;have a5:=Z aG;clear af aE aD ae a1 a2 P aG;go_enter func18,ntmps18;go_wp2_with (first | (go_at_call 37;go_must (refine (zcj _).mono ?_;rintro I _ ⟨rfl,aK⟩;have Q:=Z aK;clear aK)) | (go_at_call 16;go_must (refine (Zv _ ops _ _ _ aJ (a3.later' Q) aI (aH.below Q)).mono ?_;rintro I _ ⟨rfl,aL⟩;have a6:=Z (Q.trans (aL.mono Q.size));clear aL)));go_loopg [3,15] ops.length (fun a7 a8 a9 wr=>∃(b:Nat) (a:List Int),b≤ops.length∧a7=ops.length-b∧a9= .int .i64 b∧Hid (a.length=b)∧Hid (yM (ops.drop b) a=yM ops [])∧Hid (zaM (2 * b:Nat) a)∧Hid (wr.ownsRow w.heap.size 3 1 a8 a.length (ints a))∧Hid (Below w.heap.size w wr))
 case atStart=>exact ⟨0, [],Nat.zero_le _,rfl,rfl,rfl,rfl,(fun _ P=>by cases P),World.ownsRow_nil _ _ _ _,a6⟩
 case round=>
  obtain ⟨b,a,_,_,rfl,J,aM,D,R,t⟩:=hrel
  by_cases ag:b<ops.length
  ·obtain ⟨_,_,rfl,ba,aN⟩:=a4.out (by omega)
   obtain ⟨bb,bc,bd,be,bf,bg⟩:=y8 aN t ba rfl b ag;have aO:=Z (List.drop_eq_getElem_cons ag);have aP:=aI.out ops[b] (List.getElem_mem _);have aQ:=Z (a5 b ag);generalize ops[b]=e at bb bc bd be bf bg aO aP aQ;clear aN;obtain ⟨c,aR,S⟩:∃c aR,qq e 65536 65536=(c,aR):=⟨_,_,rfl⟩;have T:=Z S;clear S;go_upto_region 7 with fail;have bh:=t.size;have bT:wr.heap.size<(wr.alloc (.cells e.arr 61)).heap.size:=by rw [World.size_alloc];omega
   have aS:=heap_alloc_new wr (.cells e.arr 61);have aT:yC (wr.alloc (.cells e.arr 61)):=aH.below (t.alloc bh _);have bU:=Z aS;have E:=Z aT;clear aS aT;go_cut [6] from 16 to 50 (fun bi bj=>∃ah,bi= .pointer (some ⟨ah,0,none⟩)∧Hid (RSt w wr.heap.size ah e c a u3 bj))
   case first=>
    go_region_with (first | (go_at_call 37;go_must (refine (zcj _).mono ?_;rintro I U ⟨rfl,F⟩;(try replace F:=Below.undrew F);(first | ((with_reducible have ai:=zcV F);obtain ⟨u,V,aU,aj⟩:=ai;obtain ⟨bk,bl,bm,bn,bo,bp⟩:=Qd u;have bq:wr.heap.size<U.heap.size:=(by omega);have bV:wr.heap.size+1<U.heap.size:=(by omega);have ak:=Z u;have al:=Z aU;clear u V aU aj) | ((with_reducible have ai:=yF F);obtain ⟨u,V,aj⟩:=ai;obtain ⟨bk,bl,bm,bn,bo,bp⟩:=Qd u;have bq:wr.heap.size<U.heap.size:=(by omega);have ak:=Z u;have al:=Z V;clear u V aj));have x:=Z F;clear F)) | (go_at_call 38;go_must (refine (zeZ e _ _ _ aP (by first | exact E.below x | exact (E.alloc _).below x | exact (E.below x).alloc _ | exact (E.below x).drew | exact ((E.alloc _).below x).drew | exact ((E.below x).alloc _).drew)).mono ?_;rw [T.out];unfold qM Rule.out Rule.arr;rintro I br ⟨rfl,s⟩;(try replace s:=Below.undrew s);(first | ((with_reducible have am:=yF s);obtain ⟨y,W,bs⟩:=am;obtain ⟨⟨bt,bu,bv,bw,bx,bz,bA⟩,bB,bC,bD,bE,bF,bG,bH⟩:=ze0 y;have g:=Z y;have X:=Z W;clear y W) | (have an:=x.out;(with_reducible have am:=zcV an);obtain ⟨bI,y,W,bs⟩:=am;have ao:=(s.block _ (qd y)).trans y;obtain ⟨⟨bt,bu,bv,bw,bx,bz,bA⟩,bB,bC,bD,bE,bF,bG,bH⟩:=ze0 ao;have g:=Z ao;have X:=Z s;clear ao bI y W an) | (have X:=Z s));have ap:=Z ((X.block _ (qd ak)).trans ak);have aq:=Z (al.trans (X.mono al.size));have bW:=Z s;clear s)))
    all_goals
     go_wp2_with fail;go_meet
     case rel=>
      go_light
      first
      |((refine ⟨br.heap.size,(by with_reducible rfl),?_⟩);exact RSt.last R t ap aq)
      |((refine ⟨U.heap.size,(by with_reducible rfl),?_⟩);exact RSt.set7 R t ap aq (by omega) g)
      |((refine ⟨wr.heap.size+1,(by with_reducible rfl),?_⟩);exact RSt.set7 R t ap aq (by omega) g)
   case rest=>
    obtain ⟨ah,rfl,K⟩:=hcut;have Y:=aQ.out;rw [T.out] at Y;simp only at Y;have ar:=Zp e 65536 65536;rw [T.out] at ar;simp only at ar;obtain ⟨_,_⟩:=ar;obtain ⟨_,_,an⟩:=K.rulec;obtain ⟨aV,aW⟩:=K.opc;have p:=K.own;have z:=K.below.size;have bX:a.length≤16384:=by have:=J.out;omega
    have aX:=zaN D (by omega) e c;have bJ:=Z aX;have au:=Z Y;clear aX Y;have d:=Z (show Hid ((a++[Qf a e c+c.rounds]).length=b+1)∧Hid (yM (ops.drop (b+1)) (a++[Qf a e c+c.rounds])=yM ops [])∧Hid (zaM ((2 * (b+1):Nat):Int) (a++[Qf a e c+c.rounds]))∧
      (∀q,wc.grownBy q u3.ownBlock→Hid (Below w.heap.size w q)) by
     refine ⟨by simp [Hid,J.out],?_,?_,?_⟩
     ·unfold Hid;rw [←aM.out,aO.out,yM,T.out]
     ·have:=bJ.out
      exact D.snoc (by omega) (by omega) (by omega)
     ·intro q f
      exact K.below.grown f z (fun bK bL=>(p.lt bK bL).1))
    by_cases l:c.a=0
    ·have bM:(c.a != 0)=false:=by simp [l]
     by_cases k:c.b=0
     ·have av:(c.b != 0)=false:=by simp [k]
      have g:=Z (show Qf a e c=0 by simp [Qf,l,k]);clear l k
      as_aux_lemma=>
       go_wp2_with (at_builtin;go_must (refine yS rfl _ _ 24 rfl 3 (.int .i64 0) 1 8 underlying24 qD rfl (by decide) #[_] _ _ _ _ p rfl rfl rfl (by intro r h;simp at h;subst h;rfl) z (by omega) (by unfold maxLen;omega) ?_;intro L q i f _;have m:=Z i;have n:=Z f;clear i f));go_roundg (ops.length-(b+1))
       case measure=>omega
       case rel=>
        go_light;refine ⟨b+1,_,by omega,rfl,by go_num,d.1,d.2.1,d.2.2.1,?_,d.2.2.2 _ n⟩;have:=m.out;unfold Hid;rw [yd,List.length_append];rw [g.out,Int.zero_add];exact this
     ·have av:(c.b != 0)=true:=by simp [k]
      obtain ⟨M,aw⟩:=au.2 k;obtain ⟨j,A⟩:=Int.eq_ofNat_of_zero_le M;have N:j<a.length:=by have:=J.out;omega
      obtain ⟨bN,bO,rfl,bP,aa,ab,G⟩:=(Arr.of_owns p).open;obtain ⟨ac,ad,rfl,bQ,B⟩:=G (by omega);have ax:wc.cell? ⟨ac,ad+j,none⟩=some (.int .i64 a[j]):=by rw [B j (by omega),yY a j N]
      have g:=Z (show Qf a e c=max 0 a[j] by simp [Qf,l,k,A,List.getD,N]);have ay:=D.out a[j] (List.getElem_mem _);generalize a[j]=O at ax g ay;rw [A] at aW;clear l k B ab aa A M aw G
      by_cases bR:0<O
      ·have C:=Z (show Qf a e c=O by rw [g.out];omega)
       as_aux_lemma=>
        go_wp2_with (at_builtin;go_must (refine yS rfl _ _ 24 rfl 3 (.int .i64 0) 1 8 underlying24 qD rfl (by decide) #[_] _ _ _ _ p rfl rfl rfl (by intro r h;simp at h;subst h;rfl) z (by omega) (by unfold maxLen;omega) ?_;intro L q i f _;have m:=Z i;have n:=Z f;clear i f));go_roundg (ops.length-(b+1))
        case measure=>omega
        case rel=>
         go_light;refine ⟨b+1,_,by omega,rfl,by go_num,d.1,d.2.1,d.2.2.1,?_,d.2.2.2 _ n⟩;have:=m.out;unfold Hid;rw [yd,List.length_append];rw [C.out];exact this
      ·have C:=Z (show Qf a e c=0 by rw [g.out];omega)
       as_aux_lemma=>
        go_wp2_with (at_builtin;go_must (refine yS rfl _ _ 24 rfl 3 (.int .i64 0) 1 8 underlying24 qD rfl (by decide) #[_] _ _ _ _ p rfl rfl rfl (by intro r h;simp at h;subst h;rfl) z (by omega) (by unfold maxLen;omega) ?_;intro L q i f _;have m:=Z i;have n:=Z f;clear i f));go_roundg (ops.length-(b+1))
        case measure=>omega
        case rel=>
         go_light;refine ⟨b+1,_,by omega,rfl,by go_num,d.1,d.2.1,d.2.2.1,?_,d.2.2.2 _ n⟩;have:=m.out;unfold Hid;rw [yd,List.length_append];rw [C.out,Int.zero_add];exact this
    ·have bM:(c.a != 0)=true:=by simp [l]
     obtain ⟨az,aY⟩:=au.1 l;obtain ⟨o,H⟩:=Int.eq_ofNat_of_zero_le az;have aA:o<a.length:=by have:=J.out;omega
     obtain ⟨bN,bO,rfl,bP,aa,ab,G⟩:=(Arr.of_owns p).open;obtain ⟨ac,ad,rfl,bQ,B⟩:=G (by omega);have aZ:wc.cell? ⟨ac,ad+o,none⟩=some (.int .i64 a[o]):=by rw [B o (by omega),yY a o aA]
     by_cases k:c.b=0
     ·have av:(c.b != 0)=false:=by simp [k]
      have g:=Z (show Qf a e c=a[o] by simp [Qf,l,k,H,List.getD,aA]);have aB:=D.out a[o] (List.getElem_mem _);generalize a[o]=aC at aZ g aB;rw [H] at aV;clear l k B ab aa H az aY G
      as_aux_lemma=>
       go_wp2_with (at_builtin;go_must (refine yS rfl _ _ 24 rfl 3 (.int .i64 0) 1 8 underlying24 qD rfl (by decide) #[_] _ _ _ _ p rfl rfl rfl (by intro r h;simp at h;subst h;rfl) z (by omega) (by unfold maxLen;omega) ?_;intro L q i f _;have m:=Z i;have n:=Z f;clear i f));go_roundg (ops.length-(b+1))
       case measure=>omega
       case rel=>
        go_light;refine ⟨b+1,_,by omega,rfl,by go_num,d.1,d.2.1,d.2.2.1,?_,d.2.2.2 _ n⟩;have:=m.out;unfold Hid;rw [yd,List.length_append];rw [g.out];exact this
     ·have av:(c.b != 0)=true:=by simp [k]
      obtain ⟨M,aw⟩:=au.2 k;obtain ⟨j,A⟩:=Int.eq_ofNat_of_zero_le M;have N:j<a.length:=by have:=J.out;omega
      have ax:wc.cell? ⟨ac,ad+j,none⟩=some (.int .i64 a[j]):=by rw [B j (by omega),yY a j N]
      have g:=Z (show Qf a e c=max a[o] a[j] by simp [Qf,l,k,H,A,List.getD,aA,N]);have aB:=D.out a[o] (List.getElem_mem _);generalize a[o]=aC at aZ g aB;have ay:=D.out a[j] (List.getElem_mem _);generalize a[j]=O at ax g ay;rw [H] at aV;rw [A] at aW;clear l k B ab aa H az aY A M aw G
      by_cases bR:aC<O
      ·have C:=Z (show Qf a e c=O by rw [g.out];omega)
       as_aux_lemma=>
        go_wp2_with (at_builtin;go_must (refine yS rfl _ _ 24 rfl 3 (.int .i64 0) 1 8 underlying24 qD rfl (by decide) #[_] _ _ _ _ p rfl rfl rfl (by intro r h;simp at h;subst h;rfl) z (by omega) (by unfold maxLen;omega) ?_;intro L q i f _;have m:=Z i;have n:=Z f;clear i f));go_roundg (ops.length-(b+1))
        case measure=>omega
        case rel=>
         go_light;refine ⟨b+1,_,by omega,rfl,by go_num,d.1,d.2.1,d.2.2.1,?_,d.2.2.2 _ n⟩;have:=m.out;unfold Hid;rw [yd,List.length_append];rw [C.out];exact this
      ·have C:=Z (show Qf a e c=aC by rw [g.out];omega)
       as_aux_lemma=>
        go_wp2_with (at_builtin;go_must (refine yS rfl _ _ 24 rfl 3 (.int .i64 0) 1 8 underlying24 qD rfl (by decide) #[_] _ _ _ _ p rfl rfl rfl (by intro r h;simp at h;subst h;rfl) z (by omega) (by unfold maxLen;omega) ?_;intro L q i f _;have m:=Z i;have n:=Z f;clear i f));go_roundg (ops.length-(b+1))
        case measure=>omega
        case rel=>
         go_light;refine ⟨b+1,_,by omega,rfl,by go_num,d.1,d.2.1,d.2.2.1,?_,d.2.2.2 _ n⟩;have:=m.out;unfold Hid;rw [yd,List.length_append];rw [C.out];exact this
  ·obtain rfl:b=ops.length:=by omega
   go_wp2_with fail;go_ret;have a0:=aM.out;rw [List.drop_length,yM] at a0;have S:qw ops=a:=by rw [qw,if_pos aJ.out,←a0]
   exact ⟨_,rfl,by rw [S];exact R,t⟩
end Go.Proofs.YtklofgfkaaoipaaGreatDoor
namespace Go.Proofs.YtklofgfkaaoipaaGreatDoor
open Go.Proofs.Tryz
variable {k h A:Int}{c:Nat}{o:MOp}
theorem YC (a:yN k c=true):(k=1∧(c=0∨c=1))∨((k=2∨k=3)∧(c=0∨c=1∨c=2∨c=3)):=by
 unfold yN at a;simp only [Bool.or_eq_true,Bool.and_eq_true,beq_iff_eq,decide_eq_true_eq] at a;rcases a with ⟨b,d⟩ | ⟨b,d⟩
 ·exact .inl ⟨b,by omega⟩
 ·exact .inr ⟨b,by omega⟩
theorem zhV (e f:Nat):(zM e f).1≤256∧(zM e f).2.1.length≤2000:=by
 unfold zM;dsimp only
 split
 ·refine ⟨by simp only;omega,?_⟩
  have c:=Zc 128 f 1;generalize Zb 128 f 1=a at c ⊢;have d:=Qi 128 1 0 0 a.2;generalize gt 128 1 0 0 a.2=b at d ⊢;have i:=Qi 128 3 (a.1.getD 63 0) 0 b.2;generalize gt 128 3 (a.1.getD 63 0) 0 b.2=g at i ⊢;have:=zeY 128 g.1 a.1 g.2 63;simp only;omega
 ·have c:=Zc 256 f 2
  generalize Zb 256 f 2=a at c ⊢;have d:=Qi 256 1 0 0 a.2;generalize gt 256 1 0 0 a.2=b at d ⊢;have j:=zda 256 (a.1.take 64) (a.1.drop 64) b.2;generalize ZY 256 (a.1.take 64) (a.1.drop 64) b.2=h at j ⊢
  split
  ·refine ⟨by simp only;omega,?_⟩
   simp only;omega
  ·refine ⟨by simp only;omega,?_⟩
   have:=zb7 256 h.1 (a.1.drop 64) (a.1.take 64) h.2 64;simp only;omega
theorem zen (a:yN k c=true):(zM k.toNat c).1≤256∧yw (zM k.toNat c).2.1≤2000∧(zM k.toNat c).2.1.length≤2000:=by
 have:=zhV k.toNat c;have b:=zgj (zM k.toNat c).2.1;exact ⟨this.1,by omega,this.2⟩
structure MNeed where
 tri:Int
 bits:Int
 ots:Int
 t0:Int
 t1:Int
 rounds:Int
 w0:Int
 w1:Int
def yG:MNeed:=⟨0,0,0,0,0,0,0,0⟩
def MNeed.arr (n:MNeed):Array Value:=#[.int .i64 n.tri,.int .i64 n.bits,.int .i64 n.ots,.int .i64 n.t0,.int .i64 n.t1,.int .i64 n.rounds,.int .i64 n.w0,.int .i64 n.w1]
def yj (k:Int):Int:=if k=1 then 1 else 2
def zbk (o:MOp):Int:=((zM o.k.toNat o.c).1:Nat)
def zae (o:MOp):Int:=(yw (zM o.k.toNat o.c).2.1:Nat)
def qU (n:MNeed)(o:MOp):MNeed:=
 if o.kind=1 then (if o.party=0 then {n with t0:=n.t0+1,w0:=n.w0+1} else {n with t1:=n.t1+1,w1:=n.w1+1})
 else if o.kind=6 then {n with tri:=n.tri+1,w0:=n.w0+2,w1:=n.w1+2}
 else if o.kind=9 then {n with bits:=n.bits+1,w0:=n.w0+2,w1:=n.w1+2}
 else if o.kind=18∨o.kind=19 then {n with w0:=n.w0+1,w1:=n.w1+1}
 else if o.kind=17 then {n with ots:=n.ots+64 * yj o.k,t0:=n.t0+2 * zbk o,w0:=n.w0+2 * (192 * yj o.k+2 * zae o),w1:=n.w1+yj o.k}
 else n
def ZV (l:List MOp):Int:=((l.filter fun a=>a.kind==17).length:Nat)
def zi:List MOp→MNeed→MNeed
 |[],a=>a
 |b::c,a=>zi c (qU a b)
def zG (l:List Int):Int:=l.foldl max 0
def zy (ops:List MOp):MNeed:=
 if qK ops 65536 65536 then
  let a:=zi ops {yG with rounds:=zG (qw ops)}
  if 0<ZV ops then {a with t0:=a.t0+2} else a
 else yG
theorem zbB {outs:Nat}:∀{b:List MOp} {e f g:List Int},zZ h A outs b e f=some g→∀(a:Nat) (c:a<b.length),(qq b[a] h A).2=true
 |[],_,_,_,_,a,c=>by simp at c
 |j::b,e,f,g,d,a,c=>by
  rw [zZ] at d
  split at d
  ·rename_i i
   cases a with
   |zero=>
    simp only [zl,yH,Bool.and_eq_true] at i;exact i.1.1.1
   |succ a=>exact zbB d a (by simpa using c)
  ·cases d
theorem zQ {ops:List MOp}(a:qK ops h A=true)(j:Nat)(b:j<ops.length):(qq ops[j] h A).2=true:=by
 simp only [qK,Bool.and_eq_true] at a;obtain ⟨_,c⟩:=Option.isSome_iff_exists.1 a.2;exact zbB c j b
theorem zg9 (a:(qq o h A).2=true)(b:o.kind=1):o.party=0∨o.party=1:=by
 simp only [qq,b,if_true,zI] at a
 split at a
 ·exact .inl ‹_›
 ·split at a
  ·exact .inr ‹_›
  ·simp at a
theorem ZA (a:(qq o h A).2=true)(b:o.kind=17):yN o.k o.c=true:=by
 have c:¬((17:Int)=1):=by decide
 simp only [qq,b,if_true,if_neg c,ye] at a
 split at a
 ·assumption
 ·simp at a
def MNeed.small (n:MNeed)(B:Int):Prop:=(0≤n.tri∧n.tri≤B)∧(0≤n.bits∧n.bits≤B)∧(0≤n.ots∧n.ots≤B)∧(0≤n.t0∧n.t0≤B)∧(0≤n.t1∧n.t1≤B)∧(0≤n.w0∧n.w0≤B)∧(0≤n.w1∧n.w1≤B)
theorem ZH {n:MNeed}{B:Int}(a:n.small B)(o:MOp)(b:(qq o 65536 65536).2=true):(qU n o).small (B+10000):=by
 unfold qU;unfold MNeed.small at a ⊢
 split
 ·split<;>(simp only;omega)
 ·split
  ·simp only;omega
  ·split
   ·simp only;omega
   ·split
    ·simp only;omega
    ·split
     ·rename_i c
      have:=zen (ZA b c);have f:1≤yj o.k∧yj o.k≤2:=by unfold yj;split<;>omega
      have d:zbk o=((zM o.k.toNat o.c).1:Nat):=rfl;have e:zae o=(yw (zM o.k.toNat o.c).2.1:Nat):=rfl;generalize yw (zM o.k.toNat o.c).2.1=g at this e;generalize (zM o.k.toNat o.c).1=h at this d;simp only;omega
     ·omega
theorem zeo (l:List MOp)(k:Nat)(a:k<l.length):ZV (l.take (k+1))=ZV (l.take k)+if l[k].kind=17 then 1 else 0:=by
 unfold ZV;rw [List.take_succ_eq_append_getElem a,List.filter_append]
 by_cases b:l[k].kind=17<;>simp [b]
theorem zhE (l:List MOp):0≤ZV l∧ZV l≤l.length:=by
 unfold ZV;have:=List.length_filter_le (fun a:MOp=>a.kind==17) l;omega
theorem zeE (l:List Int)(x:Int):zG (l++[x])=max (zG l) x:=by simp [zG]
theorem zeF {n:Int}{l:List Int}(b:zaM n l)(f:0≤n):0≤zG l∧zG l≤n:=by
 have:∀(l:List Int) (a:Int),zaM n l→0≤a→a≤n→0≤l.foldl max a∧l.foldl max a≤n:=by
  intro l
  induction l with
  |nil=>intro a _ c d;exact ⟨c,d⟩
  |cons e l ih=>
   intro a b c d;have i:=b e (by simp);exact ih (max a e) (fun g h=>b g (by simp [h])) (by omega) (by omega)
 exact this l 0 b (Int.le_refl _) f
end Go.Proofs.YtklofgfkaaoipaaGreatDoor
namespace Go.Proofs.YtklofgfkaaoipaaGreatDoor
open Go.RowKit Go.Proofs.Tryz
variable {w w1:World}{g k:Nat}{t:TypeId}
theorem Yq:(prog.info? 26).map (·.size)=some 8:=by kernel_rfl
variable {n:MNeed}
theorem zC (a:w.heap[g]? =some (.cells n.arr t (0,0))):
  (w.cell? ⟨g,0,none⟩=some (.int .i64 n.tri)∧w.cell? ⟨g,1,none⟩=some (.int .i64 n.bits)∧w.cell? ⟨g,2,none⟩=some (.int .i64 n.ots)∧w.cell? ⟨g,3,none⟩=some (.int .i64 n.t0)∧
  w.cell? ⟨g,4,none⟩=some (.int .i64 n.t1)∧w.cell? ⟨g,5,none⟩=some (.int .i64 n.rounds)∧w.cell? ⟨g,6,none⟩=some (.int .i64 n.w0)∧w.cell? ⟨g,7,none⟩=some (.int .i64 n.w1))∧
  (w.frozen? ⟨g,0,none⟩=false∧w.frozen? ⟨g,1,none⟩=false∧w.frozen? ⟨g,2,none⟩=false∧w.frozen? ⟨g,3,none⟩=false∧w.frozen? ⟨g,4,none⟩=false∧w.frozen? ⟨g,5,none⟩=false∧w.frozen? ⟨g,6,none⟩=false∧w.frozen? ⟨g,7,none⟩=false):=by
 refine ⟨⟨?_,?_,?_,?_,?_,?_,?_,?_⟩,?_,?_,?_,?_,?_,?_,?_,?_⟩<;>simp [World.cell?,World.frozen?,a,MNeed.arr]
structure NSt (w:World)(n:MNeed)(w':World):Prop where
 res:w'.heap[w.heap.size]? =some (.cells yG.arr 26 (0,0))
 need:w'.heap[w.heap.size+1]? =some (.cells n.arr 26 (0,0))
 below:Below w.heap.size w w'
theorem NSt.later {c:World}(a:NSt w n w1)(b:Below w1.heap.size w1 c):NSt w n c:=
 ⟨(b.block _ (qd a.res)).trans a.res,(b.block _ (qd a.need)).trans a.need,a.below.trans (b.mono a.below.size)⟩
theorem NSt.size (a:NSt w n w1):w.heap.size+1<w1.heap.size:=qd a.need
theorem NSt.alloc (a:NSt w n w1)(o:Obj):NSt w n (w1.alloc o):=a.later ((Below.refl _ _).alloc (Nat.le_refl _) o)
theorem NSt.drew (a:NSt w n w1):NSt w n w1.drew:=⟨a.res,a.need,a.below.drew⟩
variable {m:MNeed}
theorem NSt.set (a:NSt w n w1)(j:Nat)(v:Value)(b:n.arr.setIfInBounds j v=m.arr):NSt w m (w1.setCell ⟨w.heap.size+1,j,none⟩ v):=
 ⟨(qe (by omega) _).trans a.res,by rw [heap_setCell a.need,b],a.below.setCell (by show w.heap.size≤w.heap.size+1;omega) _⟩
theorem zox (v:Value)(ops:List MOp)(w:World)(c:qK ops 65536 65536=false)(d:Arr w.heap.size w 6 v ops.length (qz ops))(e:ops.length≤1000000)(f:∀q∈ops,q.c<18446744073709551616)(g:yC w):
  Calls prog 22 #[v] w (qM (.agg yG.arr) w):=by
 have h:=Z d;have i:=Z g;have j:=Z f;have k:=Z c;clear d g f c;have l:=Z (show NSt w yG ((w.alloc (.cells yG.arr 26)).alloc (.cells yG.arr 26)) from ⟨heap_alloc2_old _ _ _,heap_alloc2_new _ _ _,qm _ _ _⟩);simp only [MNeed.arr,yG] at l;go_enter func22,ntmps22;go_wp2_with ((go_at_call 18;go_must (refine (zdh _ ops _ k (h.later' (qm _ _ _)) e j (i.below (qm _ _ _))).mono ?_;rintro m _ ⟨rfl,n⟩;have r:=Z (l.later n);clear n)));refine wp_loop_rounds 1 ?_;rw [rounds_succ];go_wp2_with (first | (go_at_call 37;go_must (refine (zcj _).mono ?_;rintro m _ ⟨rfl,o⟩;have a:=Z (r.later o);clear o)) | (go_at_call 16;go_must (refine (zec _ ops _ _ _ k (h.later a.below a.below.size) e j (i.below a.below)).mono ?_;rintro m _ ⟨⟨_,_,rfl⟩,p⟩;have b:=Z (a.later p);clear p;obtain ⟨⟨s,t,u,x,y,z,A,B⟩,_,_,_,_,_,_,_,_⟩:=zC b.need;simp only at s t u x y z A B)) | ((with_reducible show wpList _ _ _ (⟨_,Op.store _ (.tmp 2) _,_,_,_,_⟩::_) _ _);go_must (refine wpList_store_row rfl 26 _ _ rfl w.heap.size yG.arr rfl rfl 26 yG.arr b.res Yq rfl (by simp [Value.oneCell',MNeed.arr,yG]) ?_)));exact bodyPost_ret (results_cell_row rfl _ _ w.heap.size 26 yG.arr _ _ rfl (setRow_heap _ _ _ _ _ _ b.res) underlying26 rfl Yq) rfl ⟨rfl,below_setRow b.below (Nat.le_refl _) _⟩
theorem zcC (n:MNeed)(o:MOp)(a:o.kind=1)(b:o.party=0):qU n o={n with t0:=n.t0+1,w0:=n.w0+1}:=by simp [qU,a,b]
theorem zcD (n:MNeed)(o:MOp)(a:o.kind=1)(b:o.party=1):qU n o={n with t1:=n.t1+1,w1:=n.w1+1}:=by simp [qU,a,b]
theorem zb4 (n:MNeed)(o:MOp)(a:o.kind=6):qU n o={n with tri:=n.tri+1,w0:=n.w0+2,w1:=n.w1+2}:=by simp [qU,a]
theorem zb5 (n:MNeed)(o:MOp)(a:o.kind=9):qU n o={n with bits:=n.bits+1,w0:=n.w0+2,w1:=n.w1+2}:=by simp [qU,a]
theorem Q4 (n:MNeed)(o:MOp)(a:o.kind=18∨o.kind=19):qU n o={n with w0:=n.w0+1,w1:=n.w1+1}:=by rcases a with a | a<;>simp [qU,a]
theorem za3 (n:MNeed)(o:MOp)(a:o.kind=17):qU n o={n with ots:=n.ots+64 * yj o.k,t0:=n.t0+2 * zbk o,w0:=n.w0+2 * (192 * yj o.k+2 * zae o),w1:=n.w1+yj o.k}:=by simp [qU,a]
theorem zeL (n:MNeed)(o:MOp)(a:¬o.kind=1)(b:¬o.kind=6)(c:¬o.kind=9)(d:¬o.kind=18)(e:¬o.kind=19)(f:¬o.kind=17):qU n o=n:=by simp [qU, *]
theorem Zd (k:Int):1≤yj k∧yj k≤2:=by unfold yj;split<;>omega
theorem zm5 (a:Int)(f:Nat)(w:World)(l:yN a f=true):
  Calls prog 47 #[.int .i64 a,.int .u64 f] w fun h i=>∃(j:Nat) (b:List Gate) (c:Option Addr) (d:Nat) (e:Option Addr) (m g:Nat),Hid (j=(zM a.toNat f).1∧b=(zM a.toNat f).2.1)∧
   h= .returned (.tuple #[.agg #[.int .i64 j,.slice c b.length d,.slice e m g],.nilIface])∧Hid (i.ownsRow w.heap.size 194 3 (.slice c b.length d) b.length (yT b))∧Below w.heap.size w i:=by
 refine (zh4 a f w l).mono ?_;rintro h _ ⟨_,_,rfl,k,n,o⟩;have p:=Arr.of_owns k;obtain ⟨c,d,rfl,_⟩:=Arr.open p;obtain ⟨e,g,rfl,_⟩:=Arr.open n;exact ⟨_,_,c,d,e,_,g,⟨rfl,rfl⟩,rfl,k,o⟩
theorem Arr.drew {B:Nat}{v:Value}{n:Nat}{a:List Value}(b:Arr B w k v n a):Arr B w.drew k v n a:=b
theorem zef {x y z:Value}{fr:Nat×Nat}(a:w.heap[g]? =some (.cells #[x,y,z] t fr)):w.cell? ⟨g,0,none⟩=some x∧w.cell? ⟨g,1,none⟩=some y∧w.cell? ⟨g,2,none⟩=some z:=by
 refine ⟨?_,?_,?_⟩<;>simp [World.cell?,a]
def zn1 (w:World)(ops:List MOp)(n0:MNeed)(g:Nat)(x i:Value)(wr:World):Prop:=
 ∃(a:Nat) (b:MNeed),a≤ops.length∧g=ops.length-a∧i= .int .i64 a∧x= .int .i64 (ZV (ops.take a))∧Hid (NSt w b wr)∧Hid (zi (ops.drop a) b=zi ops n0)∧Hid (b.small (10000 * a:Nat))
theorem zn1.next {ops:List MOp}{n0:MNeed}{o:MOp}{W:World}{x:Int}(a:k<ops.length)(b:ops[k]=o)(d:Hid (zi (ops.drop k) n=zi ops n0))(e:Hid (n.small (10000 * k:Nat)))
  (f:(qq o 65536 65536).2=true) (c:qU n o=m) (g:x=ZV (ops.take k)+if o.kind=17 then 1 else 0) (h:NSt w m W):zn1 w ops n0 (ops.length-(k+1)) (.int .i64 x) (.int .i64 ((k:Int)+1)) W:=by
 refine ⟨k+1,m,by omega,rfl,by go_num,?_,h,?_,?_⟩
 ·rw [zeo ops k a,b,←g]
 ·unfold Hid;rw [←d.out,List.drop_eq_getElem_cons a,b,zi,c]
 ·have:=ZH e o f
  rw [c] at this;rw [show 10000 * (k+1)=10000 * k+10000 by omega];exact this
theorem zm9 (v:Value)(ops:List MOp)(w:World)(U:qK ops 65536 65536=true)(ak:Arr w.heap.size w 6 v ops.length (qz ops))(aR:ops.length≤16384)(aS:∀c∈ops,c.c<18446744073709551616)(aT:yC w):
  Calls prog 22 #[v] w (qM (.agg (zy ops).arr) w):=by
 have P:=zQ U;have aU:=YF ops;have al:=QP ops;rw [if_pos U] at al;obtain ⟨_,_,rfl,_,am,an,V⟩:=ak.open;have aV:=Z ak;have aW:=Z aT;have ao:=Z aS;have W:=Z U;have bt:=Z V;have bu:=Z P;have aX:=Z aU;have bv:=Z al;clear ak aT aS U an am V P aU al;have aY:=Z (show NSt w yG ((w.alloc (.cells yG.arr 26)).alloc (.cells yG.arr 26)) from ⟨heap_alloc2_old _ _ _,heap_alloc2_new _ _ _,qm _ _ _⟩);simp only [MNeed.arr,yG] at aY;obtain ⟨e,P⟩:∃e,qw ops=e:=⟨_,rfl⟩;have Q:=Z P;clear P;go_enter func22,ntmps22;go_wp2_with ((go_at_call 18;go_must (refine (zaG _ ops _ W (aV.later' (qm _ _ _)) aR ao (aW.below (qm _ _ _))).mono ?_;rw [Q.out];rintro o bw ⟨_,rfl,aZ,a0⟩;obtain ⟨_,_,rfl,_,a1⟩:=qg aZ;have a2:=Z a1;have bx:=Z (aY.later a0);clear a0 aZ a1)));have cm:e.length≤16384:=by rw [←Q.out,bv.out];exact aR
 go_loopg [15] e.length (fun ap aq wr=>∃d:Nat,d≤e.length∧ap=e.length-d∧aq= .int .i64 d∧Hid (NSt w {yG with rounds:=zG (e.take d)} wr)∧Hid (∀j,j≠w.heap.size+1→wr.heap[j]? =bw.heap[j]?))
 case atStart=>exact ⟨0,Nat.zero_le _,rfl,rfl,bx,fun _ _=>rfl⟩
 case round=>
  obtain ⟨d,bz,bA,rfl,B,X⟩:=hrel
  by_cases F:d<e.length
  ·obtain ⟨ar,rfl,a3,bB,a4⟩:=a2.out (by omega)
   have bC:ar≠w.heap.size+1:=by rw [World.size_alloc,World.size_alloc] at a3;omega
   have bD:wr.cell? ⟨ar,d,none⟩=some (.int .i64 e[d]):=by
    have au:=a4 d (by omega);rw [yY e d F] at au;simp only [World.cell?] at au ⊢;rw [X.out ar bC];exact au
   have bE:=aX.out e[d] (by rw [Q.out];exact List.getElem_mem _);have bF:=zeF (n:=(2 * ops.length:Nat)) (l:=e.take d) (fun Y V=>aX.out Y (by rw [Q.out];exact List.mem_of_mem_take V)) (by omega);have aa:=Z (show zG (e.take (d+1))=max (zG (e.take d)) e[d] by rw [List.take_succ_eq_append_getElem F,zeE]);generalize e[d]=Y at bD bE aa;obtain ⟨C,a5⟩:∃C,zG (e.take d)=C:=⟨_,rfl⟩;rw [a5] at B aa bF;obtain ⟨⟨q,r,s,t,u,x,y,z⟩,G,H,I,J,K,L,M,N⟩:=zC B.need;simp only [yG] at q r s t u x y z;clear a4 a5 a3 bB
   by_cases cn:C<Y
   ·have av:=Z (show zG (e.take (d+1))=Y by rw [aa.out];omega)
    as_aux_lemma=>
     go_wp2_with fail;go_roundg (e.length-(d+1))
     case measure=>omega
     case rel=>
      refine ⟨d+1,by omega,rfl,by go_num,?_,fun j D=>(qe D _).trans (X j D)⟩;rw [av.out];exact B.set 5 _ rfl
   ·have av:=Z (show zG (e.take (d+1))=C by rw [aa.out];omega)
    as_aux_lemma=>
     go_wp2_with fail;go_roundg (e.length-(d+1))
     case measure=>omega
     case rel=>
      refine ⟨d+1,by omega,rfl,by go_num,?_,fun j D=>(qe D _).trans (X j D)⟩;rw [av.out];exact B.set 5 _ rfl
  ·obtain rfl:d=e.length:=by omega
   rw [List.take_length] at B;have aw:=Z (show zG (qw ops)=zG e by rw [Q.out]);generalize zG e=C at B aw;clear X a2;go_wp2_with (first | (go_at_call 37;go_must (refine (zcj _).mono ?_;rintro o _ ⟨rfl,a6⟩;have ab:=Z (B.later a6);clear a6)) | (go_at_call 16;go_must (refine (Zv _ ops _ _ _ W (aV.later ab.below ab.below.size) ao (aW.below ab.below)).mono ?_;rintro o _ ⟨rfl,a7⟩;have bG:=Z (ab.later a7);clear a7)));go_loopg [6,32] ops.length (fun ap ax aq wr=>zn1 w ops {yG with rounds:=C} ap ax aq wr)
   case atStart=>exact ⟨0,_,Nat.zero_le _,rfl,rfl,rfl,bG,rfl,by simp [Hid,MNeed.small,yG]⟩
   case round=>
    obtain ⟨d,b,bz,bA,rfl,rfl,g,a8,ay⟩:=hrel;have ac:=zhE (ops.take d);rw [List.length_take] at ac
    by_cases F:d<ops.length
    ·obtain ⟨_,_,rfl,bH,a9⟩:=bt.out (by omega)
     obtain ⟨A,bI,bJ,bK,bL,az⟩:=y8 a9 g.below bH rfl d F;have m:=Z (fun (c:MOp) (aA:ops[d]=c) (ba:MNeed) (bb:World) (ax:Int) (bM:(qq c 65536 65536).2=true) (am:qU b c=ba) (an:ax=ZV (ops.take d)+if c.kind=17 then 1 else 0) (bN:NSt w ba bb)=>
      zn1.next (n0:={yG with rounds:=C}) F aA a8 ay bM am an bN)
     have k:=Z (bu d F);have aA:=ao.out ops[d] (List.getElem_mem _);obtain ⟨c,aB⟩:∃c,ops[d]=c:=⟨_,rfl⟩;rw [aB] at A bI bJ bK bL az k aA;have p:=Z aB;generalize ZV (ops.take d)=ad at ac m ⊢;clear aB a9;obtain ⟨⟨q,r,s,t,u,x,y,z⟩,G,H,I,J,K,L,M,N⟩:=zC g.need;obtain ⟨⟨bO,bP⟩,⟨bQ,bR⟩,⟨bS,bT⟩,⟨bU,bV⟩,⟨bW,bX⟩,⟨bY,bZ⟩,⟨b0,b1⟩⟩:=ay.out;have co:=Z (g.alloc (.cells c.arr 61));have cp:=g.size
     by_cases k1:c.kind=1
     ·rcases zg9 k k1 with E | E
      ·have i:=Z k1
       have aC:=Z E;rw [k1] at A;rw [E] at az;clear k1 E
       as_aux_lemma=>
        go_wp2_with fail;go_roundg (ops.length-(d+1))
        case measure=>omega
        case rel=>
         go_light;have f:=i.out;exact m c p _ _ _ k (zcC b c f aC) (by rw [if_neg (by omega)];omega) (NSt.alloc (NSt.set (m:={b with t0:=b.t0+1,w0:=b.w0+1}) (NSt.set (m:={b with t0:=b.t0+1}) g 3 (.int .i64 (b.t0+1)) rfl) 6 (.int .i64 (b.w0+1)) rfl) _)
      ·have i:=Z k1
       have aC:=Z E;rw [k1] at A;rw [E] at az;clear k1 E
       as_aux_lemma=>
        go_wp2_with fail;go_roundg (ops.length-(d+1))
        case measure=>omega
        case rel=>
         go_light;have f:=i.out;exact m c p _ _ _ k (zcD b c f aC) (by rw [if_neg (by omega)];omega) (NSt.alloc (NSt.set (m:={b with t1:=b.t1+1,w1:=b.w1+1}) (NSt.set (m:={b with t1:=b.t1+1}) g 4 (.int .i64 (b.t1+1)) rfl) 7 (.int .i64 (b.w1+1)) rfl) _)
     by_cases k6:c.kind=6
     ·have i:=Z k6
      rw [k6] at A;clear k6 k1
      as_aux_lemma=>
       go_wp2_with fail;go_roundg (ops.length-(d+1))
       case measure=>omega
       case rel=>
        go_light;have f:=i.out;exact m c p _ _ _ k (zb4 b c f) (by rw [if_neg (by omega)];omega) (NSt.alloc (NSt.set (m:={b with tri:=b.tri+1,w0:=b.w0+2,w1:=b.w1+2}) (NSt.set (m:={b with tri:=b.tri+1,w0:=b.w0+2}) (NSt.set (m:={b with tri:=b.tri+1}) g 0 (.int .i64 (b.tri+1)) rfl) 6 (.int .i64 (b.w0+2)) rfl) 7 (.int .i64 (b.w1+2)) rfl) _)
     by_cases k9:c.kind=9
     ·have i:=Z k9
      rw [k9] at A;clear k9 k1
      as_aux_lemma=>
       go_wp2_with fail;go_roundg (ops.length-(d+1))
       case measure=>omega
       case rel=>
        go_light;have f:=i.out;exact m c p _ _ _ k (zb5 b c f) (by rw [if_neg (by omega)];omega) (NSt.alloc (NSt.set (m:={b with bits:=b.bits+1,w0:=b.w0+2,w1:=b.w1+2}) (NSt.set (m:={b with bits:=b.bits+1,w0:=b.w0+2}) (NSt.set (m:={b with bits:=b.bits+1}) g 1 (.int .i64 (b.bits+1)) rfl) 6 (.int .i64 (b.w0+2)) rfl) 7 (.int .i64 (b.w1+2)) rfl) _)
     by_cases k18:c.kind=18
     ·have i:=Z k18
      rw [k18] at A;clear k18 k1
      as_aux_lemma=>
       go_wp2_with fail;go_roundg (ops.length-(d+1))
       case measure=>omega
       case rel=>
        go_light;have f:=i.out;exact m c p _ _ _ k (Q4 b c (.inl f)) (by rw [if_neg (by omega)];omega) (NSt.alloc (NSt.set (m:={b with w0:=b.w0+1,w1:=b.w1+1}) (NSt.set (m:={b with w0:=b.w0+1}) g 6 (.int .i64 (b.w0+1)) rfl) 7 (.int .i64 (b.w1+1)) rfl) _)
     by_cases k19:c.kind=19
     ·have i:=Z k19
      rw [k19] at A;clear k19 k1
      as_aux_lemma=>
       go_wp2_with fail;go_roundg (ops.length-(d+1))
       case measure=>omega
       case rel=>
        go_light;have f:=i.out;exact m c p _ _ _ k (Q4 b c (.inr f)) (by rw [if_neg (by omega)];omega) (NSt.alloc (NSt.set (m:={b with w0:=b.w0+1,w1:=b.w1+1}) (NSt.set (m:={b with w0:=b.w0+1}) g 6 (.int .i64 (b.w0+1)) rfl) 7 (.int .i64 (b.w1+1)) rfl) _)
     by_cases k17:c.kind=17
     ·have aD:=ZA k k17
      have b2:=zen aD;obtain ⟨n,ae⟩:∃n,(zM c.k.toNat c.c).1=n:=⟨_,rfl⟩;obtain ⟨R,af⟩:∃R,(zM c.k.toNat c.c).2.1=R:=⟨_,rfl⟩;obtain ⟨O,ag⟩:∃O,yw R=O:=⟨_,rfl⟩;rw [ae,af,ag] at b2;have b3:=Zd c.k;have b4:=Z ae;have bc:=Z af;have b5:=Z ag;have b6:=Z aD;have i:=Z k17;have aE:=Z (show qU b c={b with ots:=b.ots+64 * yj c.k,t0:=b.t0+2 * (n:Int),w0:=b.w0+2 * (192 * yj c.k+2 * (O:Int)),w1:=b.w1+yj c.k} by rw [za3 b c k17,zbk,zae,ae,af,ag]);rw [k17] at A;clear k17 k1 k6 k9 k18 k19 ae af ag aD;obtain ⟨h,aF⟩:∃h,yj c.k=h:=⟨_,rfl⟩;have b7:=Z aF;rw [aF] at b3 aE;clear aF;go_upto_region 33 with (first | (go_at_call 47;go_must (refine (zm5 _ _ _ b6).mono ?_;rintro o ah ⟨_,_,b8,b9,_,_,_,bd,rfl,aG,aH⟩;obtain ⟨rfl,rfl⟩:=bd.out;rw [b4.out,bc.out];rw [bc.out] at aG;have be:=Z ((g.alloc _).later aH);obtain ⟨S,ca,cb⟩:=yF aH;obtain ⟨cc,cd,ce,cf,cg,ch⟩:=Qd S;have cq:wr.heap.size<ah.heap.size:=(by omega);clear S ca aH cb bd)) | (go_at_call 48;go_must (refine (zgT _ _ _ _ _ _ _).mono ?_;(rw [show (if c.k=1 then (1:Int) else 2)=h from b7.out]);rintro o ci ⟨rfl,aI⟩;have bf:=Z ((be.alloc _).later aI);obtain ⟨S,bg,cj⟩:=yF aI;have bh:=Z S;have bi:=Z (Below.owns aG bg);clear S bg aI cj)));clear q r s t u x y z G H I J K L M N cc cd ce cf cg ch aG;obtain ⟨⟨q,r,s,t,u,x,y,z⟩,G,H,I,J,K,L,M,N⟩:=zC bf.need;obtain ⟨bj,bk,bl⟩:=zef bh;have cr:w.heap.size+1<ah.heap.size:=be.size;have bm:¬ah.heap.size=w.heap.size+1:=by omega
      have cs:¬w.heap.size+1=ah.heap.size:=by omega
      go_upto_region 35 with fail;have ai:=NSt.set (m:={b with ots:=b.ots+64 * h,t0:=b.t0+2 * (n:Int)}) (NSt.set (m:={b with ots:=b.ots+64 * h}) bf 2 (.int .i64 (b.ots+64 * h)) rfl) 3 (.int .i64 (b.t0+2 * (n:Int))) rfl;have aJ:=(qe bm (j:=3) (.int .i64 (b.t0+2 * (n:Int)))).trans ((qe bm (j:=2) (.int .i64 (b.ots+64 * h))).trans bh);have aK:∀j,(Value.slice b8 R.length b9).ownBlock=some j→w.heap.size+1<j:=fun j D=>by have:=(bi.lt j D).1;rw [World.size_alloc] at this;omega
      have aL:=ownsRow_setCell_other (ownsRow_setCell_other bi (a:=⟨w.heap.size+1,2,none⟩) (fun o=>by have:=aK (w.heap.size+1) o;omega) (.int .i64 (b.ots+64 * h))) (a:=⟨w.heap.size+1,3,none⟩) (fun o=>by have:=aK (w.heap.size+1) o;omega) (.int .i64 (b.t0+2 * (n:Int)));clear aK q r s t u x y z G H I J K L M N bj bk bl;generalize (ci.setCell ⟨w.heap.size+1,2,none⟩ (.int .i64 (b.ots+64 * h))).setCell ⟨w.heap.size+1,3,none⟩ (.int .i64 (b.t0+2 * (n:Int)))=bb at ai aJ aL ⊢;obtain ⟨⟨q,r,s,t,u,x,y,z⟩,G,H,I,J,K,L,M,N⟩:=zC ai.need;obtain ⟨bj,bk,bl⟩:=zef aJ;simp only at q r s t u x y z;have ck:=Z ai;have bn:=Z (Arr.of_owns aL);clear ai aJ aL;go_region_with (go_at_call 49;go_must (refine (zmg _ _ _ R _ (by first | exact bn | exact Arr.drew bn)).mono ?_;rw [b5.out];rintro o _ ⟨rfl,aj⟩;(try replace aj:=Below.undrew aj);have aM:=ck.later aj;obtain ⟨⟨_,_,_,_,_,_,_,_⟩,_,_,_,_,_,_,_,_⟩:=zC aM.need;have cl:=Z aM;clear aM aj))
      all_goals
       go_wp2_with fail;go_roundg (ops.length-(d+1))
       case measure=>omega
       case rel=>
        go_light;have f:=i.out;have bo:=NSt.set (m:={b with ots:=b.ots+64 * h,t0:=b.t0+2 * (n:Int),w0:=b.w0+2 * (192 * h+2 * (O:Int)),w1:=b.w1+h}) (NSt.set (m:={b with ots:=b.ots+64 * h,t0:=b.t0+2 * (n:Int),w0:=b.w0+2 * (192 * h+2 * (O:Int))}) cl 6 (.int .i64 (b.w0+2 * (192 * h+2 * (O:Int)))) rfl) 7 (.int .i64 (b.w1+h)) rfl
        first
        |exact m c p _ _ _ k aE (by rw [if_pos f]) bo
        |exact m c p _ _ _ k aE (by rw [if_pos f]) bo.drew
     have i:=Z (show ¬c.kind=1∧¬c.kind=6∧¬c.kind=9∧¬c.kind=18∧¬c.kind=19∧¬c.kind=17 from ⟨k1,k6,k9,k18,k19,k17⟩);have ct:(c.kind==1)=false:=by simpa using k1
     have cu:(c.kind==6)=false:=by simpa using k6
     have cv:(c.kind==9)=false:=by simpa using k9
     have cw:(c.kind==18)=false:=by simpa using k18
     have cx:(c.kind==19)=false:=by simpa using k19
     have cy:(c.kind==17)=false:=by simpa using k17
     clear k1 k6 k9 k18 k19 k17
     as_aux_lemma=>
      go_wp2_with fail;go_roundg (ops.length-(d+1))
      case measure=>omega
      case rel=>
       go_light;have f:=i.out;exact m c p _ _ _ k (zeL b c f.1 f.2.1 f.2.2.1 f.2.2.2.1 f.2.2.2.2.1 f.2.2.2.2.2) (by rw [if_neg (by omega)];omega) (NSt.alloc g _)
    ·obtain rfl:d=ops.length:=by omega
     rw [List.take_length] at ac ⊢;have aN:=a8.out;rw [List.drop_length,zi] at aN;have bp:=Z aN;clear aN;obtain ⟨ad,aO⟩:∃ad,ZV ops=ad:=⟨_,rfl⟩;have bq:=Z aO;rw [aO] at ac ⊢;clear aO;obtain ⟨⟨q,r,s,t,u,x,y,z⟩,G,H,I,J,K,L,M,N⟩:=zC g.need;obtain ⟨⟨bO,bP⟩,⟨bQ,bR⟩,⟨bS,bT⟩,⟨bU,bV⟩,⟨bW,bX⟩,⟨bY,bZ⟩,⟨b0,b1⟩⟩:=ay.out
     by_cases br:0<ad
     ·have T:zy ops={b with t0:=b.t0+2}:=by
       rw [zy,if_pos W.out];simp only;rw [if_pos (by rw [bq.out];exact br),aw.out,bp.out]
      have aP:=Z T;have bs:=NSt.set (m:={b with t0:=b.t0+2}) g 3 (.int .i64 (b.t0+2)) rfl;have aQ:=Z bs;clear T bs
      as_aux_lemma=>
       go_wp2_with ((with_reducible show wpList _ _ _ (⟨_,Op.store _ (.tmp 2) _,_,_,_,_⟩::_) _ _);go_must (refine wpList_store_row rfl 26 _ _ rfl w.heap.size (MNeed.arr {b with t0:=b.t0+2}) rfl rfl 26 yG.arr aQ.res Yq rfl (by simp [Value.oneCell',MNeed.arr]) ?_));exact bodyPost_ret (results_cell_row rfl _ _ w.heap.size 26 (MNeed.arr {b with t0:=b.t0+2}) _ _ rfl (setRow_heap _ _ _ _ _ _ aQ.res) underlying26 rfl Yq) rfl ⟨by rw [aP.out],below_setRow aQ.below (Nat.le_refl _) _⟩
     ·have T:zy ops=b:=by
       rw [zy,if_pos W.out];simp only;rw [if_neg (by rw [bq.out];exact br),aw.out,bp.out]
      have aP:=Z T;clear T
      as_aux_lemma=>
       go_wp2_with ((with_reducible show wpList _ _ _ (⟨_,Op.store _ (.tmp 2) _,_,_,_,_⟩::_) _ _);go_must (refine wpList_store_row rfl 26 _ _ rfl w.heap.size b.arr rfl rfl 26 yG.arr g.res Yq rfl (by simp [Value.oneCell',MNeed.arr]) ?_));exact bodyPost_ret (results_cell_row rfl _ _ w.heap.size 26 b.arr _ _ rfl (setRow_heap _ _ _ _ _ _ g.res) underlying26 rfl Yq) rfl ⟨by rw [aP.out],below_setRow g.below (Nat.le_refl _) _⟩
theorem za4 (v:Value)(ops:List MOp)(w:World)(b:Arr w.heap.size w 6 v ops.length (qz ops))(e:ops.length≤1000000)(c:∀f∈ops,f.c<18446744073709551616)(d:yC w):
  Calls prog 22 #[v] w (qM (.agg (zy ops).arr) w):=by
 by_cases a:qK ops 65536 65536=true
 ·refine zm9 v ops w a b ?_ c d
  simp only [qK,Bool.and_eq_true,decide_eq_true_eq] at a;exact a.1.2
 ·have g:qK ops 65536 65536=false:=by simpa using a
  have h:zy ops=yG:=by rw [zy,if_neg a]
  rw [h];exact zox v ops w g b e c d
theorem ZK (v:Value)(ops:List MOp)(w:World)(d:Arr w.heap.size w 6 v ops.length (qz ops))(h:ops.length≤1000000)(e:∀i∈ops,i.c<18446744073709551616)(f:yC w):
  Calls prog 18 #[v] w fun b c=>∃g,b= .returned g∧c.ownsRow w.heap.size 3 1 g (qw ops).length (ints (qw ops))∧Below w.heap.size w c:=by
 by_cases a:qK ops 65536 65536=true
 ·refine zaG v ops w a d ?_ e f
  simp only [qK,Bool.and_eq_true,decide_eq_true_eq] at a;exact a.1.2
 ·have j:qK ops 65536 65536=false:=by simpa using a
  have b:qw ops=[]:=by rw [qw,if_neg a]
  rw [b];exact (zdh v ops w j d h e f).mono fun b c ⟨k,l⟩=>⟨_,k,World.ownsRow_nil _ _ _ _,l⟩
end Go.Proofs.YtklofgfkaaoipaaGreatDoor
