/-
  WORDS: micro-operations, as values and in memory.
-/
import Derived.Test.YtklofgfkaaoipaaGreatDoorMMem
import Derived.Test.YtklofgfkaaoipaaGreatDoorMCircTop
import Derived.Deep.DeepCutAuto
import Derived.Test.YtklofgfkaaoipaaGreatDoorMHd
set_option maxHeartbeats 16000000
set_option maxRecDepth 100000
set_option linter.unusedSimpArgs false
set_option linter.unusedVariables false
namespace Go.Proofs.YtklofgfkaaoipaaGreatDoor
open Go.Proofs.Tryz
structure MOp where
 kind:Int
 a:Int
 b:Int
 k:Int
 c:Nat
 party:Int
def MOp.arr (o:MOp):Array Value:=#[.int .i64 o.kind,.int .i64 o.a,.int .i64 o.b,.int .i64 o.k,.int .u64 o.c,.int .i64 o.party]
abbrev MOp.cells (o:MOp):List Value:=[.int .i64 o.kind,.int .i64 o.a,.int .i64 o.b,.int .i64 o.k,.int .u64 o.c,.int .i64 o.party]
def qz (l:List MOp):List Value:=l.flatMap MOp.cells
end Go.Proofs.YtklofgfkaaoipaaGreatDoor
namespace Go.Proofs.YtklofgfkaaoipaaGreatDoor
open Go.RowKit Go.Proofs.Tryz
variable {w H:World}{E F G outs:Nat}{h A:Int}{D:List Int}{x:Value}{B:Bool}
def qI (o:MOp):Bool:=o.kind==18||o.kind==19
def zfM (f w:Int):Bool:=f==w||(f==3&&w != 0)
def yX (c:Nat):Int:=if c%2=1 then 2 else 1
def qG (b:List Int)(a w:Int):Bool:=if w=0 then a==0 else decide (0≤a)&&decide (a<b.length)&&zfM (b.getD a.toNat 0) w
theorem zff (d a b k f:Int)(c:Nat)(w:World):
  Calls prog 78 #[.agg #[.int .i64 d,.int .i64 a,.int .i64 b,.int .i64 k,.int .u64 c,.int .i64 f]] w fun g h=>g= .returned (.bool (d==18||d==19))∧Below w.heap.size w h:=by
 by_cases e:d=18
 ·subst e
  go_enter func78,ntmps78;go_wp2_with fail;go_ret;exact ⟨rfl,(Below.refl _ _).alloc (Nat.le_refl _) _⟩
 ·have i:(d==18)=false:=by simpa using e
  clear e;go_enter func78,ntmps78;go_wp2_with fail;go_ret;exact ⟨by rw [i];rfl,(Below.refl _ _).alloc (Nat.le_refl _) _⟩
theorem zmG (f m:Int)(w:World):Calls prog 127 #[.int .i64 f,.int .i64 m] w fun e g=>e= .returned (.bool (zfM f m))∧w=g:=by
 unfold zfM
 by_cases a:f=m
 ·have b:(f==m)=true:=by simpa using a
  clear a;go_enter func127,ntmps127;go_wp2_with fail;go_ret;exact ⟨by rw [b];rfl,rfl⟩
 ·have b:(f==m)=false:=by simpa using a
  clear a
  by_cases c:f=3
  ·have d:(f==3)=true:=by simpa using c
   clear c;go_enter func127,ntmps127;go_wp2_with fail;go_ret;exact ⟨by rw [b,d];rfl,rfl⟩
  ·have d:(f==3)=false:=by simpa using c
   clear c;go_enter func127,ntmps127;go_wp2_with fail;go_ret;exact ⟨by rw [b,d];rfl,rfl⟩
theorem zn4 (c:Nat)(a:c<18446744073709551616):bits .and .u64 (c:Int) 1=((c%2:Nat):Int):=by
 have:=u64_and_nat c 1 a (by decide);rw [show ((1:Int))=((1:Nat):Int) from rfl,this,nat_mask1]
theorem zbX (c:Nat)(w:World)(d:c<18446744073709551616):Calls prog 128 #[.int .u64 c] w fun e f=>e= .returned (.int .i64 (yX c))∧w=f:=by
 have a:=zn4 c d;unfold yX
 by_cases b:c%2=1
 ·rw [b] at a
  rw [if_pos b];have g:bits .and .u64 (c:Int) 1=1:=a;clear a b d;go_enter func128,ntmps128;go_wp2_with fail;go_ret;exact ⟨rfl,rfl⟩
 ·rw [show c%2=0 by omega] at a
  rw [if_neg b];have g:bits .and .u64 (c:Int) 1=0:=a;clear a b d;go_enter func128,ntmps128;go_wp2_with fail;go_ret;exact ⟨rfl,rfl⟩
theorem zcj (w:World):Calls prog 37 #[] w fun a b=>a= .returned (.agg #[.int .i64 65536,.int .i64 65536])∧Below w.heap.size w b:=by
 go_enter func37,ntmps37;go_wp2_with fail;exact bodyPost_ret (v:= .agg #[.int .i64 65536,.int .i64 65536]) (by simp [results,Tryz.results37,go_sem]) rfl ⟨rfl,by first | exact (Below.refl _ _).alloc (Nat.le_refl _) _ | exact ((((Below.refl _ _).alloc (Nat.le_refl _) _).setCell (by simp) _).setCell (by simp) _)⟩
theorem zgT (e a b k f:Int)(c:Nat)(w:World):
  Calls prog 48 #[.agg #[.int .i64 e,.int .i64 a,.int .i64 b,.int .i64 k,.int .u64 c,.int .i64 f]] w fun g h=>g= .returned (.int .i64 (if k=1 then 1 else 2))∧Below w.heap.size w h:=by
 by_cases d:k=1
 ·subst d
  go_enter func48,ntmps48;go_wp2_with fail;go_ret;exact ⟨rfl,(Below.refl _ _).alloc (Nat.le_refl _) _⟩
 ·rw [if_neg d]
  have:(k==1)=false:=by simpa using d
  clear d;go_enter func48,ntmps48;go_wp2_with fail;go_ret;exact ⟨rfl,(Below.refl _ _).alloc (Nat.le_refl _) _⟩
theorem zdl (g:Value)(a:List Int)(c m:Int)(w:World)(h:Arr w.heap.size w 1 g a.length (ints a)):
  Calls prog 79 #[g,.int .i64 c,.int .i64 m] w fun i j=>i= .returned (.bool (qG a c m))∧w=j:=by
 obtain ⟨_,_,rfl,_,q,r,k⟩:=h.open;have s:=Z k;unfold maxLen at q;clear k r h;unfold qG
 by_cases d:m=0
 ·subst d
  rw [if_pos rfl];go_enter func79,ntmps79;go_wp2_with fail;go_ret;exact ⟨rfl,rfl⟩
 ·rw [if_neg d]
  have:(m==0)=false:=by simpa using d
  clear d
  by_cases l:0≤c
  ·obtain ⟨b,rfl⟩:=Int.eq_ofNat_of_zero_le l
   by_cases n:b<a.length
   ·obtain ⟨t,u,rfl,_,o⟩:=s.out (by omega)
    have:w.cell? ⟨t,u+b,none⟩=some (.int .i64 a[b]):=by rw [o b (by omega),yY a b n]
    have p:zfM (a.getD b 0) m=zfM a[b] m:=by simp [List.getD,n]
    have v:=Z p;have e:decide ((0:Int)≤b)=true:=by simp
    have f:decide ((b:Int)<a.length)=true:=by simp;omega
    clear o p;go_enter func79,ntmps79;go_wp2_with (go_at_call 127;refine (zmG _ _ _).mono ?_;rintro i j ⟨rfl,rfl⟩);go_ret;exact ⟨by rw [Int.toNat_natCast,v.out,e,f];simp,rfl⟩
   ·have f:decide ((b:Int)<a.length)=false:=by simp;omega
    go_enter func79,ntmps79;go_wp2_with fail;go_ret;exact ⟨by rw [f];simp,rfl⟩
  ·have e:decide (0≤c)=false:=by simpa using l
   go_enter func79,ntmps79;go_wp2_with fail;go_ret;exact ⟨by first | rfl | (rw [e];simp),rfl⟩
structure Rule where
 a:Int
 b:Int
 makes:Int
 k:Int
 c:Bool
 party:Bool
 rounds:Int
def Yz:Rule:=⟨0,0,0,0,false,false,0⟩
def Rule.arr (r:Rule):Array Value:=#[.int .i64 r.a,.int .i64 r.b,.int .i64 r.makes,.int .i64 r.k,.bool r.c,.bool r.party,.int .i64 r.rounds]
def Rule.out (r:Rule×Bool):Value:= .tuple #[.agg r.1.arr,.bool r.2]
def ye (k:Int)(c:Nat):Rule×Bool:=if yN k c then (⟨yX c,if k=1 then 0 else yX (c / 2),2,4,true,false,2⟩,true) else (Yz,false)
def zI (a b c:Int):Rule×Bool:=
 if a=0 then (⟨0,0,1,b,false,true,1⟩,decide (0<b)) else if a=1 then (⟨0,0,1,c,false,true,1⟩,decide (0<c)) else (Yz,false)
def qu (a:Int):Rule×Bool:=
 if a=2 then (⟨0,0,3,0,true,false,0⟩,true)
 else if a=3∨a=4 then (⟨1,1,1,0,false,false,0⟩,true)
 else if a=5 then (⟨1,0,1,0,true,false,0⟩,true)
 else if a=6 then (⟨1,1,1,0,false,false,1⟩,true)
 else if a=7 then (⟨2,2,2,0,false,false,0⟩,true)
 else if a=8∨a=10 then (⟨2,0,2,0,true,false,0⟩,true)
 else if a=9 then (⟨2,2,2,0,false,false,1⟩,true)
 else if a=11∨a=12∨a=13 then (⟨2,0,2,64,false,false,0⟩,true)
 else if a=14 then (⟨2,0,2,0,false,false,0⟩,true)
 else if a=15 then (⟨1,0,2,0,false,true,0⟩,true)
 else if a=16 then (⟨2,0,1,64,false,true,0⟩,true)
 else if a=18 then (⟨1,0,0,0,false,false,1⟩,true)
 else if a=19 then (⟨2,0,0,0,false,false,1⟩,true)
 else (Yz,false)
def qq (o:MOp)(a b:Int):Rule×Bool:=
 if o.kind=1 then zI o.party a b else if o.kind=17 then ye o.k o.c else qu o.kind
theorem zS (a:Int)(c:(qu a).2=true):a=2∨a=3∨a=4∨a=5∨a=6∨a=7∨a=8∨a=9∨a=10∨a=11∨a=12∨a=13∨a=14∨a=15∨a=16∨a=18∨a=19:=by
 refine Classical.byContradiction fun b=> ?_
 simp only [not_or] at b;simp [qu,b,Yz] at c
theorem Zu (a:Int)(c:(qu a).2=false):qu a=(Yz,false):=by
 have b:¬(a=2∨a=3∨a=4∨a=5∨a=6∨a=7∨a=8∨a=9∨a=10∨a=11∨a=12∨a=13∨a=14∨a=15∨a=16∨a=18∨a=19):=by
  rintro (rfl | rfl | rfl | rfl | rfl | rfl | rfl | rfl | rfl | rfl | rfl | rfl | rfl | rfl | rfl | rfl | rfl)<;>exact absurd c (by decide)
 simp only [not_or] at b;simp [qu,b]
def Ql (l:List MOp):Nat:=(l.filter qI).length
def yH (outs:Nat)(a:List Int)(o:MOp)(r:Rule×Bool):Bool:=r.2&&(!qI o||(decide (0≤o.k)&&decide (o.k<outs)&&(a.getD o.k.toNat 0==0)))
def opK (outs:Nat)(o:MOp)(r:Rule×Bool):Int:=if qI o then outs else r.1.k
def zX (outs:Nat)(o:MOp)(r:Rule×Bool):Bool:=
 ((decide (0<opK outs o r)&&decide (0≤o.k)&&decide (o.k<opK outs o r))||(o.k==0))&&(r.1.c||(o.c==0))&&((r.1.party&&(o.party==0||o.party==1))||(o.party==0))
def zl (outs:Nat)(b a:List Int)(o:MOp)(r:Rule×Bool):Bool:=yH outs b o r&&(qG a o.a r.1.a&&qG a o.b r.1.b)&&zX outs o r
def YT (a:List Int)(o:MOp)(ok1:Bool):List Int:=if qI o&&ok1 then a.set o.k.toNat 1 else a
def zZ (b c:Int)(outs:Nat):List MOp→List Int→List Int→Option (List Int)
 |[],_,d=>some d
 |a::f,e,d=>
  if zl outs e d a (qq a b c) then zZ b c outs f (YT e a (yH outs e a (qq a b c))) (d++[(qq a b c).1.makes]) else none
def zaA (ops:List MOp)(a b:Int):Option (List Int):=zZ a b (Ql ops) ops (List.replicate (Ql ops) 0) []
def qK (ops:List MOp)(a b:Int):Bool:=
 decide (0≤a)&&decide (a≤65536)&&decide (0≤b)&&decide (b≤65536)&&decide (ops.length≤16384)&&(zaA ops a b).isSome
def Qf (a:List Int)(o:MOp)(r:Rule):Int:=
 if r.b=0 then (if r.a=0 then 0 else a.getD o.a.toNat 0) else max (if r.a=0 then 0 else a.getD o.a.toNat 0) (a.getD o.b.toNat 0)
def yM:List MOp→List Int→List Int
 |[],a=>a
 |b::c,a=>yM c (a++[Qf a b (qq b 65536 65536).1+(qq b 65536 65536).1.rounds])
def qw (ops:List MOp):List Int:=if qK ops 65536 65536 then yM ops [] else []
theorem Yr:(prog.info? 92).map (·.size)=some 7:=by kernel_rfl
theorem zh2 (a:Int)(f:Nat)(w:World)(l:yN a f=true):
  Calls prog 47 #[.int .i64 a,.int .u64 f] w fun i e=>∃(j:Nat) (b:List Gate) (c:Option Addr) (d:Nat) (g:Option Addr) (m h:Nat),Hid (j=(zM a.toNat f).1∧b=(zM a.toNat f).2.1)∧
   i= .returned (.tuple #[.agg #[.int .i64 j,.slice c b.length d,.slice g m h],.nilIface])∧Hid (Arr e.heap.size e 3 (.slice c b.length d) b.length (yT b))∧Below w.heap.size w e:=by
 refine (zh4 a f w l).mono ?_;rintro i _ ⟨_,_,rfl,n,o,p⟩;have k:=Arr.of_owns n;obtain ⟨c,d,rfl,_⟩:=k.open;obtain ⟨g,h,rfl,_⟩:=o.open;exact ⟨_,_,c,d,g,_,h,⟨rfl,rfl⟩,rfl,k,p⟩
theorem zkZ (n a b k o:Int)(c:Nat)(w:World)(p:c<18446744073709551616)(f:yN k c=true)(d:k=1):
  Calls prog 81 #[.agg #[.int .i64 n,.int .i64 a,.int .i64 b,.int .i64 k,.int .u64 c,.int .i64 o]] w (qM (Rule.out (ye 1 c)) w):=by
 have h:ye 1 c=(⟨yX c,0,2,4,true,false,2⟩,true):=by rw [ye,if_pos (by rw [←d];exact f)];rfl
 rw [h];have q:=Z f;have:(k==1)=true:=by simpa using d
 have:(k != 1)=false:=by simpa using d
 clear f h d;go_enter func81,ntmps81;go_upto_region 7 with (first | ((go_at_call 47);go_must (refine (zh2 _ _ _ q).mono ?_;rintro r e ⟨_,_,_,_,_,_,_,s,rfl,t,i⟩;clear t s;obtain ⟨g,j,l,u⟩:=zcV i;have:e.cell? ⟨w.heap.size,3,none⟩=some (.int .i64 k):=(by simp [World.cell?,g]);have:e.cell? ⟨w.heap.size,4,none⟩=some (.int .u64 c):=(by simp [World.cell?,g]);have v:=Z l;have m:=Z j;have:w.heap.size<e.heap.size:=(by omega);have:w.heap.size+1<e.heap.size:=(by omega);clear i g j l u)) | ((go_at_call 128);refine (zbX _ _ p).mono ?_;rintro r _ ⟨rfl,rfl⟩));go_wp2_with ((with_reducible show wpList _ _ _ (⟨_,Op.store _ (.tmp 2) _,_,_,_,_⟩::_) _ _);go_must (refine wpList_store_row rfl 92 _ _ rfl (w.heap.size+1) _ rfl rfl 92 #[.int .i64 0,.int .i64 0,.int .i64 0,.int .i64 0,.bool false,.bool false,.int .i64 0] (zb6 _ _ m) Yr rfl (by simp [Value.oneCell']) ?_));refine bodyPost_ret (ql rfl _ _ (w.heap.size+1) 92 (Rule.arr ⟨yX c,0,2,4,true,false,2⟩) _ _ rfl (setRow_heap _ _ _ _ _ _ (zb6 _ _ m)) underlying92 rfl Yr) rfl ⟨rfl,?_⟩;exact below_setRow ((v.alloc (by omega) _).alloc (by simp;omega) _) (by omega) _
theorem zk0 (o a b k p:Int)(c:Nat)(w:World)(q:c<18446744073709551616)(f:yN k c=true)(d:k≠1):
  Calls prog 81 #[.agg #[.int .i64 o,.int .i64 a,.int .i64 b,.int .i64 k,.int .u64 c,.int .i64 p]] w (qM (Rule.out (ye k c)) w):=by
 have h:ye k c=(⟨yX c,yX (c / 2),2,4,true,false,2⟩,true):=by rw [ye,if_pos f,if_neg d]
 rw [h];have r:=Z f;have:(k==1)=false:=by simpa using d
 have:(k != 1)=true:=by simpa using d
 clear f h d;go_enter func81,ntmps81;go_upto_region 6 with (first | ((go_at_call 47);go_must (refine (zh2 _ _ _ r).mono ?_;rintro i e ⟨_,_,_,_,_,_,_,s,rfl,t,j⟩;clear t s;obtain ⟨g,l,m,u⟩:=zcV j;have:e.cell? ⟨w.heap.size,3,none⟩=some (.int .i64 k):=(by simp [World.cell?,g]);have:e.cell? ⟨w.heap.size,4,none⟩=some (.int .u64 c):=(by simp [World.cell?,g]);have v:=Z m;have n:=Z l;have:w.heap.size<e.heap.size:=(by omega);have:w.heap.size+1<e.heap.size:=(by omega);clear j g l m u)) | ((go_at_call 128);refine (zbX _ _ q).mono ?_;rintro i x ⟨rfl,rfl⟩));go_upto_region 7 with ((go_at_call 128);go_must (refine (zbX (c / 2) _ (by omega)).mono ?_;rintro i x ⟨rfl,rfl⟩));go_wp2_with ((with_reducible show wpList _ _ _ (⟨_,Op.store _ (.tmp 2) _,_,_,_,_⟩::_) _ _);go_must (refine wpList_store_row rfl 92 _ _ rfl (w.heap.size+1) _ rfl rfl 92 #[.int .i64 0,.int .i64 0,.int .i64 0,.int .i64 0,.bool false,.bool false,.int .i64 0] (zb6 _ _ n) Yr rfl (by simp [Value.oneCell']) ?_));refine bodyPost_ret (ql rfl _ _ (w.heap.size+1) 92 (Rule.arr ⟨yX c,yX (c / 2),2,4,true,false,2⟩) _ _ rfl (setRow_heap _ _ _ _ _ _ (zb6 _ _ n)) underlying92 rfl Yr) rfl ⟨rfl,?_⟩;exact below_setRow ((v.alloc (by omega) _).alloc (by simp;omega) _) (by omega) _
theorem zoc (d a b k e:Int)(c:Nat)(w:World)(f:yN k c=false)(g:yC w):
  Calls prog 81 #[.agg #[.int .i64 d,.int .i64 a,.int .i64 b,.int .i64 k,.int .u64 c,.int .i64 e]] w (qM (Rule.out (Yz,false)) w):=by
 have o:=Z f;have p:=Z (g.below (qm w (.cells #[.int .i64 d,.int .i64 a,.int .i64 b,.int .i64 k,.int .u64 c,.int .i64 e] 61) (.cells #[.int .i64 0,.int .i64 0,.int .i64 0,.int .i64 0,.bool false,.bool false,.int .i64 0] 92)));clear f g;go_enter func81,ntmps81;go_upto_region 3 with ((go_at_call 47);go_must (refine (zov _ _ _ o p).mono ?_;rintro _ h ⟨_,rfl,⟨_,_,i⟩,j⟩;obtain ⟨_,_,rfl⟩:=i.form;obtain ⟨q,l,m,r⟩:=zcV j;have s:=Z m;have n:=Z l;have:w.heap.size<h.heap.size:=(by omega);have:w.heap.size+1<h.heap.size:=(by omega);clear j q l m r i));go_wp2_with ((with_reducible show wpList _ _ _ (⟨_,Op.store _ (.tmp 2) _,_,_,_,_⟩::_) _ _);go_must (refine wpList_store_row rfl 92 _ _ rfl (w.heap.size+1) _ rfl rfl 92 #[.int .i64 0,.int .i64 0,.int .i64 0,.int .i64 0,.bool false,.bool false,.int .i64 0] (QH _ n) Yr rfl (by simp [Value.oneCell']) ?_));refine bodyPost_ret (ql rfl _ _ (w.heap.size+1) 92 (Rule.arr Yz) _ _ rfl (setRow_heap _ _ _ _ _ _ (QH _ n)) underlying92 rfl Yr) rfl ⟨rfl,?_⟩;exact below_setRow (s.alloc (by omega) _) (by omega) _
theorem zjX (d a b k f g h:Int)(c:Nat)(w:World)(e:(qu d).2=true):
  Calls prog 38 #[.agg #[.int .i64 d,.int .i64 a,.int .i64 b,.int .i64 k,.int .u64 c,.int .i64 f],.agg #[.int .i64 g,.int .i64 h]] w (qM (Rule.out (qu d)) w):=by
 rcases zS d e with rfl | rfl | rfl | rfl | rfl | rfl | rfl | rfl | rfl | rfl | rfl | rfl | rfl | rfl | rfl | rfl | rfl
 all_goals
  clear e;go_enter func38,ntmps38;go_wp2_with fail
 ·exact bodyPost_ret (v:=Rule.out (qu 2)) (by simp [results,Tryz.results38,go_sem,Rule.out,qu,Rule.arr]) rfl ⟨rfl,qB _ _ _ _⟩
 ·exact bodyPost_ret (v:=Rule.out (qu 3)) (by simp [results,Tryz.results38,go_sem,Rule.out,qu,Rule.arr]) rfl ⟨rfl,qB _ _ _ _⟩
 ·exact bodyPost_ret (v:=Rule.out (qu 4)) (by simp [results,Tryz.results38,go_sem,Rule.out,qu,Rule.arr]) rfl ⟨rfl,qB _ _ _ _⟩
 ·exact bodyPost_ret (v:=Rule.out (qu 5)) (by simp [results,Tryz.results38,go_sem,Rule.out,qu,Rule.arr]) rfl ⟨rfl,qB _ _ _ _⟩
 ·exact bodyPost_ret (v:=Rule.out (qu 6)) (by simp [results,Tryz.results38,go_sem,Rule.out,qu,Rule.arr]) rfl ⟨rfl,qB _ _ _ _⟩
 ·exact bodyPost_ret (v:=Rule.out (qu 7)) (by simp [results,Tryz.results38,go_sem,Rule.out,qu,Rule.arr]) rfl ⟨rfl,qB _ _ _ _⟩
 ·exact bodyPost_ret (v:=Rule.out (qu 8)) (by simp [results,Tryz.results38,go_sem,Rule.out,qu,Rule.arr]) rfl ⟨rfl,qB _ _ _ _⟩
 ·exact bodyPost_ret (v:=Rule.out (qu 9)) (by simp [results,Tryz.results38,go_sem,Rule.out,qu,Rule.arr]) rfl ⟨rfl,qB _ _ _ _⟩
 ·exact bodyPost_ret (v:=Rule.out (qu 10)) (by simp [results,Tryz.results38,go_sem,Rule.out,qu,Rule.arr]) rfl ⟨rfl,qB _ _ _ _⟩
 ·exact bodyPost_ret (v:=Rule.out (qu 11)) (by simp [results,Tryz.results38,go_sem,Rule.out,qu,Rule.arr]) rfl ⟨rfl,qB _ _ _ _⟩
 ·exact bodyPost_ret (v:=Rule.out (qu 12)) (by simp [results,Tryz.results38,go_sem,Rule.out,qu,Rule.arr]) rfl ⟨rfl,qB _ _ _ _⟩
 ·exact bodyPost_ret (v:=Rule.out (qu 13)) (by simp [results,Tryz.results38,go_sem,Rule.out,qu,Rule.arr]) rfl ⟨rfl,qB _ _ _ _⟩
 ·exact bodyPost_ret (v:=Rule.out (qu 14)) (by simp [results,Tryz.results38,go_sem,Rule.out,qu,Rule.arr]) rfl ⟨rfl,qB _ _ _ _⟩
 ·exact bodyPost_ret (v:=Rule.out (qu 15)) (by simp [results,Tryz.results38,go_sem,Rule.out,qu,Rule.arr]) rfl ⟨rfl,qB _ _ _ _⟩
 ·exact bodyPost_ret (v:=Rule.out (qu 16)) (by simp [results,Tryz.results38,go_sem,Rule.out,qu,Rule.arr]) rfl ⟨rfl,qB _ _ _ _⟩
 ·exact bodyPost_ret (v:=Rule.out (qu 18)) (by simp [results,Tryz.results38,go_sem,Rule.out,qu,Rule.arr]) rfl ⟨rfl,qB _ _ _ _⟩
 ·exact bodyPost_ret (v:=Rule.out (qu 19)) (by simp [results,Tryz.results38,go_sem,Rule.out,qu,Rule.arr]) rfl ⟨rfl,qB _ _ _ _⟩
theorem zis (d a b k h i j:Int)(c:Nat)(w:World)(f:d≠1)(g:d≠17)(e:(qu d).2=false):
  Calls prog 38 #[.agg #[.int .i64 d,.int .i64 a,.int .i64 b,.int .i64 k,.int .u64 c,.int .i64 h],.agg #[.int .i64 i,.int .i64 j]] w (qM (Rule.out (Yz,false)) w):=by
 have:(d==1)=false:=by simpa using f
 have:(d==2)=false:=by simp only [beq_eq_false_iff_ne];rintro rfl;simp [qu] at e
 have:(d==3)=false:=by simp only [beq_eq_false_iff_ne];rintro rfl;simp [qu] at e
 have:(d==4)=false:=by simp only [beq_eq_false_iff_ne];rintro rfl;simp [qu] at e
 have:(d==5)=false:=by simp only [beq_eq_false_iff_ne];rintro rfl;simp [qu] at e
 have:(d==6)=false:=by simp only [beq_eq_false_iff_ne];rintro rfl;simp [qu] at e
 have:(d==7)=false:=by simp only [beq_eq_false_iff_ne];rintro rfl;simp [qu] at e
 have:(d==8)=false:=by simp only [beq_eq_false_iff_ne];rintro rfl;simp [qu] at e
 have:(d==9)=false:=by simp only [beq_eq_false_iff_ne];rintro rfl;simp [qu] at e
 have:(d==10)=false:=by simp only [beq_eq_false_iff_ne];rintro rfl;simp [qu] at e
 have:(d==11)=false:=by simp only [beq_eq_false_iff_ne];rintro rfl;simp [qu] at e
 have:(d==12)=false:=by simp only [beq_eq_false_iff_ne];rintro rfl;simp [qu] at e
 have:(d==13)=false:=by simp only [beq_eq_false_iff_ne];rintro rfl;simp [qu] at e
 have:(d==14)=false:=by simp only [beq_eq_false_iff_ne];rintro rfl;simp [qu] at e
 have:(d==15)=false:=by simp only [beq_eq_false_iff_ne];rintro rfl;simp [qu] at e
 have:(d==16)=false:=by simp only [beq_eq_false_iff_ne];rintro rfl;simp [qu] at e
 have:(d==17)=false:=by simpa using g
 have:(d==18)=false:=by simp only [beq_eq_false_iff_ne];rintro rfl;simp [qu] at e
 have:(d==19)=false:=by simp only [beq_eq_false_iff_ne];rintro rfl;simp [qu] at e
 clear f g e;go_enter func38,ntmps38;go_wp2_with fail;exact bodyPost_ret (v:=Rule.out (Yz,false)) (by simp [results,Tryz.results38,go_sem,Rule.out,Yz,Rule.arr]) rfl ⟨rfl,qB _ _ _ _⟩
theorem zjU (a b k d e:Int)(c:Nat)(w:World)(B:Bool)(f:decide (0<d)=B):
  Calls prog 38 #[.agg #[.int .i64 1,.int .i64 a,.int .i64 b,.int .i64 k,.int .u64 c,.int .i64 0],.agg #[.int .i64 d,.int .i64 e]] w (qM (Rule.out (⟨0,0,1,d,false,true,1⟩,B)) w):=by
 go_enter func38,ntmps38;go_wp2_with fail;go_region
 all_goals
  go_wp2_with fail;exact bodyPost_ret (v:=Rule.out (⟨0,0,1,d,false,true,1⟩,B)) (by simp [results,Tryz.results38,go_sem,Rule.out,Rule.arr]) rfl ⟨rfl,(qB _ _ _ _).drew⟩
theorem zjV (a b k e d:Int)(c:Nat)(w:World)(B:Bool)(f:decide (0<d)=B):
  Calls prog 38 #[.agg #[.int .i64 1,.int .i64 a,.int .i64 b,.int .i64 k,.int .u64 c,.int .i64 1],.agg #[.int .i64 e,.int .i64 d]] w (qM (Rule.out (⟨0,0,1,d,false,true,1⟩,B)) w):=by
 go_enter func38,ntmps38;go_wp2_with fail;go_region
 all_goals
  go_wp2_with fail;exact bodyPost_ret (v:=Rule.out (⟨0,0,1,d,false,true,1⟩,B)) (by simp [results,Tryz.results38,go_sem,Rule.out,Rule.arr]) rfl ⟨rfl,(qB _ _ _ _).drew⟩
theorem zjW (a b k e f d:Int)(c:Nat)(w:World)(g:(d==0)=false)(h:(d==1)=false):
  Calls prog 38 #[.agg #[.int .i64 1,.int .i64 a,.int .i64 b,.int .i64 k,.int .u64 c,.int .i64 d],.agg #[.int .i64 e,.int .i64 f]] w (qM (Rule.out (Yz,false)) w):=by
 have:(d != 0)=true:=by simp [bne,g]
 have:(d != 1)=true:=by simp [bne,h]
 go_enter func38,ntmps38;go_wp2_with fail;exact bodyPost_ret (v:=Rule.out (Yz,false)) (by simp [results,Tryz.results38,go_sem,Rule.out,Rule.arr,Yz]) rfl ⟨rfl,qB _ _ _ _⟩
theorem zmI (d a b k e:Int)(c:Nat)(w:World)(h:c<18446744073709551616)(i:yC w):
  Calls prog 81 #[.agg #[.int .i64 d,.int .i64 a,.int .i64 b,.int .i64 k,.int .u64 c,.int .i64 e]] w (qM (Rule.out (ye k c)) w):=by
 by_cases f:yN k c=true
 ·by_cases g:k=1
  ·have:=zkZ d a b k e c w h f g
   rw [g] at this ⊢;exact this
  ·exact zk0 d a b k e c w h f g
 ·have j:yN k c=false:=by simpa using f
  rw [show ye k c=(Yz,false) by rw [ye,if_neg f]];exact zoc d a b k e c w j i
theorem zir (a b k d e f:Int)(c:Nat)(w:World)(n:c<18446744073709551616)(g:yC w)(r:Rule)(B:Bool)(h:ye k c=(r,B)):
  Calls prog 38 #[.agg #[.int .i64 17,.int .i64 a,.int .i64 b,.int .i64 k,.int .u64 c,.int .i64 d],.agg #[.int .i64 e,.int .i64 f]] w (qM (Rule.out (r,B)) w):=by
 have o:=Z h;have p:=Z (g.below (qB w (.cells #[.int .i64 17,.int .i64 a,.int .i64 b,.int .i64 k,.int .u64 c,.int .i64 d] 61) (.cells #[.int .i64 e,.int .i64 f] 23) (.cells #[.int .i64 0,.int .i64 0,.int .i64 0,.int .i64 0,.bool false,.bool false,.int .i64 0] 92)));clear h g;go_enter func38,ntmps38;go_wp2_with (first | (go_at_call 81;go_must (refine (zmI _ _ _ _ _ _ _ n p).mono ?_;rw [o.out];unfold qM Rule.out Rule.arr;rintro _ _ ⟨rfl,i⟩;obtain ⟨q,s,j,l,_⟩:=zpe i;have t:=Z l;have m:=Z j;clear i q s j l)) | ((with_reducible show wpList _ _ _ (⟨_,Op.store _ (.tmp 4) _,_,_,_,_⟩::_) _ _);go_must (refine wpList_store_row rfl 92 _ _ rfl (w.heap.size+2) (Rule.arr r) rfl rfl 92 #[.int .i64 0,.int .i64 0,.int .i64 0,.int .i64 0,.bool false,.bool false,.int .i64 0] m Yr rfl (by simp [Value.oneCell',Rule.arr]) ?_)));refine bodyPost_ret (ql rfl _ _ (w.heap.size+2) 92 (Rule.arr r) _ _ rfl (setRow_heap _ _ _ _ _ _ m) underlying92 rfl Yr) rfl ⟨rfl,?_⟩;exact below_setRow t (by omega) _
theorem zeZ (o:MOp)(a b:Int)(w:World)(p:o.c<18446744073709551616)(q:yC w):
  Calls prog 38 #[.agg o.arr,.agg #[.int .i64 a,.int .i64 b]] w (qM (Rule.out (qq o a b)) w):=by
 obtain ⟨c,f,g,d,e,h⟩:=o;simp only [MOp.arr]
 by_cases i:c=1
 ·subst i
  simp only [qq,if_true,zI]
  by_cases j:h=0
  ·subst j;simp only [if_true];exact zjU f g d a b e w _ rfl
  ·by_cases k:h=1
   ·subst k;simp only [if_true,show ¬((1:Int)=0) by decide,if_false];exact zjV f g d a b e w _ rfl
   ·simp only [j,k,if_false];exact zjW f g d a b h e w (by simpa using j) (by simpa using k)
 ·by_cases l:c=17
  ·subst l
   have:qq ⟨17,f,g,d,e,h⟩ a b=ye d e:=by simp [qq]
   rw [this];exact zir f g d h a b e w p q _ _ rfl
  ·have:qq ⟨c,f,g,d,e,h⟩ a b=qu c:=by simp [qq,i,l]
   rw [this]
   by_cases m:(qu c).2=true
   ·exact zjX c f g d h a b e w m
   ·have n:(qu c).2=false:=by simpa using m
    rw [Zu c n];exact zis c f g d h a b e w i l n
theorem zeN:∀(c:List MOp) (b a:Nat) (d:b<c.length),a<6→(qz c)[b * 6+a]? =(c[b]).cells[a]?
 |g::e,0,a,_,f=>by
  simp only [qz,List.flatMap_cons,Nat.zero_mul,Nat.zero_add,List.getElem_cons_zero];rw [List.getElem?_append_left (by simp;omega)]
 |g::e,b+1,a,d,f=>by
  have:=zeN e b a (by simpa using d) f;simp only [qz,List.flatMap_cons,List.getElem_cons_succ] at *;rw [List.getElem?_append_right (by simp;omega)];rw [←this];congr 1;simp;omega
variable {l:List MOp}
theorem y8 {B:Nat}{a:World}{b c n:Nat}(g:∀f,f<n * 6→w.cell? ⟨b,c+f,none⟩=(qz l)[f]?)(h:Below B w a)(i:b<B)(o:n=l.length)(k:Nat)(j:k<l.length):
  a.cell? ⟨b,c+k * 6,none⟩=some (.int .i64 l[k].kind)∧a.cell? ⟨b,c+k * 6+1,none⟩=some (.int .i64 l[k].a)∧a.cell? ⟨b,c+k * 6+2,none⟩=some (.int .i64 l[k].b)∧
  a.cell? ⟨b,c+k * 6+3,none⟩=some (.int .i64 l[k].k)∧a.cell? ⟨b,c+k * 6+4,none⟩=some (.int .u64 l[k].c)∧a.cell? ⟨b,c+k * 6+5,none⟩=some (.int .i64 l[k].party):=by
 have d:∀e,e<6→a.cell? ⟨b,c+(k * 6+e),none⟩=(l[k]).cells[e]? :=fun e m=>by rw [h.cell i,g _ (by omega),zeN l k e j m]
 exact ⟨d 0 (by omega),d 1 (by omega),d 2 (by omega),d 3 (by omega),d 4 (by omega),d 5 (by omega)⟩
theorem ZG (l:List MOp)(k:Nat)(a:k<l.length):Ql (l.take (k+1))=Ql (l.take k)+if qI l[k] then 1 else 0:=by
 unfold Ql;rw [List.take_succ_eq_append_getElem a,List.filter_append]
 by_cases b:qI l[k]<;>simp [b]
theorem za2 (l:List MOp):Ql l≤l.length:=List.length_filter_le _ _
def zkz (r:Option (List Int))(w:World)(e:Ending)(b:World):Prop:=
 Below w.heap.size w b∧match r with
  |some c=>∃a,e= .returned (.tuple #[a,.nilIface])∧b.ownsRow w.heap.size 90 1 a c.length (ints c)
  |none=>∃a,e= .returned (.tuple #[.slice none 0 0,a])∧∃d f,zH b.heap.size b d f a
theorem zk2:(prog.info? 90).map (fun a=>(a.zero,a.size,a.bytes))=some (some (.int .i64 0),1,8):=by kernel_rfl
structure FSt (w:World)(bs B1 B2:Nat)(o:MOp)(r:Rule)(e0 e1:Int)(seen made:List Int)(x:Value)(wx:World):Prop where
 op:wx.heap[B1]? =some (.cells o.arr 61 (0,0))
 rule:wx.heap[B2]? =some (.cells r.arr 92 (0,0))
 seen:wx.heap[bs]? =some (.cells (ints seen).toArray 3 (0,0))
 elems:wx.heap[w.heap.size]? =some (.cells #[.int .i64 e0,.int .i64 e1] 23 (0,0))
 own:wx.ownsRow (bs+1) 90 1 x made.length (ints made)
 below:Below w.heap.size w wx
 lt1:w.heap.size<bs
 lt2:bs<B1
 lt3:B1<B2
variable {o:MOp}{r:Rule}
theorem FSt.opc {a:List Int}(b:FSt w E F G o r h A D a x H):
  H.cell? ⟨F,0,none⟩=some (.int .i64 o.kind)∧H.cell? ⟨F,1,none⟩=some (.int .i64 o.a)∧H.cell? ⟨F,2,none⟩=some (.int .i64 o.b)∧
  H.cell? ⟨F,3,none⟩=some (.int .i64 o.k)∧H.cell? ⟨F,4,none⟩=some (.int .u64 o.c)∧H.cell? ⟨F,5,none⟩=some (.int .i64 o.party):=by
 have:=b.op;refine ⟨?_,?_,?_,?_,?_,?_⟩<;>simp [World.cell?,this,MOp.arr]
theorem FSt.rulec {a:List Int}(b:FSt w E F G o r h A D a x H):
  H.cell? ⟨G,0,none⟩=some (.int .i64 r.a)∧H.cell? ⟨G,1,none⟩=some (.int .i64 r.b)∧H.cell? ⟨G,2,none⟩=some (.int .i64 r.makes)∧
  H.cell? ⟨G,3,none⟩=some (.int .i64 r.k)∧H.cell? ⟨G,4,none⟩=some (.bool r.c)∧H.cell? ⟨G,5,none⟩=some (.bool r.party)∧H.cell? ⟨G,6,none⟩=some (.int .i64 r.rounds)∧H.frozen? ⟨G,3,none⟩=false:=by
 have:=b.rule;refine ⟨?_,?_,?_,?_,?_,?_,?_,?_⟩<;>simp [World.cell?,World.frozen?,this,Rule.arr]
theorem FSt.seenc {a:List Int}(b:FSt w E F G o r h A D a x H)(k:Nat)(c:k<D.length):
  H.cell? ⟨E,k,none⟩=some (.int .i64 (D.getD k 0))∧H.frozen? ⟨E,k,none⟩=false:=by
 have:=b.seen
 constructor
 ·rw [cell_of_row _ _ _ _ _ _ this];simp [ints,List.getD,c]
 ·simp [World.frozen?,this]
theorem FSt.setK {b:List Int}(a:FSt w E F G o r h A D b x H)(n:Int):
  FSt w E F G o {r with k:=n} h A D b x (H.setCell ⟨G,3,none⟩ (.int .i64 n)) where
 op:=(qe (by have:=a.lt3;omega) _).trans a.op
 rule:=heap_setCell (j:=3) a.rule _
 seen:=(qe (by have:=a.lt3;have:=a.lt2;omega) _).trans a.seen
 elems:=(qe (by have:=a.lt3;have:=a.lt2;have:=a.lt1;omega) _).trans a.elems
 own:=ownsRow_setCell_other a.own (yz a.own a.rule (by decide)) _
 below:=a.below.setCell (by have:=a.lt3;have:=a.lt2;have:=a.lt1;show w.heap.size≤G;omega) _
 lt1:=a.lt1
 lt2:=a.lt2
 lt3:=a.lt3
theorem FSt.setSeen {b:List Int}(a:FSt w E F G o r h A D b x H)(j:Nat):
  FSt w E F G o r h A (D.set j 1) b x (H.setCell ⟨E,j,none⟩ (.int .i64 1)) where
 op:=(qe (by have:=a.lt2;omega) _).trans a.op
 rule:=(qe (by have:=a.lt3;have:=a.lt2;omega) _).trans a.rule
 seen:=by
  have:=heap_setCell (j:=j) a.seen (.int .i64 1);rw [this];simp [ints,List.map_set]
 elems:=(qe (by have:=a.lt1;omega) _).trans a.elems
 own:=ownsRow_setCell_other a.own (fun c=>by have:=a.own.lt E c;omega) _
 below:=a.below.setCell (by have:=a.lt1;show w.heap.size≤E;omega) _
 lt1:=a.lt1
 lt2:=a.lt2
 lt3:=a.lt3
theorem FSt.later {c:List Int}{W:World}(a:FSt w E F G o r h A D c x W)(b:Below W.heap.size W H):
  FSt w E F G o r h A D c x H where
 op:=(b.block _ (qd a.op)).trans a.op
 rule:=(b.block _ (qd a.rule)).trans a.rule
 seen:=(b.block _ (qd a.seen)).trans a.seen
 elems:=(b.block _ (qd a.elems)).trans a.elems
 own:=Below.owns a.own b
 below:=a.below.trans (b.mono a.below.size)
 lt1:=a.lt1
 lt2:=a.lt2
 lt3:=a.lt3
theorem FSt.mk1 {wr w1:World}{b:List Int}(f:wr.ownsRow (E+1) 90 1 x b.length (ints b))(d:wr.heap[E]? =some (.cells (ints D).toArray 3 (0,0)))
  (g:wr.heap[w.heap.size]? =some (.cells #[.int .i64 h,.int .i64 A] 23 (0,0))) (c:Below w.heap.size w wr) (i:w.heap.size<E) (j:Below (wr.alloc (.cells o.arr 61)).heap.size (wr.alloc (.cells o.arr 61)) w1):
  FSt w E wr.heap.size w1.heap.size o r h A D b x (w1.alloc (.cells r.arr 92)):=by
 obtain ⟨k,a,_⟩:=yF j;have e:=qd d;exact ⟨QH _ k,heap_alloc_new _ _,QH _ ((a.block _ e).trans d),QH _ ((a.block _ (by omega)).trans g),(Below.owns f a).alloc _,(c.trans (a.mono c.size)).alloc (by have:=c.size;omega) _,i,e,by omega⟩
theorem zjL (a:List Int)(o:MOp)(b:Bool)(c:qI o=false):YT a o b=a:=by simp [YT,c]
theorem zbs (a:List Int)(o:MOp):YT a o false=a:=by simp [YT]
theorem zjM (a:List Int)(o:MOp)(b:qI o=true):YT a o true=a.set o.k.toNat 1:=by simp [YT,b]
theorem zi6 {a:List Int}(b:qq o h A=(r,B))(c:zl outs D a o (r,B)=false):zZ h A outs (o::l) D a=none:=by
 rw [zZ,b,c];rfl
theorem zhC {a:List Int}{ok1:Bool}(b:qq o h A=(r,B))(c:zl outs D a o (r,B)=true)(d:yH outs D o (r,B)=ok1):
  zZ h A outs (o::l) D a=zZ h A outs l (YT D o ok1) (a++[r.makes]):=by
 rw [zZ,b,c,d];rfl
theorem zjK (a:List Int)(o:MOp)(b:Bool):(YT a o b).length=a.length:=by unfold YT;split<;>simp
end Go.Proofs.YtklofgfkaaoipaaGreatDoor
