/-
  THE CONTRACTS of the references' comparisons: twainref01.Ints, twainref14.Same.
-/
import Derived.Test.YtklofgfkaaoipaaGreatDoorMAlone
import Derived.Test.YtklofgfkaaoipaaGreatDoorMPlanCheck
import Derived.Test.YtklofgfkaaoipaaGreatDoorMOps
import Derived.Test.YtklofgfkaaoipaaGreatDoorMCircTop
import Derived.Deep.LoopGhost
import Derived.Deep.QuietTactic
import Derived.BigQuiet
import Derived.IntWalk
import Derived.WalkSpells
import Derived.Test.YtklofgfkaaoipaaGreatDoorMGate
import Derived.Maps.Range
import Derived.Deep.DeepCutAuto
import Derived.Deep.RegionWith
import Derived.Deep.RegionHeld3
import Derived.Test.YtklofgfkaaoipaaGreatDoorMRepeat
import Derived.Test.YtklofgfkaaoipaaGreatDoorMMCheck
import Derived.Test.YtklofgfkaaoipaaGreatDoorMHd
set_option maxHeartbeats 16000000
set_option maxRecDepth 100000
set_option linter.unusedSimpArgs false
set_option linter.unusedVariables false
namespace Go.Proofs.YtklofgfkaaoipaaGreatDoor
open Go.RowKit Go.Proofs.Tryz
variable {B k n b N on F J:Nat}{w M W w1 O I:World}{v h D G x y:Value}{H:List Value}{p:MPlan}{t:TypeId}{fr:Nat×Nat}{A L:List Gate}{K:Array Value}{E:Option Addr}{l:List Int}{z:Int}{o:MOp}
theorem Arr.same {B':Nat}(a:Arr B w k v n H)(c:∀b,M.cell? b=w.cell? b)(s:B≤B'):Arr B' M k v n H:=by
 obtain ⟨d,e,f,g,h,i,j,a⟩:=a;refine ⟨d,e,f,g,h,i,j,?_⟩;rcases a with a | ⟨l,m,o,t,p⟩
 ·exact .inl a
 ·exact .inr ⟨l,m,o,by omega,fun q r=>(c _).trans (p q r)⟩
theorem zdG (i j:Value)(a b:List Int)(w:World)(e:Arr w.heap.size w 1 i a.length (ints a))(k:Arr w.heap.size w 1 j b.length (ints b)):
  Calls prog 11 #[i,j] w fun x y=>x= .returned (.bool (decide (a=b)))∧∃z,y=w.drewN z:=by
 obtain ⟨Q,R,rfl,S,A,B,l⟩:=e.open;obtain ⟨T,U,rfl,V,C,D,m⟩:=k.open;have E:=Z l;have F:=Z m;unfold maxLen at A C;clear e k B D l m
 by_cases f:a.length=b.length
 ·have G:((a.length:Int) != (b.length:Int))=false:=by simp [f]
  have n:=Z f;clear f;go_enter func11,ntmps11;go_wp2_with fail;go_loopg [13] a.length (fun H I wr=>∃(c o:Nat),c≤a.length∧H=a.length-c∧I= .int .i64 c∧Hid (a.take c=b.take c)∧wr=w.drewN o)
  case atStart=>exact ⟨0,0,Nat.zero_le _,rfl,rfl,by simp [Hid],rfl⟩
  case round=>
   obtain ⟨c,o,W,X,rfl,p,rfl⟩:=hrel
   by_cases q:c<a.length
   ·have r:c<b.length:=by have:=n.out;omega
    obtain ⟨J,K,rfl,Y,s⟩:=E.out (by omega);obtain ⟨L,M,rfl,aa,t⟩:=F.out (by omega);have u:w.cell? ⟨J,K+c,none⟩=some (.int .i64 a[c]):=by rw [s c (by omega)];simp [ints,q]
    have g:w.cell? ⟨L,M+c,none⟩=some (.int .i64 b[c]):=by rw [t c (by omega)];simp [ints,r]
    have ab:(0:Int)≤(c:Int):=by omega
    have ac:(c:Int)<(a.length:Int):=by omega
    have ad:(c:Int)<(b.length:Int):=by omega
    clear s t
    by_cases d:a[c]=b[c]
    ·have N:=Z (show a.take (c+1)=b.take (c+1) by rw [List.take_succ_eq_append_getElem q,List.take_succ_eq_append_getElem r,p.out,d])
     rw [←d] at g;generalize a[c]=v at u g;clear d;go_wp2_with fail;go_quiet (fail);go_wp2_with fail;go_roundg (a.length-(c+1))
     case measure=>omega
     case rel=>exact ⟨c+1,_,by omega,rfl,by go_num,N,rfl⟩
    ·have h:=Z (show decide (a=b)=false by
      simp only [decide_eq_false_iff_not];rintro rfl;exact d rfl)
     generalize a[c]=v at u d;generalize b[c]=O at g d;have ae:((v:Int) != (O:Int))=true:=by simp;omega
     clear d;go_wp2_with fail;go_quiet (fail);go_wp2_with fail;go_ret;exact ⟨by rw [h.out];rfl,by first | exact ⟨_,rfl⟩ | exact ⟨_,World.drewN_drewN _ _ _⟩⟩
   ·obtain rfl:c=a.length:=by omega
    have P:=Z (show decide (a=b)=true by
     have e:=p.out;rw [List.take_length,List.take_of_length_le (by have:=n.out;omega)] at e;simp [e])
    go_wp2_with fail;go_ret;exact ⟨by rw [P.out];rfl,_,rfl⟩
 ·have h:=Z (show decide (a=b)=false by simp only [decide_eq_false_iff_not];rintro rfl;exact f rfl)
  have G:((a.length:Int) != (b.length:Int))=true:=by simp;omega
  go_enter func11,ntmps11;go_wp2_with fail;go_ret;exact ⟨by rw [h.out];rfl,0,rfl⟩
theorem Arr.drewS (a:Arr w.heap.size w k v n H)(m:Nat):Arr (w.drewN m).heap.size (w.drewN m) k v n H:=a
theorem YW (c d:Value)(a b:List Int)(w:World)(B:Bool)(e:decide (a=b)=B)(f:Arr w.heap.size w 1 c a.length (ints a))(g:Arr w.heap.size w 1 d b.length (ints b)):
  Calls prog 11 #[c,d] w fun h i=>h= .returned (.bool B)∧∃j,i=w.drewN j:=by
 subst e;exact zdG c d a b w f g
theorem zlR (A B:Value)(d e:List Value)(a b:List (List Int))(w:World)(i:Arr w.heap.size w 1 A d.length d)(C:Arr w.heap.size w 1 B e.length e)(n1:ZR w.heap.size w d (a.map ints))(q:ZR w.heap.size w e (b.map ints)):
  Calls prog 30 #[A,B] w fun O P=>O= .returned (.bool (decide (a=b)))∧∃Q,P=w.drewN Q:=by
 have r:=n1.length;have s:=q.length;simp only [List.length_map] at r s;obtain ⟨ak,al,rfl,am,f,R,D⟩:=i.open;obtain ⟨an,ao,rfl,ap,S,T,E⟩:=C.open;have U:=Z D;have V:=Z E;have W:=Z n1;have X:=Z q;have t:=Z r;have u:=Z s;unfold maxLen at f S;clear i C R T D E n1 q r s
 by_cases l:d.length=e.length
 ·have Y:((d.length:Int) != (e.length:Int))=false:=by simp [l]
  have F:=Z l;clear l;go_enter func30,ntmps30;go_wp2_with fail;go_loopg [13] d.length (fun aa ab wr=>∃(c:Nat),c≤d.length∧aa=d.length-c∧ab= .int .i64 c∧Hid (a.take c=b.take c)∧Hid (∃j,wr=w.drewN j))
  case atStart=>exact ⟨0,Nat.zero_le _,rfl,rfl,by simp [Hid],⟨0,rfl⟩⟩
  case round=>
   obtain ⟨c,aq,ar,rfl,G,k⟩:=hrel
   by_cases H:c<d.length
   ·have I:c<e.length:=by have:=F.out;omega
    have J:c<a.length:=by have:=t.out;omega
    have K:c<b.length:=by have:=u.out;omega
    obtain ⟨ac,ad,rfl,au,v⟩:=U.out (by omega);obtain ⟨ae,af,rfl,av,x⟩:=V.out (by omega);have g:∀a,wr.cell? a=w.cell? a:=fun a=>by obtain ⟨j,f⟩:=k.out;rw [f];rfl
    have L:wr.heap.size=w.heap.size:=by obtain ⟨j,f⟩:=k.out;rw [f];rfl
    have m:=W.get c H (by simpa using J);have n:=X.get c I (by simpa using K);simp only [List.getElem_map,qP] at m n;have M:wr.cell? ⟨ac,ad+c,none⟩=some d[c]:=by rw [g,v c (by omega)];simp [H]
    have N:wr.cell? ⟨ae,af+c,none⟩=some e[c]:=by rw [g,x c (by omega)];simp [I]
    have o:=Z (m.same (B':=wr.heap.size) g (by omega));have p:=Z (n.same (B':=wr.heap.size) g (by omega));have aw:(0:Int)≤(c:Int):=by omega
    have ax:(c:Int)<(d.length:Int):=by omega
    have ay:(c:Int)<(e.length:Int):=by omega
    by_cases h:a[c]=b[c]
    ·have ag:=Z (show a.take (c+1)=b.take (c+1) by rw [List.take_succ_eq_append_getElem J,List.take_succ_eq_append_getElem K,G.out,h])
     have y:=Z (show decide (a[c]=b[c])=true by simpa using h);generalize d[c]=ah at M o;generalize e[c]=ai at N p;clear v x g L m n h;go_wp2_with fail;go_quiet ((go_at_call 11;exact Calls.quiet_of (YW _ _ _ _ _ _ y (o.drewS _) (p.drewS _))));go_wp2_with fail;go_roundg (d.length-(c+1))
     case measure=>omega
     case rel=>
      obtain ⟨j,f⟩:=k.out;subst f;exact ⟨c+1,by omega,rfl,by go_num,ag,by first | exact ⟨_,World.drewN_drewN _ _ _⟩ | exact ⟨_,rfl⟩⟩
    ·have z:=Z (show decide (a=b)=false by
      simp only [decide_eq_false_iff_not];rintro rfl;exact h rfl)
     have y:=Z (show decide (a[c]=b[c])=false by simpa using h);generalize d[c]=ah at M o;generalize e[c]=ai at N p;clear v x g L m n h;go_wp2_with fail;go_quiet ((go_at_call 11;exact Calls.quiet_of (YW _ _ _ _ _ _ y (o.drewS _) (p.drewS _))));go_wp2_with fail;go_ret;obtain ⟨j,f⟩:=k.out;subst f;exact ⟨by rw [z.out];rfl,by first | exact ⟨_,World.drewN_drewN _ _ _⟩ | exact ⟨_,rfl⟩⟩
   ·obtain rfl:c=d.length:=by omega
    have aj:=Z (show decide (a=b)=true by
     have i:=G.out;rw [List.take_of_length_le (by have:=t.out;omega),List.take_of_length_le (by have:=u.out;have:=F.out;omega)] at i;simp [i])
    go_wp2_with fail;go_ret;exact ⟨by rw [aj.out];rfl,k⟩
 ·have z:=Z (show decide (a=b)=false by simp only [decide_eq_false_iff_not];rintro rfl;exact l (by rw [t.out,u.out]))
  have Y:((d.length:Int) != (e.length:Int))=true:=by simp;omega
  go_enter func30,ntmps30;go_wp2_with fail;go_ret;exact ⟨by rw [z.out];rfl,0,rfl⟩
theorem zg5 (b c:Value)(a:List (List Int))(w:World)(d:ZS w.heap.size w b a)(e:ZS w.heap.size w c a):
  Calls prog 30 #[b,c] w fun f g=>f= .returned (.bool true)∧∃h,g=w.drewN h:=by
 obtain ⟨i,o,j,k⟩:=d;obtain ⟨l,p,m,n⟩:=e;have:=zlR b c i l a a w j m k n;simpa using this
theorem ziu (a b:Int)(w:World):(binOp .neq 23 (.agg #[.int .i64 a,.int .i64 b]) (.agg #[.int .i64 a,.int .i64 b])).run prog w= .ok (.bool false) w:=by
 rw [run_neq_struct];rw [zi3 9998 a b a b w];simp
theorem zjY (a:MOp)(w:World):(binOp .neq 61 (.agg #[.int .i64 a.kind,.int .i64 a.a,.int .i64 a.b,.int .i64 a.k,.int .u64 a.c,.int .i64 a.party]) (.agg #[.int .i64 a.kind,.int .i64 a.a,.int .i64 a.b,.int .i64 a.k,.int .u64 a.c,.int .i64 a.party])).run prog w= .ok (.bool false) w:=by
 rw [run_neq_struct,zqc];simp
theorem zh6 (a:MNeed):Z8 a a=true:=by simp [Z8]
structure S2 (w:World)(p:MPlan)(v1 v2:PVals)(W:World):Prop where
 a:W.heap[w.heap.size]? =some (.cells (qn p v1) 30 (0,0))
 b:W.heap[w.heap.size+1]? =some (.cells (qn p v2) 30 (0,0))
 below:Below w.heap.size w W
theorem S2.drewN {b c:PVals}(a:S2 w p b c W)(n:Nat):S2 w p b c (W.drewN n):=⟨a.a,a.b,⟨a.below.os,a.below.tape,a.below.output,a.below.size,a.below.block⟩⟩
theorem qv {v:PVals}(a:W.heap[B]? =some (.cells (qn p v) t fr)):
  (W.cell? ⟨B,0,none⟩=some v.ops∧W.cell? ⟨B,1,none⟩=some (.int .i64 p.e0)∧W.cell? ⟨B,2,none⟩=some (.int .i64 p.e1)∧W.cell? ⟨B,3,none⟩=some v.slots∧W.cell? ⟨B,4,none⟩=some (.int .i64 p.arena))∧
  (W.cell? ⟨B,5,none⟩=some (.int .i64 p.need.tri)∧W.cell? ⟨B,6,none⟩=some (.int .i64 p.need.bits)∧W.cell? ⟨B,7,none⟩=some (.int .i64 p.need.ots)∧W.cell? ⟨B,8,none⟩=some (.int .i64 p.need.t0)∧
  W.cell? ⟨B,9,none⟩=some (.int .i64 p.need.t1)∧W.cell? ⟨B,10,none⟩=some (.int .i64 p.need.rounds)∧W.cell? ⟨B,11,none⟩=some (.int .i64 p.need.w0)∧W.cell? ⟨B,12,none⟩=some (.int .i64 p.need.w1))∧
  (W.cell? ⟨B,13,none⟩=some v.shapes∧W.cell? ⟨B,14,none⟩=some v.in0∧W.cell? ⟨B,15,none⟩=some v.in1):=by
 refine ⟨⟨?_,?_,?_,?_,?_⟩,⟨?_,?_,?_,?_,?_,?_,?_,?_⟩,?_,?_,?_⟩<;>simp [World.cell?,a,qn]
theorem zdK (p:MPlan)(L U:PVals)(w:World)(R:PlanAt w.heap.size w p L)(V:PlanAt w.heap.size w p U):
  Calls prog 9 #[.agg (qn p L),.agg (qn p U)] w (qM (.bool true) w):=by
 obtain ⟨aY,W,X,Y,L⟩:=L;obtain ⟨aZ,aa,ab,u0,u1⟩:=U;obtain ⟨ac,ad,ak,a0,ax,ay,al⟩:=R.ops.open;obtain ⟨ae,af,am,a1,az,aA,an⟩:=V.ops.open;simp only at ak am;subst ak am;have aB:=Z al;have aC:=Z an;have S:=Z R;have T:=Z V;have ag:=(show S2 w p ⟨.slice ac p.ops.length ad,W,X,Y,L⟩ ⟨.slice ae p.ops.length af,aa,ab,u0,u1⟩ ((w.alloc (.cells (qn p ⟨.slice ac p.ops.length ad,W,X,Y,L⟩) 30)).alloc (.cells (qn p ⟨.slice ae p.ops.length af,aa,ab,u0,u1⟩) 30)) from ⟨heap_alloc2_old _ _ _,heap_alloc2_new _ _ _,qm _ _ _⟩);simp only [qn] at ag ⊢;have ao:=Z ag;have a2:=R.l1;have a3:=ziu p.e0 p.e1;have ap:=zaH p.need p.need;rw [zh6] at ap;simp only [Bool.not_true] at ap;clear R V ay al aA an ag ax az;go_enter func9,ntmps9;have l:=ao;clear ao;go_wp2_with (go_at_call 11;go_must (refine (YW _ _ p.slots p.slots _ true (by simp) (S.slots.later l.below l.below.size) (T.slots.later l.below l.below.size)).mono ?_;rintro ah aD ⟨rfl,ai,M⟩;have m:=l.drewN ai;rw [←M] at m;clear M;obtain ⟨⟨b,n,o,c,q⟩,⟨r,s,c7,t,u,v,x,y⟩,d,e,f⟩:=qv m.a;obtain ⟨⟨g,z,A,h,B⟩,⟨C,D,E,F,G,H,I,J⟩,i,j,k⟩:=qv m.b;simp only at b c d e f g h i j k;have K:=Z m;clear m));clear b n o c q r s c7 t u v x y d e f g z A h B C D E F G H I J i j k;go_loopg [45] p.ops.length (fun aE aF wr=>∃(a:Nat),a≤p.ops.length∧aE=p.ops.length-a∧aF= .int .i64 a∧Hid (S2 w p ⟨.slice ac p.ops.length ad,W,X,Y,L⟩ ⟨.slice ae p.ops.length af,aa,ab,u0,u1⟩ wr))
 case atStart=>exact ⟨0,Nat.zero_le _,rfl,rfl,K⟩
 case round=>
  obtain ⟨a,a4,a5,rfl,N⟩:=hrel;clear K l;have aj:=N.out;obtain ⟨⟨b,n,o,c,q⟩,⟨r,s,c7,t,u,v,x,y⟩,d,e,f⟩:=qv aj.a;obtain ⟨⟨g,z,A,h,B⟩,⟨C,D,E,F,G,H,I,J⟩,i,j,k⟩:=qv aj.b;simp only at b c d e f g h i j k;clear aj
  by_cases aq:a<p.ops.length
  ·obtain ⟨a6,a7,rfl,aG,ar⟩:=aB.out (by omega)
   obtain ⟨a8,a9,rfl,aH,au⟩:=aC.out (by omega);obtain ⟨aI,aJ,aK,aL,aM,aN⟩:=y8 ar N.below aG rfl a aq;obtain ⟨aO,aP,aQ,aR,aS,aT⟩:=y8 au N.below aH rfl a aq;have aU:=zjY p.ops[a];generalize p.ops[a]=ba at aI aJ aK aL aM aN aO aP aQ aR aS aT aU;have bb:(0:Int)≤(a:Int):=by omega
   have bc:(a:Int)<(p.ops.length:Int):=by omega
   clear ar au;go_wp2_with fail;go_quiet (fail);go_wp2_with fail;rename Nat=>nq
   go_roundg (p.ops.length-(a+1))
   case measure=>omega
   case rel=>exact ⟨a+1,by omega,rfl,by go_num,N.drewN nq⟩
  ·obtain rfl:a=p.ops.length:=by omega
   have l:=N;go_wp2_with (first | ((with_reducible refine (zg5 _ _ p.shapes _ (S.out.shapes.later l.out.below l.out.below.size) (T.out.shapes.later l.out.below l.out.below.size)).mono ?_);rintro ah aD ⟨rfl,ai,M⟩;have m:=l.drewN ai;rw [←M] at m;clear M;clear b n o c q r s c7 t u v x y d e f g z A h B C D E F G H I J i j k;obtain ⟨⟨b,n,o,c,q⟩,⟨r,s,c7,t,u,v,x,y⟩,d,e,f⟩:=qv m.a;obtain ⟨⟨g,z,A,h,B⟩,⟨C,D,E,F,G,H,I,J⟩,i,j,k⟩:=qv m.b;simp only at b c d e f g h i j k;have K:=Z m;clear m) | ((with_reducible refine (zg5 _ _ p.in0 _ (S.out.in0.later K.out.below K.out.below.size) (T.out.in0.later K.out.below K.out.below.size)).mono ?_);rintro ah bd ⟨rfl,aV,av⟩;have O:=K.drewN aV;rw [←av] at O;clear av;clear b n o c q r s c7 t u v x y d e f g z A h B C D E F G H I J i j k;obtain ⟨⟨b,n,o,c,q⟩,⟨r,s,c7,t,u,v,x,y⟩,d,e,f⟩:=qv O.a;obtain ⟨⟨g,z,A,h,B⟩,⟨C,D,E,F,G,H,I,J⟩,i,j,k⟩:=qv O.b;simp only at b c d e f g h i j k;have P:=Z O;clear O) | ((with_reducible refine (zg5 _ _ p.in1 _ (S.out.in1.later P.out.below P.out.below.size) (T.out.in1.later P.out.below P.out.below.size)).mono ?_);rintro ah be ⟨rfl,aW,aw⟩;have Q:=P.drewN aW;rw [←aw] at Q;clear aw;clear b n o c q r s c7 t u v x y d e f g z A h B C D E F G H I J i j k;obtain ⟨⟨b,n,o,c,q⟩,⟨r,s,c7,t,u,v,x,y⟩,d,e,f⟩:=qv Q.a;obtain ⟨⟨g,z,A,h,B⟩,⟨C,D,E,F,G,H,I,J⟩,i,j,k⟩:=qv Q.b;simp only at b c d e f g h i j k;have aX:=Z Q;clear Q));go_ret;exact ⟨rfl,aX.below⟩
theorem zki (v:Value)(a:List Int)(x:Int)(w:World)(i:Arr w.heap.size w 1 v a.length (ints a)):
  Calls prog 58 #[v,.int .i64 x] w fun o p=>o= .returned (.bool (decide (x∈a)))∧p=w:=by
 obtain ⟨B,C,rfl,D,c,q,j⟩:=i.open;have r:=Z j;unfold maxLen at c;clear i q j;go_enter func58,ntmps58;go_wp2_with fail;go_loopg [8] a.length (fun s t wr=>∃(b:Nat),b≤a.length∧s=a.length-b∧t= .int .i64 b∧Hid (x ∉ a.take b)∧wr=w)
 case atStart=>exact ⟨0,Nat.zero_le _,rfl,rfl,by simp [Hid],rfl⟩
 case round=>
  obtain ⟨b,E,F,rfl,k,rfl⟩:=hrel
  by_cases d:b<a.length
  ·obtain ⟨u,y,rfl,G,l⟩:=r.out (by omega)
   have z:wr.cell? ⟨u,y+b,none⟩=some (.int .i64 a[b]):=by rw [l b (by omega)];simp [ints,d]
   have H:(0:Int)≤(b:Int):=by omega
   have I:(b:Int)<(a.length:Int):=by omega
   have m:=List.getElem_mem d;have n:=Z (show a[b]≠x→x ∉ a.take (b+1) by
    intro A c;rw [List.take_succ_eq_append_getElem d] at c;rcases List.mem_append.1 c with e | e
    ·exact k e
    ·exact A (List.mem_singleton.1 e).symm)
   clear l;generalize a[b]=f at z m n
   by_cases g:f=x
   ·subst g
    have h:decide (f∈a)=true:=by simpa using m
    go_wp2_with fail;go_ret;exact ⟨(by rw [h];rfl),rfl⟩
   ·have J:(f==x)=false:=by simpa using g
    go_wp2_with fail;go_roundg (a.length-(b+1))
    case measure=>omega
    case rel=>exact ⟨b+1,by omega,rfl,by go_num,n g,rfl⟩
  ·obtain rfl:b=a.length:=by omega
   have h:decide (x∈a)=false:=by have:=k.out;rw [List.take_length] at this;simpa using this
   go_wp2_with fail;go_ret;exact ⟨(by rw [h];rfl),rfl⟩
def Qe (a:Int)(c:Nat):Int:=if yN a c then (if a=1 then 1 else 2) else 0
theorem QB (a:Int)(c:Nat)(w:World):
  Calls prog 59 #[.int .i64 a,.int .u64 c] w fun i j=>i= .returned (.int .i64 (Qe a c))∧j=w:=by
 unfold Qe yN
 by_cases e:a=1
 ·subst e
  by_cases d:c<2
  ·have f:decide ((c:Int)<2)=true:=by simp;omega
   have b:decide (c<2)=true:=by simpa using d
   rw [b];clear b;go_enter func59,ntmps59;go_wp2_with fail;go_ret;exact ⟨rfl,rfl⟩
  ·have f:decide ((c:Int)<2)=false:=by simp;omega
   have b:decide (c<2)=false:=by simpa using d
   rw [b];clear b;go_enter func59,ntmps59;go_wp2_with fail;go_ret;exact ⟨rfl,rfl⟩
 ·by_cases g:a=2∨a=3
  ·by_cases d:c<4
   ·have f:decide ((c:Int)<4)=true:=by simp;omega
    have b:decide (c<4)=true:=by simpa using d
    rw [b];clear b;rcases g with rfl | rfl
    all_goals
     go_enter func59,ntmps59;go_wp2_with fail;go_ret;exact ⟨rfl,rfl⟩
   ·have f:decide ((c:Int)<4)=false:=by simp;omega
    have b:decide (c<4)=false:=by simpa using d
    rw [b];clear b;rcases g with rfl | rfl
    all_goals
     go_enter func59,ntmps59;go_wp2_with fail;go_ret;exact ⟨rfl,rfl⟩
  ·have k:(a==1)=false:=by simpa using e
   have l:(a==2)=false:=by simp;omega
   have m:(a==3)=false:=by simp;omega
   have h:(if ((a==1&&decide (c<2))||((a==2||a==3)&&decide (c<4)))=true then (if a=1 then (1:Int) else 2) else 0)=0:=by rw [k,l,m];simp
   rw [h];clear h e g;go_enter func59,ntmps59;go_wp2_with fail;go_ret;exact ⟨rfl,rfl⟩
def rW (a:Int):Int×Int×Int×Int:=if a=1 then (0,0,1,1) else if (qu a).2 then ((qu a).1.a,(qu a).1.b,(qu a).1.makes,(qu a).1.rounds) else (0,0,0,-1)
def rWv (x:Int×Int×Int×Int):Value:= .tuple #[.int .i64 x.1,.int .i64 x.2.1,.int .i64 x.2.2.1,.int .i64 x.2.2.2]
theorem zg8 (d a b k e:Int)(c:Nat)(w:World)(f:d=1∨d=2∨d=3∨d=4∨d=5∨d=6∨d=7∨d=8∨d=9∨d=10∨d=11∨d=12∨d=13∨d=14∨d=15∨d=16∨d=18∨d=19):
  Calls prog 52 #[.agg #[.int .i64 d,.int .i64 a,.int .i64 b,.int .i64 k,.int .u64 c,.int .i64 e]] w (qM (rWv (rW d)) w):=by
 rcases f with rfl | rfl | rfl | rfl | rfl | rfl | rfl | rfl | rfl | rfl | rfl | rfl | rfl | rfl | rfl | rfl | rfl | rfl
 all_goals
  go_enter func52,ntmps52;go_wp2_with fail;exact bodyPost_ret (by simp [results,go_sem];rfl) rfl ⟨rfl,(Below.refl _ _).alloc (Nat.le_refl _) _⟩
theorem zfr (d a b k e:Int)(c:Nat)(w:World)(f:d<1∨19<d):
  Calls prog 52 #[.agg #[.int .i64 d,.int .i64 a,.int .i64 b,.int .i64 k,.int .u64 c,.int .i64 e]] w (qM (rWv (0,0,0,-1)) w):=by
  have g:(d==1)=false:=by simp;omega
  have h:(d==2)=false:=by simp;omega
  have i:(d==3)=false:=by simp;omega
  have j:(d==4)=false:=by simp;omega
  have l:(d==5)=false:=by simp;omega
  have m:(d==6)=false:=by simp;omega
  have n:(d==7)=false:=by simp;omega
  have o:(d==8)=false:=by simp;omega
  have p:(d==9)=false:=by simp;omega
  have q:(d==10)=false:=by simp;omega
  have r:(d==11)=false:=by simp;omega
  have s:(d==12)=false:=by simp;omega
  have t:(d==13)=false:=by simp;omega
  have u:(d==14)=false:=by simp;omega
  have v:(d==15)=false:=by simp;omega
  have x:(d==16)=false:=by simp;omega
  have y:(d==17)=false:=by simp;omega
  have z:(d==18)=false:=by simp;omega
  have A:(d==19)=false:=by simp;omega
  go_enter func52,ntmps52;go_wp2_with fail;exact bodyPost_ret (by simp [results,go_sem];rfl) rfl ⟨rfl,(Below.refl _ _).alloc (Nat.le_refl _) _⟩
def zg1 (k:Int)(c:Nat):Int×Int×Int×Int:=(1+(c:Int)%2,(if k=1 then 0 else 1+(c:Int) / 2%2),2,2)
theorem zik (a b k d:Int)(c:Nat)(w:World)(e:(k=1∧(c=0∨c=1))∨((k=2∨k=3)∧(c=0∨c=1∨c=2∨c=3))):
  Calls prog 52 #[.agg #[.int .i64 17,.int .i64 a,.int .i64 b,.int .i64 k,.int .u64 c,.int .i64 d]] w (qM (rWv (zg1 k c)) w):=by
 rcases e with ⟨rfl,rfl | rfl⟩ | ⟨rfl | rfl,rfl | rfl | rfl | rfl⟩
 all_goals
  go_enter func52,ntmps52;go_wp2_with go_in;exact bodyPost_ret (by simp [results,go_sem];rfl) rfl ⟨rfl,(Below.refl _ _).alloc (Nat.le_refl _) _⟩
theorem zja:(prog.info? 269).map (fun a=>(a.zero,a.size,a.bytes))=some (some (.agg #[.int .i64 0,.int .i64 0,.int .i64 0]),3,24):=by kernel_rfl
theorem QM:(prog.info? 198).map (·.size)=some 3:=by kernel_rfl
theorem zu {base:Nat}{e:TypeId}(a:w.ownsRow base e k v n H)(f:∀b,v.ownBlock=some b→M.heap[b]? =w.heap[b]?):M.ownsRow base e k v n H:=by
 rcases a.2 with g | ⟨c,h,i,d,j,l,m⟩
 ·exact ⟨a.1,.inl g⟩
 ·exact ⟨a.1,.inr ⟨c,h,i,d,j,(f c (by rw [d];rfl)).trans l,m⟩⟩
structure GStep (base:Nat)(w w':World)(gs:List Gate)(gv gv':Value):Prop where
 own:w'.ownsRow base 269 3 gv' gs.length (yT gs)
 fr:w.grownBy w' gv.ownBlock
 lies:∀j,gv'.ownBlock=some j→gv.ownBlock=some j∨w.heap.size≤j
theorem GStep.refl {base:Nat}(a:w.ownsRow base 269 3 h A.length (yT A)):GStep base w w A h h:=⟨a,World.grownBy.refl _ _,fun _ a=> .inl a⟩
theorem GStep.trans {base:Nat}{d:List Gate}{e:Value}(a:GStep base w w1 L h D)(k:GStep base w1 O d D e):GStep base w O d h e:=
 ⟨k.own,a.fr.andThen k.fr fun b c=>(a.lies b c).elim .inr .inl,fun b c=>(k.lies b c).elim (a.lies b) fun f=> .inr (Nat.le_trans a.fr.size f)⟩
theorem GStep.ne {base:Nat}(d:GStep base w w1 A h D)(e:w1.heap[b]? =some (.cells K t fr))(f:t≠269):D.ownBlock≠some b:=by
 intro a;rcases d.own.2 with ⟨rfl,_⟩ | ⟨g,i,j,rfl,_,c,_⟩
 ·simp [Value.ownBlock] at a
 ·simp only [Value.ownBlock,Option.some.injEq] at a
  subst a;rw [e] at c;simp only [Option.some.injEq,Obj.cells.injEq] at c;exact f c.2.1
theorem GStep.setRow {base:Nat}(a:GStep base w w1 A h D)(m:w.heap.size≤b)(c:w1.heap[b]? =some (.cells K t fr))(d:t≠269)(e:Array Value):
  GStep base w (w1.setRow b e) A h D:=by
 have f:=a.ne c d;refine ⟨zu a.own fun n g=>setRow_other _ _ _ _ fun i=>f (by rw [g,i]),⟨a.fr.os,a.fr.tape,a.fr.output,by simpa using a.fr.size,fun j k l=>(setRow_other _ _ _ _ (by omega)).trans (a.fr.block j k l)⟩,a.lies⟩
theorem set3 {e f g:Value}(h:w.heap[b]? =some (.cells #[e,f,g] t fr))(a c d:Value):
  (((w.setCell ⟨b,0,none⟩ a).setCell ⟨b,1,none⟩ c).setCell ⟨b,2,none⟩ d).heap[b]? =some (.cells #[a,c,d] t fr):=by
 have i:=heap_setCell (j:=0) h a;have k:=heap_setCell (j:=1) i c;have l:=heap_setCell (j:=2) k d;simpa using l
theorem Ym (w:World)(b:Nat)(a c d:Value)(k:Nat)(e:k≠b):(((w.setCell ⟨b,0,none⟩ a).setCell ⟨b,1,none⟩ c).setCell ⟨b,2,none⟩ d).heap[k]? =w.heap[k]? :=by
 rw [qe e,qe e,qe e]
theorem GStep.set3 {base:Nat}(e:GStep base w w1 A h D)(o:w.heap.size≤b)(f:w1.heap[b]? =some (.cells K t fr))(g:t≠269)(a c d:Value):
  GStep base w (((w1.setCell ⟨b,0,none⟩ a).setCell ⟨b,1,none⟩ c).setCell ⟨b,2,none⟩ d) A h D:=by
 have i:=e.ne f g;refine ⟨zu e.own fun p j=>Ym _ _ _ _ _ _ fun k=>i (by rw [j,k]),⟨e.fr.os,e.fr.tape,e.fr.output,by simpa using e.fr.size,fun l m n=>(Ym _ _ _ _ _ _ (by omega)).trans (e.fr.block l m n)⟩,e.lies⟩
theorem GStep.drew {base:Nat}(a:GStep base w w1 A h D):GStep base w w1.drew A h D:=⟨a.own,⟨a.fr.os,a.fr.tape,a.fr.output,a.fr.size,a.fr.block⟩,a.lies⟩
theorem znt (base:Nat)(e:Nat)(c:List Gate)(u:Value)(i:Option Addr)(on j:Nat)(k a b:Int)(w:World)(y:w.ownsRow base 269 3 u c.length (yT c))(ab:base≤w.heap.size)(ac:e≤1000)(ad:c.length≤100000):
  Calls prog 141 #[.agg #[.int .i64 e,u,.slice i on j],.int .i64 k,.int .i64 a,.int .i64 b] w fun r M=>
   ∃E,r= .returned (.tuple #[.agg #[.int .i64 e,E,.slice i on j],.int .i64 (e+c.length:Nat)])∧GStep base w M (c++[⟨k,a,b⟩]) u E:=by
 have z:∀p,u.ownBlock=some p→base≤p∧p<w.heap.size:=fun p v=>y.lt p v
 obtain ⟨l,m,rfl,ae,N,O,P⟩:=(Arr.of_owns y).open;clear O P N;go_enter func141,ntmps141;go_upto_region 1 with fail;have A:=heap_alloc2_old w (.cells #[.int .i64 e,.slice l c.length m,.slice i on j] 198) (.cells #[.int .i64 0,.slice none 0 0,.slice none 0 0] 198);have B:=heap_alloc2_new w (.cells #[.int .i64 e,.slice l c.length m,.slice i on j] 198) (.cells #[.int .i64 0,.slice none 0 0,.slice none 0 0] 198);have q:=qm w (.cells #[.int .i64 e,.slice l c.length m,.slice i on j] 198) (.cells #[.int .i64 0,.slice none 0 0,.slice none 0 0] 198);have F:=Below.owns y q;generalize ((w.alloc _).alloc _)=C at A B q F ⊢;have af:w.heap.size+2≤C.heap.size:=by have:=lt_of_block B;omega
 have ag:C.cell? ⟨w.heap.size,1,none⟩=some (.slice l c.length m):=by simp [World.cell?,A]
 go_wp2_with (at_builtin;refine yS rfl _ _ 196 rfl 269 _ 3 24 underlying196 zja rfl (by decide) #[_,_,_] _ base _ _ F rfl rfl rfl (by intro ah G;simp at G;rcases G with rfl | rfl | rfl<;>rfl) (by omega) (by omega) (by unfold maxLen;omega) ?_;intro ai s D n H;go_must (have aj:=n.size;obtain ⟨d,f,rfl,ak,al⟩:=D.form (by omega);have x:=(n.block w.heap.size (by omega) (fun r=>by have:=(z _ r.symm).2;omega)).trans A;have I:=(n.block (w.heap.size+1) (by omega) (fun r=>by have:=(z _ r.symm).2;omega)).trans B;have Q:s.cell? ⟨w.heap.size,1,none⟩=some (.slice l c.length m):=(by simp [World.cell?,x]);have R:s.frozen? ⟨w.heap.size,1,none⟩=false:=(by simp [World.frozen?,x]);have S:=Z x;have T:=Z I;clear x I));have t:=heap_setCell (j:=1) S (.slice (some ⟨d,0,none⟩) (c.length+1) f);have h:=(qe (w:=s) (b:=w.heap.size) (j:=1) (k:=w.heap.size+1) (by omega) (.slice (some ⟨d,0,none⟩) (c.length+1) f)).trans T;have J:w.grownBy (s.setCell ⟨w.heap.size,1,none⟩ (.slice (some ⟨d,0,none⟩) (c.length+1) f)) (Value.slice l c.length m).ownBlock:=by
  refine ⟨n.os.trans q.os,n.tape.trans q.tape,n.output.trans q.output,by rw [World.size_setCell];omega,fun K U V=> ?_⟩;rw [qe (by omega),n.block K (by omega) V,q.block K U]
 have W:(d<w.heap.size∧(Value.slice (some ⟨d,0,none⟩) (c.length+1) f).ownBlock=(Value.slice l c.length m).ownBlock)∨d=C.heap.size+1:=by
  rcases H with o | o
  ·exact .inl ⟨(z d (by rw [←o];rfl)).2,o⟩
  ·exact .inr (by simpa [Value.ownBlock] using o)
 have L:=ownsRow_setCell_other D (a:=⟨w.heap.size,1,none⟩) (by simp [Value.ownBlock];omega) (.slice (some ⟨d,0,none⟩) (c.length+1) f);generalize s.setCell ⟨w.heap.size,1,none⟩ (.slice (some ⟨d,0,none⟩) (c.length+1) f)=g at t h J L ⊢;clear H D n Q R;simp only [List.setIfInBounds_toArray,List.set] at t;have am:g.cell? ⟨w.heap.size,0,none⟩=some (.int .i64 e):=by simp [World.cell?,t]
 have an:g.cell? ⟨w.heap.size,1,none⟩=some (.slice (some ⟨d,0,none⟩) (c.length+1) f):=by simp [World.cell?,t]
 have ao:g.cell? ⟨w.heap.size,2,none⟩=some (.slice i on j):=by simp [World.cell?,t]
 have ap:g.cell? ⟨w.heap.size+1,0,none⟩=some (.int .i64 0):=by simp [World.cell?,h]
 have aq:g.cell? ⟨w.heap.size+1,1,none⟩=some (.slice none 0 0):=by simp [World.cell?,h]
 have ar:g.cell? ⟨w.heap.size+1,2,none⟩=some (.slice none 0 0):=by simp [World.cell?,h]
 have au:g.frozen? ⟨w.heap.size+1,0,none⟩=false:=by simp [World.frozen?,h]
 have av:g.frozen? ⟨w.heap.size+1,1,none⟩=false:=by simp [World.frozen?,h]
 have aw:g.frozen? ⟨w.heap.size+1,2,none⟩=false:=by simp [World.frozen?,h]
 go_region;go_wp2_with fail;have X:GStep base w g (c++[⟨k,a,b⟩]) (.slice l c.length m) (.slice (some ⟨d,0,none⟩) (c.length+1) f):=by
  refine ⟨by rw [zbC,List.length_append];exact L,J,fun p v=> ?_⟩;simp only [Value.ownBlock,Option.some.injEq] at v;subst v;rcases W with o | o
  ·exact .inl (by rw [←o.2];rfl)
  ·exact .inr (by omega)
 have Y:=set3 h (.int .i64 e) (.slice (some ⟨d,0,none⟩) (c.length+1) f) (.slice i on j);have aa:=(X.set3 (by omega) h (by decide) (.int .i64 e) (.slice (some ⟨d,0,none⟩) (c.length+1) f) (.slice i on j)).drew;refine bodyPost_ret (ql rfl _ _ (w.heap.size+1) 198 #[_,_,_] _ _ rfl Y underlying198 rfl QM) rfl ?_;refine ⟨_,?_,aa⟩;rw [show ((e+c.length:Nat):Int)=(e:Int)+((c.length:Int)+1)-1 by omega]
 rfl
structure Bx9 (w:World)(base N:Nat)(oo:Option Addr)(on oc:Nat)(gv0:Value)(gs:List Gate)(gv:Value)(W:World):Prop where
 box:W.heap[w.heap.size]? =some (.cells #[.int .i64 N,gv,.slice oo on oc] 198 (0,0))
 res:W.heap[w.heap.size+1]? =some (.cells #[.int .i64 0,.slice none 0 0,.slice none 0 0] 198 (0,0))
 st:GStep base w W gs gv0 gv
theorem Bx9.start {base:Nat}(b:Nat)(c:Option Addr)(on d:Nat)(a:w.ownsRow base 269 3 h A.length (yT A)):
  Bx9 w base b c on d h A h ((w.alloc (.cells #[.int .i64 b,h,.slice c on d] 198)).alloc (.cells #[.int .i64 0,.slice none 0 0,.slice none 0 0] 198)):=
 ⟨heap_alloc2_old _ _ _,heap_alloc2_new _ _ _,Below.owns a (qm _ _ _),(World.grownBy_alloc _ _ _).trans (World.grownBy_alloc _ _ _),fun _ a=> .inl a⟩
theorem Bx9.cells {base:Nat}(a:Bx9 w base N E on F G A h W):
  (W.cell? ⟨w.heap.size,0,none⟩=some (.int .i64 N)∧W.cell? ⟨w.heap.size,1,none⟩=some h∧W.cell? ⟨w.heap.size,2,none⟩=some (.slice E on F))∧W.frozen? ⟨w.heap.size,0,none⟩=false∧W.frozen? ⟨w.heap.size,1,none⟩=false∧W.frozen? ⟨w.heap.size,2,none⟩=false:=by
 have:=a.box;refine ⟨⟨?_,?_,?_⟩,?_,?_,?_⟩<;>simp [World.cell?,World.frozen?,this]
theorem Bx9.rcells {base:Nat}(a:Bx9 w base N E on F G A h W):
  (W.cell? ⟨w.heap.size+1,0,none⟩=some (.int .i64 0)∧W.cell? ⟨w.heap.size+1,1,none⟩=some (.slice none 0 0)∧W.cell? ⟨w.heap.size+1,2,none⟩=some (.slice none 0 0))∧W.frozen? ⟨w.heap.size+1,0,none⟩=false∧W.frozen? ⟨w.heap.size+1,1,none⟩=false∧W.frozen? ⟨w.heap.size+1,2,none⟩=false:=by
 have:=a.res;refine ⟨⟨?_,?_,?_⟩,?_,?_,?_⟩<;>simp [World.cell?,World.frozen?,this]
theorem Bx9.lt {base:Nat}(a:Bx9 w base N E on F G A h W):w.heap.size+1<W.heap.size:=lt_of_block a.res
structure Mid9 (w:World)(base N:Nat)(oo:Option Addr)(on oc:Nat)(gv0 gv:Value)(gs:List Gate)(gv1:Value)(W:World):Prop where
 box:W.heap[w.heap.size]? =some (.cells #[.int .i64 N,gv,.slice oo on oc] 198 (0,0))
 res:W.heap[w.heap.size+1]? =some (.cells #[.int .i64 0,.slice none 0 0,.slice none 0 0] 198 (0,0))
 st:GStep base w W gs gv0 gv1
theorem Bx9.call {base:Nat}(a:Bx9 w base N E on F G A h W)(k:GStep base W I L h D):Mid9 w base N E on F G h L D I:=
 ⟨(k.fr.block _ (by have:=a.lt;omega) fun b=>a.st.ne a.box (by decide) b.symm).trans a.box,(k.fr.block _ a.lt fun b=>a.st.ne a.res (by decide) b.symm).trans a.res,a.st.trans k⟩
theorem Mid9.cells {base:Nat}(a:Mid9 w base N E on F G h A D W):
  (W.cell? ⟨w.heap.size,0,none⟩=some (.int .i64 N)∧W.cell? ⟨w.heap.size,1,none⟩=some h∧W.cell? ⟨w.heap.size,2,none⟩=some (.slice E on F))∧W.frozen? ⟨w.heap.size,0,none⟩=false∧W.frozen? ⟨w.heap.size,1,none⟩=false∧W.frozen? ⟨w.heap.size,2,none⟩=false:=by
 have:=a.box;refine ⟨⟨?_,?_,?_⟩,?_,?_,?_⟩<;>simp [World.cell?,World.frozen?,this]
theorem Mid9.rcells {base:Nat}(a:Mid9 w base N E on F G h A D W):
  (W.cell? ⟨w.heap.size+1,0,none⟩=some (.int .i64 0)∧W.cell? ⟨w.heap.size+1,1,none⟩=some (.slice none 0 0)∧W.cell? ⟨w.heap.size+1,2,none⟩=some (.slice none 0 0))∧W.frozen? ⟨w.heap.size+1,0,none⟩=false∧W.frozen? ⟨w.heap.size+1,1,none⟩=false∧W.frozen? ⟨w.heap.size+1,2,none⟩=false:=by
 have:=a.res;refine ⟨⟨?_,?_,?_⟩,?_,?_,?_⟩<;>simp [World.cell?,World.frozen?,this]
theorem Mid9.store {base:Nat}(a:Mid9 w base N E on F G h A D W):
  Bx9 w base N E on F G A D (((W.setCell ⟨w.heap.size,0,none⟩ (.int .i64 N)).setCell ⟨w.heap.size,1,none⟩ D).setCell ⟨w.heap.size,2,none⟩ (.slice E on F)):=
 ⟨Go.Proofs.YtklofgfkaaoipaaGreatDoor.set3 a.box _ _ _,(Ym _ _ _ _ _ _ (by omega)).trans a.res,a.st.set3 (Nat.le_refl _) a.box (by decide) _ _ _⟩
theorem Mid9.result {base:Nat}(a:Mid9 w base N E on F G h A D W)(b:Value):
  (((W.setCell ⟨w.heap.size+1,0,none⟩ (.int .i64 N)).setCell ⟨w.heap.size+1,1,none⟩ D).setCell ⟨w.heap.size+1,2,none⟩ b).heap[w.heap.size+1]? =some (.cells #[.int .i64 N,D,b] 198 (0,0))∧
  GStep base w (((W.setCell ⟨w.heap.size+1,0,none⟩ (.int .i64 N)).setCell ⟨w.heap.size+1,1,none⟩ D).setCell ⟨w.heap.size+1,2,none⟩ b) A G D:=
 ⟨Go.Proofs.YtklofgfkaaoipaaGreatDoor.set3 a.res _ _ _,a.st.set3 (by omega) a.res (by decide) _ _ _⟩
theorem zfB {base:Nat}(c:GStep base w w1 A h D):∃a b,D= .slice a A.length b:=by
 obtain ⟨a,b,d,_⟩:=(Arr.of_owns c.own).open;exact ⟨a,b,d⟩
theorem YV (base:Nat)(d:Nat)(c:List Gate)(e:Value)(h:Option Addr)(on i:Nat)(k a b:Int)(w:World)(o:w.ownsRow base 269 3 e c.length (yT c))(p:base≤w.heap.size)(q:d≤1000)(r:c.length≤100000):
  Calls prog 141 #[.agg #[.int .i64 d,e,.slice h on i],.int .i64 k,.int .i64 a,.int .i64 b] w fun j l=>
   ∃(f:Option Addr) (m g:Nat) (s:Int),j= .returned (.tuple #[.agg #[.int .i64 d,.slice f m g,.slice h on i],.int .i64 s])∧GStep base w l (c++[⟨k,a,b⟩]) e (.slice f m g):=
 (znt base d c e h on i k a b w o p q r).mono fun j l ⟨u,t,n⟩=>by
  obtain ⟨f,g,rfl⟩:=zfB n;exact ⟨f,_,g,_,t,n⟩
theorem ziP (base:Nat)(e:Nat)(t:List Gate)(C:Value)(f:Option Addr)(on g:Nat)(a b c:Int)(w:World)(D:w.ownsRow base 269 3 C t.length (yT t))(A:base≤w.heap.size)(B:e≤1000)(aj:t.length≤90000):
  Calls prog 191 #[.agg #[.int .i64 e,C,.slice f on g],.int .i64 a,.int .i64 b,.int .i64 c] w fun u Q=>
   ∃(E:Value) (R:Int) (F G H I:Gate),u= .returned (.tuple #[.agg #[.int .i64 e,E,.slice f on g],.int .i64 R])∧(F.k=1∧G.k=1∧H.k=2∧I.k=1)∧GStep base w Q ((((t++[F])++[G])++[H])++[I]) C E:=by
 obtain ⟨S,T,rfl,ak,d,U,V⟩:=(Arr.of_owns D).open;clear U V d;have v:=Z (Bx9.start e f on g D);clear D;go_enter func191,ntmps191;go_upto_region 1 with fail;generalize ((w.alloc (.cells #[.int .i64 e,.slice S t.length T,.slice f on g] 198)).alloc (.cells #[.int .i64 0,.slice none 0 0,.slice none 0 0] 198))=al at v ⊢;obtain ⟨⟨h,i,j⟩,k,l,m⟩:=v.cells;go_upto_region 2 with (go_at_call 141;go_must (refine (YV base e _ _ f on g _ _ _ _ v.st.own (Nat.le_trans A v.st.fr.size) B (by first | omega | (simp only [List.length_append,List.length_cons,List.length_nil];omega))).mono ?_;rintro u W ⟨X,Y,k1,am,rfl,J⟩;have d:=v.call J;have K:=Z d;obtain ⟨⟨n,o,p⟩,q,r,s⟩:=d.cells;clear d J h i j k l m));have x:=Z K.store;clear n o p q r s K;generalize ((W.setCell ⟨w.heap.size,0,none⟩ (.int .i64 e)).setCell ⟨w.heap.size,1,none⟩ (.slice X Y k1)).setCell ⟨w.heap.size,2,none⟩ (.slice f on g)=an at x ⊢;obtain ⟨⟨h,i,j⟩,k,l,m⟩:=x.cells;go_upto_region 3 with (go_at_call 141;go_must (refine (YV base e _ _ f on g _ _ _ _ x.st.own (Nat.le_trans A x.st.fr.size) B (by first | omega | (simp only [List.length_append,List.length_cons,List.length_nil];omega))).mono ?_;rintro u aa ⟨ab,ac,k2,ao,rfl,L⟩;have d:=x.call L;have M:=Z d;obtain ⟨⟨n,o,p⟩,q,r,s⟩:=d.cells;clear d L h i j k l m));have y:=Z M.store;clear n o p q r s M;generalize ((aa.setCell ⟨w.heap.size,0,none⟩ (.int .i64 e)).setCell ⟨w.heap.size,1,none⟩ (.slice ab ac k2)).setCell ⟨w.heap.size,2,none⟩ (.slice f on g)=ap at y ⊢;obtain ⟨⟨h,i,j⟩,k,l,m⟩:=y.cells;go_upto_region 4 with (go_at_call 141;go_must (refine (YV base e _ _ f on g _ _ _ _ y.st.own (Nat.le_trans A y.st.fr.size) B (by first | omega | (simp only [List.length_append,List.length_cons,List.length_nil];omega))).mono ?_;rintro u ad ⟨ae,af,k3,aq,rfl,N⟩;have d:=y.call N;have O:=Z d;obtain ⟨⟨n,o,p⟩,q,r,s⟩:=d.cells;clear d N h i j k l m));have z:=Z O.store;clear n o p q r s O;generalize ((ad.setCell ⟨w.heap.size,0,none⟩ (.int .i64 e)).setCell ⟨w.heap.size,1,none⟩ (.slice ae af k3)).setCell ⟨w.heap.size,2,none⟩ (.slice f on g)=ar at z ⊢;obtain ⟨⟨h,i,j⟩,k,l,m⟩:=z.cells;go_wp2_with (go_at_call 141;go_must (refine (YV base e _ _ f on g _ _ _ _ z.st.own (Nat.le_trans A z.st.fr.size) B (by first | omega | (simp only [List.length_append,List.length_cons,List.length_nil];omega))).mono ?_;rintro u au ⟨av,aw,k4,ax,rfl,P⟩;have d:=z.call P;have ag:=Z d;obtain ⟨⟨n,o,p⟩,q,r,s⟩:=d.rcells;clear d P h i j k l m));obtain ⟨ah,ai⟩:=ag.result (.slice f on g);refine bodyPost_ret (ql rfl _ _ (w.heap.size+1) 198 #[_,_,_] _ _ rfl ah underlying198 rfl QM) rfl ?_;exact ⟨_,_,_,_,_,_,rfl,⟨rfl,rfl,rfl,rfl⟩,ai⟩
theorem GStep.ints {base:Nat}{d:List Gate}(g:GStep base w w1 A h D)(i:w.ownsRow base 269 3 h d.length (yT d))(b:w.ownsRow J 3 1 x n H):w1.ownsRow J 3 1 x n H:=by
 refine zu b fun e a=>g.fr.block e (b.lt e a).2 fun c=> ?_
 rcases i.2 with ⟨rfl,_⟩ | ⟨k,l,m,rfl,_,f,_⟩
 ·simp [Value.ownBlock] at c
 ·simp only [Value.ownBlock,Option.some.injEq] at c
  subst c;rcases b.2 with ⟨rfl,_⟩ | ⟨o,p,q,rfl,_,j,_⟩
  ·simp [Value.ownBlock] at a
  ·simp only [Value.ownBlock,Option.some.injEq] at a
   subst a;rw [j] at f;simp at f
theorem Zn (d:w.ownsRow J 3 1 x n H)(e:w.heap[b]? =some (.cells K t fr))(f:t≠3):x.ownBlock≠some b:=by
 intro a;rcases d.2 with ⟨rfl,_⟩ | ⟨g,h,i,rfl,_,c,_⟩
 ·simp [Value.ownBlock] at a
 ·simp only [Value.ownBlock,Option.some.injEq] at a
  subst a;rw [e] at c;simp only [Option.some.injEq,Obj.cells.injEq] at c;exact f c.2.1
theorem GStep.grown {base:Nat}(b:GStep base w w1 A h D)(d:w1.ownsRow J 3 1 x n H)(i:w.heap.size≤J)(e:w1.grownBy O x.ownBlock):GStep base w O A h D:=by
 refine ⟨zu b.own fun c a=>e.block c (b.own.lt c a).2 fun f=> ?_,b.fr.andThen e fun c a=> .inl ?_,b.lies⟩
 ·rcases b.own.2 with ⟨rfl,_⟩ | ⟨j,k,l,rfl,_,g,_⟩
  ·simp [Value.ownBlock] at a
  ·simp only [Value.ownBlock,Option.some.injEq] at a
   subst a;exact Zn d g (by decide) f.symm
 ·have:=(d.lt c a).1;omega
theorem Bx9.grown {base:Nat}(a:Bx9 w base N E on F G A h W)(b:W.ownsRow J 3 1 x n H)(e:w.heap.size≤J)(c:W.grownBy I x.ownBlock):Bx9 w base N E on F G A h I:=
 ⟨(c.block _ (by have:=a.lt;omega) fun d=>Zn b a.box (by decide) d.symm).trans a.box,(c.block _ a.lt fun d=>Zn b a.res (by decide) d.symm).trans a.res,a.st.grown b e c⟩
theorem Bx9.ints {base:Nat}(a:Bx9 w base N E on F G A h W)(k:GStep base W I L h D)(b:W.ownsRow J 3 1 x n H):I.ownsRow J 3 1 x n H:=k.ints a.st.own b
theorem yJ (f:W.heap[b]? =some (.cells K t fr))(g:t≠3)(e:W.ownsRow J 3 1 x n H)(a c d:Value):
  (((W.setCell ⟨b,0,none⟩ a).setCell ⟨b,1,none⟩ c).setCell ⟨b,2,none⟩ d).ownsRow J 3 1 x n H:=
 zu e fun j h=>Ym _ _ _ _ _ _ fun i=>Zn e f g (by rw [h,i])
theorem zav:(prog.info? 3).map (fun a=>(a.zero,a.size,a.bytes))=some (some (.int .i64 0),1,8):=by kernel_rfl
structure Ox9 (w:World)(base N:Nat)(oo:Option Addr)(on oc:Nat)(gv0:Value)(gs:List Gate)(gv x:Value)(k:Nat)(W:World):Prop where
 bx:Bx9 w base N oo on oc gv0 gs gv W
 wires:∃l:List Int,l.length=k∧W.ownsRow (w.heap.size+2) 3 1 x k (ints l)
theorem Ox9.start {base:Nat}(a:Bx9 w base N E on F G A h W):Ox9 w base N E on F G A h (.slice none 0 0) 0 W:=⟨a, [],rfl,World.ownsRow_nil _ _ _ _⟩
structure Om9 (w:World)(base N:Nat)(oo:Option Addr)(on oc:Nat)(gv0 gv:Value)(gs:List Gate)(gv1 x:Value)(k:Nat)(W:World):Prop where
 mid:Mid9 w base N oo on oc gv0 gv gs gv1 W
 wires:∃l:List Int,l.length=k∧W.ownsRow (w.heap.size+2) 3 1 x k (ints l)
theorem Ox9.call {base:Nat}(a:Ox9 w base N E on F G A h x k W)(g:GStep base W I L h D):Om9 w base N E on F G h L D x k I:=by
 obtain ⟨b,c,d⟩:=a.wires;exact ⟨a.bx.call g,b,c,a.bx.ints g d⟩
theorem Om9.store {base:Nat}(a:Om9 w base N E on F G h A D x k W):
  Ox9 w base N E on F G A D x k (((W.setCell ⟨w.heap.size,0,none⟩ (.int .i64 N)).setCell ⟨w.heap.size,1,none⟩ D).setCell ⟨w.heap.size,2,none⟩ (.slice E on F)):=by
 obtain ⟨b,c,d⟩:=a.wires;exact ⟨a.mid.store,b,c,yJ a.mid.box (by decide) d _ _ _⟩
theorem Ox9.add {base:Nat}(a:Ox9 w base N E on F G A h x k W)(b:W.grownBy I x.ownBlock)(c:I.ownsRow (w.heap.size+2) 3 1 y (k+1) (ints l++[.int .i64 z]))(d:l.length=k):Ox9 w base N E on F G A h y (k+1) I:=by
 obtain ⟨f,g,e⟩:=a.wires;exact ⟨a.bx.grown e (by omega) b,l++[z],by simp [d],by simpa [ints] using c⟩
theorem zfq (a b k f:Int)(c:Nat)(w:World)(d:yN k c=false):
  Calls prog 52 #[.agg #[.int .i64 17,.int .i64 a,.int .i64 b,.int .i64 k,.int .u64 c,.int .i64 f]] w (qM (rWv (0,0,0,-1)) w):=by
 have e:Qe k c=0:=by unfold Qe;rw [d];rfl
 have g:=Z e;clear e d;go_enter func52,ntmps52;go_wp2_with (go_at_call 59;go_must (refine (QB _ _ _).mono ?_;rw [g.out];rintro h i ⟨rfl,rfl⟩));exact bodyPost_ret (by simp [results,go_sem];rfl) rfl ⟨rfl,(Below.refl _ _).alloc (Nat.le_refl _) _⟩
def qE (o:MOp):Int×Int×Int×Int:=if o.kind=17 then (if yN o.k o.c then zg1 o.k o.c else (0,0,0,-1)) else rW o.kind
theorem zaF (o:MOp)(w:World):Calls prog 52 #[.agg o.arr] w (qM (rWv (qE o)) w):=by
 obtain ⟨b,e,f,c,d,g⟩:=o;simp only [MOp.arr,qE]
 by_cases i:b=17
 ·subst i
  rw [if_pos rfl]
  by_cases h:yN c d=true
  ·rw [if_pos h]
   exact zik e f c g d w (YC h)
  ·rw [if_neg h]
   exact zfq e f c g d w (by simpa using h)
 ·rw [if_neg i]
  by_cases j:b<1∨19<b
  ·have:rW b=(0,0,0,-1):=by
    unfold rW;rw [if_neg (by omega)];have k:(qu b).2=false:=by
     cases a:(qu b).2 with
     |false=>rfl
     |true=>rcases zS _ a with a | a | a | a | a | a | a | a | a | a | a | a | a | a | a | a | a<;>omega
    rw [k];rfl
   rw [this];exact zfr b e f c g d w j
  ·exact zg8 b e f c g d w (by omega)
def YH (o:MOp):List Int:=(if (qE o).1=0 then [] else [o.a])++(if (qE o).2.1≠0∧((qE o).1=0∨o.a≠o.b) then [o.b] else [])
theorem Yw (a:w.heap[b]? =some (.cells o.arr 61 (0,0))):
  w.cell? ⟨b,0,none⟩=some (.int .i64 o.kind)∧w.cell? ⟨b,1,none⟩=some (.int .i64 o.a)∧w.cell? ⟨b,2,none⟩=some (.int .i64 o.b)∧w.cell? ⟨b,3,none⟩=some (.int .i64 o.k)∧w.cell? ⟨b,4,none⟩=some (.int .u64 o.c)∧w.cell? ⟨b,5,none⟩=some (.int .i64 o.party):=by
 refine ⟨?_,?_,?_,?_,?_,?_⟩<;>simp [World.cell?,a,MOp.arr]
structure WSt (w:World)(o:MOp)(x:Value)(l:List Int)(W:World):Prop where
 box:W.heap[w.heap.size]? =some (.cells o.arr 61 (0,0))
 own:W.ownsRow (w.heap.size+1) 3 1 x l.length (ints l)
 below:Below w.heap.size w W
theorem WSt.add (a:WSt w o x l W)(b:W.grownBy I x.ownBlock)(c:I.ownsRow (w.heap.size+1) 3 1 y (l.length+1) (ints l++[.int .i64 z])):WSt w o y (l++[z]) I:=
 ⟨(b.block _ (lt_of_block a.box) fun d=>Zn a.own a.box (by decide) d.symm).trans a.box,by rw [List.length_append];simpa [ints] using c,a.below.grown b a.below.size fun e f=>by have:=(a.own.lt e f).1;omega⟩
theorem WSt.later (a:WSt w o x l W)(b:Below W.heap.size W I):WSt w o x l I:=
 ⟨(b.block _ (lt_of_block a.box)).trans a.box,Below.owns a.own b,a.below.trans (b.mono a.below.size)⟩
theorem WSt.start (w:World)(o:MOp):WSt w o (.slice none 0 0) [] (w.alloc (.cells o.arr 61)):=⟨heap_alloc_new _ _,World.ownsRow_nil _ _ _ _,(Below.refl _ _).alloc (Nat.le_refl _) _⟩
theorem WSt.ret (a:WSt w o x l W):qY l w (.returned x) W:=⟨_,rfl,qk a.own (by omega),a.below⟩
def zdX (l:List MOp)(k:Int):Nat:=(l.filter fun a=>qI a&&a.k==k).length
theorem zn5 (l:List MOp)(k:Int):zdX l k≤l.length:=List.length_filter_le _ _
theorem zkQ (l:List MOp)(j:Nat)(a:j<l.length)(k:Int):zdX (l.take (j+1)) k=zdX (l.take j) k+if qI l[j]&&l[j].k==k then 1 else 0:=by
 unfold zdX;rw [List.take_succ_eq_append_getElem a,List.filter_append]
 by_cases b:(qI l[j]&&l[j].k==k)=true<;>simp [b]
def YN (l:List MOp):Bool:=(List.range (Ql l)).all fun a=>zdX l (a:Int)==1
theorem znu {l:List MOp}(a:k<Ql l)(b:zdX l (k:Int)≠1):YN l=false:=by
 cases c:YN l with
 |false=>rfl
 |true=>
  have:=List.all_eq_true.1 c k (List.mem_range.2 a);simp at this;exact absurd this b
theorem zf4 {l:List MOp}(b:∀a,a<Ql l→zdX l (a:Int)=1):YN l=true:=
 List.all_eq_true.2 fun a c=>by simpa using b a (List.mem_range.1 c)
theorem zdL (v:Value)(ops:List MOp)(w:World)(L:Arr w.heap.size w 6 v ops.length (qz ops))(an:ops.length≤1000000):
  Calls prog 51 #[v] w fun V W=>V= .returned (.bool (YN ops))∧W=w:=by
 obtain ⟨ao,ap,rfl,aq,X,Y,M⟩:=L.open;have N:=Z M;clear L Y M X;obtain ⟨s,u⟩:∃s,YN ops=s:=⟨_,rfl⟩;rw [u];have O:=Z u;clear u;go_enter func51,ntmps51;go_wp2_with fail;go_loopg [3,10] ops.length (fun k l x wr=>∃a:Nat,a≤ops.length∧k=ops.length-a∧x= .int .i64 a∧l= .int .i64 (Ql (ops.take a):Nat)∧wr=w)
 case atStart=>exact ⟨0,Nat.zero_le _,rfl,rfl,rfl,rfl⟩
 case round=>
  obtain ⟨a,aa,ar,rfl,rfl,rfl⟩:=hrel;have h:=za2 (ops.take a);rw [List.length_take] at h
  by_cases m:a<ops.length
  ·obtain ⟨ab,ac,rfl,y,n⟩:=N.out (by omega)
   obtain ⟨z,A,B,C,D,E⟩:=y8 n (Below.refl _ _) y rfl a m;have f:=Z (ZG ops a m);generalize ops[a]=b at z A B C D E f;clear n;have ad:(0:Int)≤(a:Int):=by omega
   have ae:(a:Int)<(ops.length:Int):=by omega
   by_cases i:b.kind<18
   ·have d:=Z (show ¬qI b=true by simp [qI];omega)
    have o:decide ((18:Int)≤b.kind)=false:=by simp;omega
    clear i;go_wp2_with fail;go_roundg (ops.length-(a+1))
    case measure=>omega
    case rel=>exact ⟨a+1,by omega,rfl,by go_num,by rw [f.out,if_neg d.out];rfl,rfl⟩
   ·by_cases p:19<b.kind
    ·have d:=Z (show ¬qI b=true by simp [qI];omega)
     have o:decide ((18:Int)≤b.kind)=true:=by simp;omega
     have F:decide (b.kind≤(19:Int))=false:=by simp;omega
     clear i p;go_wp2_with fail;go_roundg (ops.length-(a+1))
     case measure=>omega
     case rel=>exact ⟨a+1,by omega,rfl,by go_num,by rw [f.out,if_neg d.out];rfl,rfl⟩
    ·have d:=Z (show qI b=true by simp [qI];omega)
     have o:decide ((18:Int)≤b.kind)=true:=by simp;omega
     have F:decide (b.kind≤(19:Int))=true:=by simp;omega
     clear i p;go_wp2_with fail;go_roundg (ops.length-(a+1))
     case measure=>omega
     case rel=>exact ⟨a+1,by omega,rfl,by go_num,by rw [f.out,if_pos d.out];go_num,rfl⟩
  ·obtain rfl:a=ops.length:=by omega
   rw [List.take_length] at h ⊢;obtain ⟨g,G⟩:∃g,Ql ops=g:=⟨_,rfl⟩;rw [G] at h ⊢;have P:=Z G;clear G;go_wp2_with fail;go_loopg [5,6] g (fun k l af ag=>∃(a:Nat) (Q:Value),a≤g∧k=g-a∧l= .int .i64 a∧af=Q∧Hid (∀q,q<a→zdX ops (q:Int)=1)∧ag=wr)
   case atStart=>exact ⟨0,_,Nat.zero_le _,rfl,rfl,rfl,Z (fun q H=>absurd H (Nat.not_lt_zero _)),rfl⟩
   case round=>
    obtain ⟨c,Q,au,av,rfl,rfl,R,rfl⟩:=hrel
    by_cases ah:c<g
    ·go_wp2_with fail
     obtain ⟨I,e⟩:∃I:World,I=wr:=⟨_,rfl⟩;go_loopg [6,37] ops.length (fun k l x ai=>∃a:Nat,a≤ops.length∧k=ops.length-a∧x= .int .i64 a∧l= .int .i64 (zdX (ops.take a) (c:Int):Nat)∧ai=I)
     case atStart=>exact ⟨0,Nat.zero_le _,rfl,rfl,rfl,e.symm⟩
     case round=>
      obtain ⟨a,aa,aw,rfl,rfl,rfl⟩:=hrel;have h:=zn5 (ops.take a) (c:Int);rw [List.length_take] at h
      by_cases m:a<ops.length
      ·obtain ⟨ab,ac,rfl,y,n⟩:=N.out (by omega)
       obtain ⟨z,A,B,C,D,E⟩:=y8 n (Below.refl _ _) y rfl a m;have f:=Z (zkQ ops a m (c:Int));generalize ops[a]=b at z A B C D E f;clear n;have ad:(0:Int)≤(a:Int):=by omega
       have ae:(a:Int)<(ops.length:Int):=by omega
       by_cases i:b.kind<18
       ·have d:=Z (show ¬(qI b&&b.k==(c:Int))=true by simp [qI];omega)
        have o:decide ((18:Int)≤b.kind)=false:=by simp;omega
        clear i;go_wp2_with fail;go_roundg (ops.length-(a+1))
        case measure=>omega
        case rel=>exact ⟨a+1,by omega,rfl,by go_num,by rw [f.out,if_neg d.out];rfl,by first | rfl | exact e | exact e.symm⟩
       ·by_cases p:19<b.kind
        ·have d:=Z (show ¬(qI b&&b.k==(c:Int))=true by simp [qI];omega)
         have o:decide ((18:Int)≤b.kind)=true:=by simp;omega
         have F:decide (b.kind≤(19:Int))=false:=by simp;omega
         clear i p;go_wp2_with fail;go_roundg (ops.length-(a+1))
         case measure=>omega
         case rel=>exact ⟨a+1,by omega,rfl,by go_num,by rw [f.out,if_neg d.out];rfl,by first | rfl | exact e | exact e.symm⟩
        ·have t:qI b=true:=by simp [qI];omega
         have o:decide ((18:Int)≤b.kind)=true:=by simp;omega
         have F:decide (b.kind≤(19:Int))=true:=by simp;omega
         clear i p
         by_cases j:b.k=(c:Int)
         ·have d:=Z (show (qI b&&b.k==(c:Int))=true by simp [t,j])
          have aj:(b.k==(c:Int))=true:=by simpa using j
          clear j t;go_wp2_with fail;go_roundg (ops.length-(a+1))
          case measure=>omega
          case rel=>exact ⟨a+1,by omega,rfl,by go_num,by rw [f.out,if_pos d.out];go_num,by first | rfl | exact e | exact e.symm⟩
         ·have d:=Z (show ¬(qI b&&b.k==(c:Int))=true by simp [t,j])
          have aj:(b.k==(c:Int))=false:=by simpa using j
          clear j t;go_wp2_with fail;go_roundg (ops.length-(a+1))
          case measure=>omega
          case rel=>exact ⟨a+1,by omega,rfl,by go_num,by rw [f.out,if_neg d.out];rfl,by first | rfl | exact e | exact e.symm⟩
      ·obtain rfl:a=ops.length:=by omega
       rw [List.take_length] at h ⊢;obtain ⟨r,J⟩:∃r,zdX ops (c:Int)=r:=⟨_,rfl⟩;rw [J] at h ⊢;have S:=Z J;clear J
       by_cases K:r=1
       ·subst K
        go_wp2_with fail;go_roundg (g-(c+1))
        case measure=>omega
        case rel=>exact ⟨c+1,_,by omega,rfl,by go_num,rfl,Z (fun q H=>by rcases Nat.lt_succ_iff_lt_or_eq.1 H with ak | rfl;exact R q ak;exact S),by first | rfl | exact e | exact e.symm⟩
       ·have ax:((r:Int)==1)=false:=by simp;omega
        have ay:((r:Int) != 1)=true:=by simp;omega
        have T:s=false:=by rw [←O.out];exact znu (by rw [P.out];exact ah) (by rw [S.out];exact K)
        have al:=Z T;clear T K;go_wp2_with fail;go_ret;exact ⟨by rw [al.out];rfl,by first | rfl | exact e | exact e.symm⟩
    ·obtain rfl:c=g:=by omega
     have U:s=true:=by rw [←O.out];exact zf4 (by rw [P.out];exact R)
     have am:=Z U;clear U;go_wp2_with fail;go_ret;exact ⟨by rw [am.out];rfl,rfl⟩
end Go.Proofs.YtklofgfkaaoipaaGreatDoor
