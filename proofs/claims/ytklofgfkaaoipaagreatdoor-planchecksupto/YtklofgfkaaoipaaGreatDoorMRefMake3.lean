/-
  THE CONTRACT of twainref09.Make at kind 3.
-/
import Derived.Test.YtklofgfkaaoipaaGreatDoorMRefOperandW
import Derived.Deep.RegionLaw
import Derived.Test.YtklofgfkaaoipaaGreatDoorMMCheck
import Derived.Test.YtklofgfkaaoipaaGreatDoorMRefNumbers
import Derived.Deep.Light
import Derived.Test.YtklofgfkaaoipaaGreatDoorMRefSame1
import Derived.Test.YtklofgfkaaoipaaGreatDoorMRepeat
import Derived.Test.YtklofgfkaaoipaaGreatDoorMPlanCheck
import Derived.Test.YtklofgfkaaoipaaGreatDoorMHd
set_option maxHeartbeats 16000000
set_option maxRecDepth 100000
set_option linter.unusedSimpArgs false
set_option linter.unusedVariables false
namespace Go.Proofs.YtklofgfkaaoipaaGreatDoor
open Go.RowKit Go.Proofs.Tryz
theorem zot (c:Nat)(w:World)(T:yN 3 c=true):
  Calls prog 93 #[.int .i64 3,.int .u64 c] w (zka w (yi ((c:Int)%2==1)+yi ((c:Int) / 2%2==1)+128)):=by
 have ay:Qe 3 c=2:=by unfold Qe;rw [if_pos T];rfl
 have a9:=Z ay;clear ay;have bD:c<4:=by unfold yN at T;simp at T;omega
 go_enter func93,ntmps93;go_upto_region 4 with (go_at_call 59;go_must (refine (QB _ _ _).mono ?_;rw [a9.out];rintro t bE ⟨rfl,rfl⟩));have y:=Z (Mc9.start w 256);have az:=Z (show ([]:List Gate).length=0 from rfl);generalize ((w.alloc (.cells #[.int .i64 0,.slice none 0 0,.slice none 0 0] 198)).alloc (.cells #[.int .i64 256,.slice none 0 0,.slice none 0 0] 198))=bF at y ⊢;obtain ⟨⟨d,e,f⟩,g,h,i⟩:=y.cells;go_upto_region 5 with (go_at_call 140;go_must (refine (ZI (w.heap.size+2) 256 _ _ none 0 0 _ _ _ _ y.own (by have:=y.lt;omega) (by omega) (by have:=az.out;first | omega | (simp only [qT,yB];omega)) (by omega) (by omega)).mono ?_;rintro t ba ⟨aA,aB,k1,U,p,D,aC,rfl,aD,aE,bb⟩;have a:=y.call bb;have V:=Z a;have aF:=Z aD.1;have W:=Z aE;obtain ⟨⟨k,p,j⟩,l,m,n⟩:=a.cells;clear a d e f g h i aD aE));have u:=Z V.store;have X:=Z (yJ V.box (by decide) aF (.int .i64 256) (.slice aA aB k1) (.slice none 0 0));clear k p j l m n V aF;generalize ((ba.setCell ⟨w.heap.size+1,0,none⟩ (.int .i64 256)).setCell ⟨w.heap.size+1,1,none⟩ (.slice aA aB k1)).setCell ⟨w.heap.size+1,2,none⟩ (.slice none 0 0)=bG at u X ⊢;obtain ⟨⟨d,e,f⟩,g,h,i⟩:=u.cells;have I:=Z (show aC.length≤500∧yw aC=yi ((c:Int)%2==1) from ⟨by have:=W.2;simpa using this,by have:=W.1;simpa [yi,yw] using this⟩);clear az W;go_upto_region 7 with (go_at_call 140;go_must (refine (ZI (w.heap.size+2) 256 _ _ none 0 0 _ _ _ _ u.own (by have:=u.lt;omega) (by omega) (by have:=I.1;first | omega | (simp only [qT,yB];omega)) (by omega) (by omega)).mono ?_;rintro t bc ⟨Y,aa,k2,ab,j,J,K,rfl,aG,aH,ac⟩;have a:=u.call ac;have L:=Z a;have aI:=Z aG.1;have ad:=Z aH;obtain ⟨⟨k,p,j⟩,l,m,n⟩:=a.cells;clear a d e f g h i aG aH));have q:=Z L.store;have ae:=Z (yJ L.box (by decide) (ac.ints u.own X) (.int .i64 256) (.slice Y aa k2) (.slice none 0 0));have af:=Z (yJ L.box (by decide) aI (.int .i64 256) (.slice Y aa k2) (.slice none 0 0));have M:=Z (show K.length≤1000∧yw K=yi ((c:Int)%2==1)+yi ((c:Int) / 2%2==1) from ⟨by have:=ad.2;have:=I.1;omega,by rw [ad.1,I.2];rfl⟩);clear k p j l m n L aI ac;generalize ((bc.setCell ⟨w.heap.size+1,0,none⟩ (.int .i64 256)).setCell ⟨w.heap.size+1,1,none⟩ (.slice Y aa k2)).setCell ⟨w.heap.size+1,2,none⟩ (.slice none 0 0)=bH at q ae af ⊢;obtain ⟨⟨d,e,f⟩,g,h,i⟩:=q.cells;go_upto_region 8 with (go_at_call 141;go_must (refine (za8 (w.heap.size+2) 256 _ _ none 0 0 _ _ _ _ q.own (by have:=q.lt;omega) (by omega) (by have:=M.1;first | omega | (simp only [qT,yB];omega))).mono ?_;rintro t bd ⟨be,bf,k3,bI,rfl,N⟩;have a:=q.call N;have O:=Z a;obtain ⟨⟨k,p,j⟩,l,m,n⟩:=a.cells;clear a d e f g h i));have r:=Z (Mx9.start O.store (yJ O.box (by decide) (N.ints q.own ae) _ _ _) (yJ O.box (by decide) (N.ints q.own af) _ _ _));have P:=Z (show (K++[(⟨1,0,0⟩:Gate)]).length≤1001∧yw (K++[(⟨1,0,0⟩:Gate)])=yi ((c:Int)%2==1)+yi ((c:Int) / 2%2==1) from ⟨by rw [qT];have:=M.1;omega,by rw [y7,if_neg (by decide)];exact M.2⟩);clear k p j l m n O N ae af;generalize ((bd.setCell ⟨w.heap.size+1,0,none⟩ (.int .i64 256)).setCell ⟨w.heap.size+1,1,none⟩ (.slice be bf k3)).setCell ⟨w.heap.size+1,2,none⟩ (.slice none 0 0)=bJ at r ⊢;obtain ⟨⟨d,e,f⟩,g,h,i⟩:=r.mc.cells;go_upto_region 21 with (go_at_call 142;go_must (refine (zkn (w.heap.size+2) 256 _ _ none 0 0 _ _ _ _ _ r.mc.own (by have:=r.mc.lt;omega) (by omega) (by have:=P.1;omega) _ _ r.x r.y).mono ?_;rintro t bg ⟨aJ,aK,k4,aL,aM,rfl,aN,aO⟩;have a:=r.call aO;have aP:=Z a;have ag:=Z aN;obtain ⟨⟨k,s,j⟩,l,m,n⟩:=a.mm.cells;clear a d e f g h i aN));have ah:=Z aP.store;have ai:=Z (show aM.length≤1501∧yw aM=yi ((c:Int)%2==1)+yi ((c:Int) / 2%2==1)+64 from ⟨by have:=ag.2;have:=P.1;omega,by have:=ag.1;have:=P.2;omega⟩);clear k s j l m n aP aO P ag M I ad;generalize ((bg.setCell ⟨w.heap.size+1,0,none⟩ (.int .i64 256)).setCell ⟨w.heap.size+1,1,none⟩ (.slice aJ aK k4)).setCell ⟨w.heap.size+1,2,none⟩ (.slice none 0 0)=bK at ah ⊢;clear r q u y X;go_wp2_with fail;go_loopg [15,16] 64 (fun bh bi bj wr=>∃(b:Nat) (v:List Gate) (aQ:Option Addr) (aR aS:Nat) (E:Option Addr) (F:Nat) (aT:Value),b≤64∧bh=64-b∧bi= .int .i64 b∧bj=aT∧Hid (Mx9 w 256 E b F v (.slice aQ aR aS) U p ab j D J wr)∧Hid (v.length≤1501+3 * b∧yw v=yi ((c:Int)%2==1)+yi ((c:Int) / 2%2==1)+64+b))
 case atStart=>exact ⟨0,_,aJ,aK,k4,none,0,_,by omega,rfl,rfl,rfl,ah,Z ⟨ai.1,ai.2⟩⟩
 case round=>
  clear ah ai;obtain ⟨b,v,aQ,aR,aS,E,F,aT,bL,bM,rfl,rfl,o,G⟩:=hrel;have bN:=o.mc.lt
  by_cases bO:b<64
  ·have bP:(0:Int)≤(b:Int):=by omega
   have bQ:(b:Int)<64:=by omega
   have bR:decide ((b:Int)<64)=true:=by simp;omega
   have aj:=Z (show v.length≤1700 by have:=G.1;omega);go_wp2_with fail;obtain ⟨⟨d,e,f⟩,g,h,i⟩:=o.mc.cells;have Q:=o.xat b (by omega);obtain ⟨H,z⟩:∃H,D.getD b 0=H:=⟨_,rfl⟩;rw [z] at Q;have aU:=o.yat b (by omega);obtain ⟨aV,ak⟩:∃aV,J.getD b 0=aV:=⟨_,rfl⟩;rw [ak] at aU;go_cut [16] from 114 to 126 (fun al am=>∃(an:Option Addr) (ao ap:Nat) (aq:Int) (x:List Gate),al= .int .i64 aq∧Hid (Mx9 w 256 E b F x (.slice an ao ap) U p ab j D J am)∧Hid (x.length=(v).length+1∧yw x=yw (v)+0))
   case first=>
    go_region_law (first | (go_simp;go_at_call 141;refine (za8 (w.heap.size+2) 256 _ _ _ _ _ _ _ _ _ o.drew.mc.own (by have:=o.drew.mc.lt;omega) (by omega) (by have:=aj.out;first | omega | (simp only [qT];omega))).mono ?_;rintro t bS ⟨aW,aX,k6,R,rfl,bk⟩;have a:=o.drew.call bk;have bl:=Z a;obtain ⟨⟨k,s,aY⟩,l,m,n⟩:=a.mm.cells;have bm:=a.xat b (by omega);rw [z] at bm;have bn:=a.yat b (by omega);rw [ak] at bn;clear a d e f g h i))
    all_goals
     have A:=Z bl.store
     (try go_simp)
     go_wp2_with fail;go_meet;exact ⟨aW,aX,k6,R,_,rfl,A,Z ⟨by rw [qT],by rw [y7,if_neg (by decide)]⟩⟩
   case rest=>
   obtain ⟨aW,aX,k6,R,aZ,rfl,A,S⟩:=hcut;clear d e f g h i;obtain ⟨⟨d,e,f⟩,g,h,i⟩:=A.mc.cells;go_upto_region 34 with (go_at_call 141;go_must (refine (za8 (w.heap.size+2) 256 _ _ _ _ _ _ _ _ _ A.mc.own (by have:=A.mc.lt;omega) (by omega) (by have:=aj.out;have:=S.1;omega)).mono ?_;rintro t bo ⟨bp,bq,k7,bT,rfl,a0⟩;have a:=A.call a0;have a1:=Z a;obtain ⟨⟨k,s,aY⟩,l,m,n⟩:=a.mm.cells;clear a d e f g h i));have B:=Z a1.store;clear k s aY l m n a1 a0 Q z aU ak;generalize ((bo.setCell ⟨w.heap.size+1,0,none⟩ (.int .i64 256)).setCell ⟨w.heap.size+1,1,none⟩ (.slice bp bq k7)).setCell ⟨w.heap.size+1,2,none⟩ (.slice E b F)=bU at B ⊢;go_wp2_with fail;obtain ⟨⟨d,e,f⟩,g,h,i⟩:=B.mc.cells;have Q:=B.xat b (by omega);obtain ⟨H,z⟩:∃H,D.getD b 0=H:=⟨_,rfl⟩;rw [z] at Q;go_cut [16] from 134 to 143 (fun al am=>∃(an:Option Addr) (ao ap:Nat) (aq:Int) (x:List Gate),al= .int .i64 aq∧Hid (Mx9 w 256 E b F x (.slice an ao ap) U p ab j D J am)∧Hid (x.length=(aZ++[(⟨2,aL,R⟩:Gate)]).length+1∧yw x=yw (aZ++[(⟨2,aL,R⟩:Gate)])+0))
   case first=>
    go_region_law (first | (go_simp;go_at_call 141;refine (za8 (w.heap.size+2) 256 _ _ _ _ _ _ _ _ _ B.drew.mc.own (by have:=B.drew.mc.lt;omega) (by omega) (by have:=aj.out;have:=S.1;simp only [qT];omega)).mono ?_;rintro t bV ⟨ar,au,k8,a2,rfl,br⟩;have a:=B.drew.call br;have bs:=Z a;obtain ⟨⟨k,s,j⟩,l,m,n⟩:=a.mm.cells;have bt:=a.xat b (by omega);rw [z] at bt;clear a d e f g h i))
    all_goals
     have C:=Z bs.store
     (try go_simp)
     go_wp2_with fail;go_meet;exact ⟨ar,au,k8,a2,_,rfl,C,Z ⟨by rw [qT],by rw [y7,if_neg (by decide)]⟩⟩
   case rest=>
   obtain ⟨ar,au,k8,a2,bW,rfl,C,a3⟩:=hcut;clear d e f g h i;obtain ⟨⟨d,e,f⟩,g,h,i⟩:=C.mc.cells;go_wp2_with (at_builtin;obtain ⟨bX,a4⟩:=C.outs;refine yS rfl _ _ 24 rfl 3 _ 1 8 underlying24 qD rfl (by decide) #[_] _ _ _ _ a4 rfl rfl rfl (by intro bY a5;simp at a5;subst a5;rfl) (by have:=C.mc.lt;omega) (by omega) (by unfold maxLen;omega) ?_;intro bZ b0 av a6 a7;go_must (obtain ⟨bu,bv,rfl,b1,b2⟩:=av.form (by omega);obtain ⟨aw,bw⟩:∃aw,(some ⟨bu,0,none⟩:Option Addr)=aw:=⟨_,rfl⟩;have a:=C.add a6 av rfl a7;rw [bw] at a ⊢;have a8:=Z a;obtain ⟨⟨k,s,j⟩,l,m,n⟩:=a.mc.cells;clear av a6 a4 a a7 d e f g h i));have bx:=Z a8.store;clear k s j l m n a8;go_roundg (64-(b+1))
   case measure=>omega
   case rel=>exact ⟨b+1,_,ar,au,k8,aw,bv,_,by omega,rfl,by go_num,rfl,bx,Z ⟨by have ax:=a3.1;have bz:=S.1;simp only [qT] at ax;have:=G.1;omega,by have ax:=a3.2;have bz:=S.2;rw [y7,if_pos rfl] at ax;have:=G.2;omega⟩⟩
  ·obtain rfl:b=64:=by omega
   obtain ⟨⟨d,e,f⟩,g,h,i⟩:=o.mc.cells;obtain ⟨⟨k,s,j⟩,l,m,n⟩:=o.mc.rcells;go_wp2_with fail;obtain ⟨bA,bB,bC⟩:=o.mc.result;refine bodyPost_ret (results_cell_row rfl _ _ w.heap.size 198 #[_,_,_] _ _ rfl bA underlying198 rfl QM) rfl ?_;exact ⟨_,_,_,_,_,_,_,_,rfl,bB,⟨by have:=G.2;omega,by have:=G.1;omega⟩,bC⟩
theorem zkF (n:Int)(l:Value)(e:Option Addr)(on f:Nat)(a:List Gate)(w:World)(m:Arr w.heap.size w 3 l a.length (yT a))(G:a.length≤100000):
  Calls prog 92 #[.agg #[.int .i64 n,l,.slice e on f]] w fun t u=>t= .returned (.int .i64 (yw a:Nat))∧Below w.heap.size w u:=by
 obtain ⟨g,h,rfl,H,v,x,o⟩:=m.open;have y:=Z o;have p:=Z (heap_alloc_new w (.cells #[.int .i64 n,.slice g a.length h,.slice e on f] 198));have i:=(Below.refl w.heap.size w).alloc (Nat.le_refl _) (.cells #[.int .i64 n,.slice g a.length h,.slice e on f] 198);clear o x m v;go_enter func92,ntmps92;go_upto_region 1 with fail;generalize w.alloc _=q at p i ⊢;have I:q.cell? ⟨w.heap.size,1,none⟩=some (.slice g a.length h):=by simp [World.cell?,p.out]
 go_wp2_with fail;go_loopg [3,4] a.length (fun c z A wr=>∃b:Nat,b≤a.length∧c=a.length-b∧A= .int .i64 b∧z= .int .i64 (yw (a.take b):Nat)∧wr=q)
 case atStart=>exact ⟨0,Nat.zero_le _,rfl,rfl,rfl,rfl⟩
 case round=>
  obtain ⟨b,J,K,rfl,rfl,rfl⟩:=hrel;have B:=zgj (a.take b);rw [List.length_take] at B
  by_cases r:b<a.length
  ·obtain ⟨C,D,rfl,E,s⟩:=y.out (by omega)
   have F:wr.cell? ⟨C,D+b * 3,none⟩=some (.int .i64 a[b].k):=by
    have:=zbY a b 0 r (by omega);rw [i.cell E];exact (s (b * 3) (by omega)).trans this
   have j:=Z (zfu a b r);generalize a[b]=c at F j;clear s
   by_cases d:c.k=2
   ·have k:(c.k==2)=true:=by simpa using d
    clear d;go_wp2_with fail
    first | (go_quiet (fail)) | skip
    go_wp2_with fail;go_roundg (a.length-(b+1))
    case measure=>omega
    case rel=>exact ⟨b+1,by omega,rfl,by go_num,by rw [j.out,k];go_num,rfl⟩
   ·have k:(c.k==2)=false:=by simpa using d
    clear d;go_wp2_with fail
    first | (go_quiet (fail)) | skip
    go_wp2_with fail;go_roundg (a.length-(b+1))
    case measure=>omega
    case rel=>exact ⟨b+1,by omega,rfl,by go_num,by rw [j.out,k];rfl,rfl⟩
  ·obtain rfl:b=a.length:=by omega
   go_wp2_with fail;go_ret;exact ⟨by rw [List.take_length];rfl,i⟩
def zcJ (k:Int)(c:Nat):Nat:=if k=1 then yi ((c:Int)%2==1)+63 else yi ((c:Int)%2==1)+yi ((c:Int) / 2%2==1)+(if k=2 then 64 else 128)
theorem zlk (k:Int)(c:Nat)(w:World)(a:yN k c=true):Calls prog 93 #[.int .i64 k,.int .u64 c] w (zka w (zcJ k c)):=by
 rcases YC a with ⟨rfl,_⟩ | ⟨rfl | rfl,_⟩
 ·exact zor c w a
 ·exact zos c w a
 ·exact zot c w a
theorem zdE (o:MOp)(w:World)(a:yN o.k o.c=true):Calls prog 56 #[.agg o.arr] w (qM (.int .i64 (zcJ o.k o.c:Nat)) w):=by
 obtain ⟨s,t,u,h,i,v⟩:=o;simp only [MOp.arr];simp only at a;have j:=Z a;clear a;go_enter func56,ntmps56;go_wp2_with (first | (go_at_call 93;go_must (refine (zlk h i _ j).mono ?_;rintro k x ⟨l,y,z,A,m,on,n,p,rfl,b,c,d⟩;have e:=Z c;have q:=Z b;have f:=Z d;clear c b d)) | (go_at_call 92;go_must (refine (zkF l _ m on n p _ (Arr.of_owns q) (by have:=e.2;omega)).mono ?_;rw [e.1];rintro k B ⟨rfl,g⟩;have r:=Z g;clear g)));go_ret;exact ⟨rfl,((Below.refl _ _).alloc (Nat.le_refl _) _).trans ((f.mono (by simp)).trans (r.mono (by have:=f.size;simp at this;omega)))⟩
end Go.Proofs.YtklofgfkaaoipaaGreatDoor
namespace Go.Proofs.YtklofgfkaaoipaaGreatDoor
open Go.Proofs.Tryz
theorem zd6:yw []=0:=rfl
theorem Q0 (d:Nat)(k a b:Int)(c:List Gate):yw (gt d k a b c).2=yw c+if k=2 then 1 else 0:=y7 _ _ _ _
theorem zaZ (e:Nat)(a b c:Int)(d:List Gate):yw (YR e a b c d).2=yw d+1:=by
 simp only [YR,Q0];simp
theorem zj9 (d:Nat)(a b:List Int)(c:List Gate)(k:Nat):yw (QD d a b c k).2=yw c:=by
 induction k with
 |zero=>rfl
 |succ k ih=>simp only [QD,Q0,ih];simp
theorem ziL (d:Nat)(a b:List Int)(c:List Gate)(n:Nat):yw (qX d a b c n).2.2=yw c+1+min n 62:=by
 induction n with
 |zero=>simp only [qX,Q0];simp
 |succ n ih=>
  simp only [qX]
  split
  ·simp only [zaZ,Q0,ih];simp;omega
  ·simp only [Q0,ih];simp;omega
theorem Z7 (c:Nat)(a:Bool)(i:Int)(b:List Gate):yw (Za c a i b).2=yw b+yi a:=by
 unfold Za yi;cases a
 ·simp only [Bool.false_eq_true,if_false,ziL];omega
 ·simp only [if_true,zj9];omega
theorem zhN (d:Nat)(a b:List Int)(c:List Gate)(n:Nat):yw (Qj d a b c n).2=yw c+1+n:=by
 induction n with
 |zero=>simp only [Qj,Q0];simp
 |succ n ih=>simp only [Qj,zaZ,Q0,ih];simp;omega
theorem zeB (d:Nat)(a b:List Int)(c:List Gate):yw (ZY d a b c).2=yw c+64:=by
 simp only [ZY,zaZ,Q0,zhN];simp
theorem zid (d:Nat)(s:Int)(a b:List Int)(c:List Gate)(k:Nat):yw (Yc d s a b c k).2=yw c+k:=by
 induction k with
 |zero=>rfl
 |succ k ih=>simp only [Yc,zic,Q0,ih];simp;omega
theorem zil (b:Nat)(s:Int)(x:List Int)(a:List Gate)(k:Nat):yw (YX b s x a k).2=yw a+k:=by
 induction k with
 |zero=>rfl
 |succ k ih=>simp only [YX,Q0,ih];simp;omega
theorem zji (a f:Nat):yw (zM a f).2.1=if a=1 then yi (f / 2^0%2==1)+63 else yi (f / 2^0%2==1)+yi (f / 2^1%2==1)+(if a=2 then 64 else 128):=by
 unfold zM
 split
 ·simp only [zil,Q0,Zb,Z7,zd6];simp
 ·split
  ·simp only [zeB,Q0,Zb,Z7,zd6];simp
  ·simp only [zid,zeB,Q0,Zb,Z7,zd6];simp
theorem zdw (o:MOp)(a:yN o.k o.c=true):zae o=(zcJ o.k o.c:Nat):=by
 unfold zae;rw [zji];generalize o.k=k,o.c=b at a ⊢;rcases YC a with ⟨rfl,rfl | rfl⟩ | ⟨rfl | rfl,rfl | rfl | rfl | rfl⟩<;>decide
theorem zi9 (o:MOp)(a:yN o.k o.c=true):zbk o=128 * yj o.k:=by
 unfold zbk yj zM;generalize o.k=k,o.c=b at a ⊢;rcases YC a with ⟨rfl,_⟩ | ⟨rfl | rfl,_⟩<;>rfl
end Go.Proofs.YtklofgfkaaoipaaGreatDoor
namespace Go.Proofs.YtklofgfkaaoipaaGreatDoor
open Go.RowKit Go.Proofs.Tryz
variable {w W A:World}{n m:MNeed}{u:Value}{h:List Int}{B:Nat}{o:MOp}{s:Int×Int}
theorem zgM (n:MNeed)(o:MOp)(x:Int):qU {n with rounds:=x} o={qU n o with rounds:=x}:=by
 unfold qU
 repeat' split
 all_goals rfl
theorem zeK:∀(a:List MOp) (b:MNeed) (c:Int),zi a {b with rounds:=c}={zi a b with rounds:=c}
 |[],_,_=>rfl
 |d::a,b,c=>by rw [zi,zi,zgM,zeK a]
structure NQ (w:World)(n:MNeed)(u:Value)(rl:List Int)(W:World):Prop where
 st:NSt w n W
 own:W.ownsRow (w.heap.size+2) 3 1 u rl.length (ints rl)
theorem NQ.later (a:NQ w n u h W)(b:Below W.heap.size W A):NQ w n u h A:=⟨a.st.later b,Below.owns a.own b⟩
theorem NQ.set (a:NQ w n u h W)(j:Nat)(v:Value)(b:n.arr.setIfInBounds j v=m.arr):NQ w m u h (W.setCell ⟨w.heap.size+1,j,none⟩ v):=
 ⟨a.st.set j v b,zu a.own fun c d=>qe (fun e=>by have:=(a.own.lt c d).1;omega) _⟩
theorem NQ.drew (a:NQ w n u h W):NQ w n u h W.drew:=⟨a.st.drew,a.own⟩
theorem NQ.drewN (a:NQ w n u h W)(i:Nat):NQ w n u h (W.drewN i):=⟨⟨a.st.res,a.st.need,qC a.st.below i⟩,a.own⟩
structure NO (w:World)(n:MNeed)(u:Value)(rl:List Int)(B:Nat)(o:MOp)(W:World):Prop where
 nq:NQ w n u rl W
 op:W.heap[B]? =some (.cells o.arr 61 (0,0))
 lt:w.heap.size+1<B
theorem NO.start (a:NQ w n u h W)(o:MOp):NO w n u h W.heap.size o (W.alloc (.cells o.arr 61)):=⟨a.later ((Below.refl _ _).alloc (Nat.le_refl _) _),heap_alloc_new _ _,a.st.size⟩
theorem NO.later (a:NO w n u h B o W)(b:Below W.heap.size W A):NO w n u h B o A:=⟨a.nq.later b,(b.block _ (lt_of_block a.op)).trans a.op,a.lt⟩
theorem NO.set (a:NO w n u h B o W)(j:Nat)(v:Value)(b:n.arr.setIfInBounds j v=m.arr):NO w m u h B o (W.setCell ⟨w.heap.size+1,j,none⟩ v):=
 ⟨a.nq.set j v b,(qe (by have:=a.lt;omega) _).trans a.op,a.lt⟩
theorem NO.drew (a:NO w n u h B o W):NO w n u h B o W.drew:=⟨a.nq.drew,a.op,a.lt⟩
theorem NO.drewN (a:NO w n u h B o W)(i:Nat):NO w n u h B o (W.drewN i):=⟨a.nq.drewN i,a.op,a.lt⟩
theorem zeV (k:Int)(c:Nat):zcJ k c≤1000:=by
 have a:∀b,yi b≤63:=by intro b;unfold yi;split<;>omega
 have d:=a ((c:Int)%2==1);have e:=a ((c:Int) / 2%2==1);unfold zcJ
 split
 ·omega
 ·split<;>omega
def zdv (l:List MOp):Int:=if 0<ZV l then 2 else 0
def zn2 (w:World)(ops:List MOp)(u:Value)(c:List Int)(g:Nat)(x i:Value)(wr:World):Prop:=
 ∃(a:Nat) (b:MNeed),a≤ops.length∧g=ops.length-a∧i= .int .i64 a∧x= .int .i64 (zdv (ops.take a))∧Hid (NQ w {b with rounds:=zG (c.take a)} u c wr)∧Hid (zi (ops.drop a) b=zi ops yG)∧Hid (b.small (10000 * a:Nat))
theorem zn2.next {ops:List MOp}{k:Nat}{x a:Int}(b:k<ops.length)(c:ops[k]=o)(e:Hid (zi (ops.drop k) n=zi ops yG))(f:Hid (n.small (10000 * k:Nat)))
  (g:(qq o 65536 65536).2=true) (d:qU n o=m) (i:x=if o.kind=17 then 2 else zdv (ops.take k)) (j:zG (h.take (k+1))=a) (l:NQ w {m with rounds:=a} u h W):zn2 w ops u h (ops.length-(k+1)) (.int .i64 x) (.int .i64 ((k:Int)+1)) W:=by
 refine ⟨k+1,m,by omega,rfl,by go_num,?_,by rw [j];exact l,?_,?_⟩
 ·rw [i]
  unfold zdv;have p:=zhE (ops.take k);rw [zeo ops k b,c]
  split
  ·rw [if_pos (by omega)]
  ·rw [Int.add_zero]
 ·unfold Hid;rw [←e.out,List.drop_eq_getElem_cons b,c,zi,d]
 ·have:=ZH f o g
  rw [d] at this;rw [show 10000 * (k+1)=10000 * k+10000 by omega];exact this
theorem zdJ (v:Value)(ops:List MOp)(w:World)(B:qK ops 65536 65536=true)(ak:Arr w.heap.size w 6 v ops.length (qz ops)):
  Calls prog 28 #[v] w (qM (.agg (zy ops).arr) w):=by
 have bI:ops.length≤16384:=by simp only [qK,Bool.and_eq_true,decide_eq_true_eq] at B;exact B.1.2
 have S:=zQ B;have aF:=YF ops;have al:=QP ops;rw [if_pos B] at al;obtain ⟨ab,am⟩:∃ab,zy ops=ab:=⟨_,rfl⟩;rw [am];have aG:ab=if 0<ZV ops then {zi ops {yG with rounds:=zG (qw ops)} with t0:=(zi ops {yG with rounds:=zG (qw ops)}).t0+2} else zi ops {yG with rounds:=zG (qw ops)}:=by
  rw [←am,zy,if_pos B]
 obtain ⟨bJ,bK,rfl,bL,an,ao,ac⟩:=ak.open;have a2:=Z ak;have a3:=Z B;have a4:=Z ac;have a5:=Z S;have aH:=Z aF;have a6:=Z al;have a7:=Z aG;clear ak B ao an ac S aF al am aG;have aI:=Z (show NSt w yG ((w.alloc (.cells yG.arr 26)).alloc (.cells yG.arr 26)) from ⟨heap_alloc2_old _ _ _,heap_alloc2_new _ _ _,qm _ _ _⟩);simp only [MNeed.arr,yG] at aI;obtain ⟨e,S⟩:∃e,qw ops=e:=⟨_,rfl⟩;have T:=Z S;clear S;go_enter func28,ntmps28;go_upto_region 5 with ((go_at_call 25;go_must (refine (zbJ _ ops _ a3 (a2.later' (qm _ _ _))).mono ?_;rw [T.out];rintro aJ a8 ⟨ad,rfl,aK,aL⟩;have a9:=Z (show NQ w yG ad e a8 from ⟨aI.later aL,qk aK (by simp)⟩);clear aL aK)));have aM:e.length=ops.length:=by rw [←T.out,a6.out]
 have aN:=Z aM;clear aM;go_loopg [5,6] ops.length (fun ba ap bb wr=>zn2 w ops ad e ba ap bb wr)
 case atStart=>exact ⟨0,yG,Nat.zero_le _,rfl,rfl,rfl,a9,Z rfl,by simp [Hid,MNeed.small,yG]⟩
 case round=>
  obtain ⟨c,a,bM,bN,rfl,rfl,C,aO,aq⟩:=hrel
  by_cases ar:c<ops.length
  ·obtain ⟨bO,bP,rfl,bc,aP⟩:=a4.out (by omega)
   obtain ⟨k,U,V,W,X,D⟩:=y8 aP C.st.below bc rfl c ar;have p:=Z (fun (b:MOp) (bd:ops[c]=b) (aQ:MNeed) (I:World) (ap h:Int) (be:(qq b 65536 65536).2=true) (an:qU a b=aQ) (ao:ap=if b.kind=17 then 2 else zdv (ops.take c)) (ae:zG (e.take (c+1))=h) (au:NQ w {aQ with rounds:=h} ad e I)=>
    zn2.next (u:=ad) ar bd aO aq be an ao ae au)
   have m:=Z (a5 c ar);obtain ⟨b,av⟩:∃b,ops[c]=b:=⟨_,rfl⟩;rw [av] at k U V W X D m;have r:=Z av;obtain ⟨n,E⟩:∃n,zdv (ops.take c)=n:=⟨_,rfl⟩;rw [E] at p ⊢;have aw:c<e.length:=by have:=aN.out;omega
   have af:=Z (show zG (e.take (c+1))=max (zG (e.take c)) e[c] by rw [List.take_succ_eq_append_getElem aw,zeE]);have aR:=aH.out e[c] (by rw [T.out];exact List.getElem_mem _);have aS:=zeF (n:=(2 * ops.length:Nat)) (l:=e.take c) (fun j ac=>aH.out j (by rw [T.out];exact List.mem_of_mem_take ac)) (by omega);have aT:=C.own;obtain ⟨ax,aU,rfl,bQ,bR⟩:=aT.form (by omega);have ay:∀I:World,I.ownsRow (w.heap.size+2) 3 1 (.slice (some ⟨ax,0,none⟩) e.length aU) e.length (ints e)→I.cell? ⟨ax,c,none⟩=some (.int .i64 e[c]):=fun I au=>by
    have:=Q3 au c aw;simpa [List.getD,aw] using this
   generalize e[c]=j at aR af ay;have az:=Z ay;clear aP av E aT ay;have bS:(0:Int)≤(c:Int):=by omega
   have bT:(c:Int)<(ops.length:Int):=by omega
   have bU:(c:Int)<(e.length:Int):=by omega
   have F:=Z (show NO w _ _ e wr.heap.size b (wr.alloc (.cells #[.int .i64 b.kind,.int .i64 b.a,.int .i64 b.b,.int .i64 b.k,.int .u64 b.c,.int .i64 b.party] 61)) from NO.start C b);go_upto_region 8 with fail;generalize wr.alloc (.cells #[.int .i64 b.kind,.int .i64 b.a,.int .i64 b.b,.int .i64 b.k,.int .u64 b.c,.int .i64 b.party] 61)=aV at F ⊢;generalize bf:wr.heap.size=bg at F ⊢;clear k U V W X D bf;obtain ⟨h,ae⟩:∃h,zG (e.take c)=h:=⟨_,rfl⟩;rw [ae] at F af aS;clear ae;obtain ⟨⟨s,t,u,x,y,o,z,A⟩,J,K,L,M,N,O,P,Q⟩:=zC F.nq.st.need;have aW:=az.out aV F.nq.own;simp only at o;go_quiet (fail);rename Nat=>nq
   have R:=Z (F.drewN nq);clear s t u x y o z A J K L M N O P Q aW F;generalize aV.drewN nq=bh at R ⊢;go_upto_if 28 with fail;go_cut [] from 22 to 33 (fun bi=>Hid (NO w {a with rounds:=max h j} (.slice (some ⟨ax,0,none⟩) e.length aU) e bg b bi))
   case first=>
    obtain ⟨⟨s,t,u,x,y,o,z,A⟩,J,K,L,M,N,O,P,Q⟩:=zC R.nq.st.need;have aW:=az.out bh R.nq.own;simp only at o
    by_cases aX:h<j
    ·have bj:decide (h<j)=true:=by simpa using aX
     have aA:=Z (show max h j=j by omega);go_wp2_with fail;go_meet;rw [aA.out];exact Z (R.set (m:={a with rounds:=j}) 5 (.int .i64 j) rfl)
    ·have bj:decide (h<j)=false:=by simpa using aX
     have aA:=Z (show max h j=h by omega);go_wp2_with fail;go_meet;rw [aA.out];exact R
   case rest=>
    have bk:=hcut;have q:=Z (show zG (e.take (c+1))=max h j from af);obtain ⟨d,aY⟩:∃d,max h j=d:=⟨_,rfl⟩;rw [aY] at hcut q;clear af bk aY aR aS R az;obtain ⟨k,U,V,W,X,D⟩:=Yw hcut.op;obtain ⟨⟨s,t,u,x,y,o,z,A⟩,J,K,L,M,N,O,P,Q⟩:=zC hcut.nq.st.need;simp only at s t u x y o z A;obtain ⟨⟨bl,bm⟩,⟨bn,bo⟩,⟨bp,bq⟩,⟨br,bs⟩,⟨bt,bu⟩,⟨bv,bw⟩,⟨bx,bz⟩⟩:=aq.out
    by_cases k1:b.kind=1
    ·rcases zg9 m k1 with G | G
     ·have i:=Z k1
      have aB:=Z G;rw [k1] at k;rw [G] at D;clear k1 G;go_wp2_with fail;go_roundg (ops.length-(c+1))
      case measure=>omega
      case rel=>
       go_light;have g:=i.out;exact p b r {a with t0:=a.t0+1,w0:=a.w0+1} _ _ d m (zcC a b g aB) (by rw [if_neg (by omega)]) q (NQ.set (m:={a with t0:=a.t0+1,w0:=a.w0+1,rounds:=d}) (NQ.set (m:={a with t0:=a.t0+1,rounds:=d}) hcut.nq 3 (.int .i64 (a.t0+1)) rfl) 6 (.int .i64 (a.w0+1)) rfl)
     ·have i:=Z k1
      have aB:=Z G;rw [k1] at k;rw [G] at D;clear k1 G;go_wp2_with fail;go_roundg (ops.length-(c+1))
      case measure=>omega
      case rel=>
       go_light;have g:=i.out;exact p b r {a with t1:=a.t1+1,w1:=a.w1+1} _ _ d m (zcD a b g aB) (by rw [if_neg (by omega)]) q (NQ.set (m:={a with t1:=a.t1+1,w1:=a.w1+1,rounds:=d}) (NQ.set (m:={a with t1:=a.t1+1,rounds:=d}) hcut.nq 4 (.int .i64 (a.t1+1)) rfl) 7 (.int .i64 (a.w1+1)) rfl)
    by_cases k6:b.kind=6
    ·have i:=Z k6
     rw [k6] at k;clear k6 k1;go_wp2_with fail;go_roundg (ops.length-(c+1))
     case measure=>omega
     case rel=>
      go_light;have g:=i.out;exact p b r {a with tri:=a.tri+1,w0:=a.w0+2,w1:=a.w1+2} _ _ d m (zb4 a b g) (by rw [if_neg (by omega)]) q (NQ.set (m:={a with tri:=a.tri+1,w0:=a.w0+2,w1:=a.w1+2,rounds:=d}) (NQ.set (m:={a with tri:=a.tri+1,w0:=a.w0+2,rounds:=d}) (NQ.set (m:={a with tri:=a.tri+1,rounds:=d}) hcut.nq 0 (.int .i64 (a.tri+1)) rfl) 6 (.int .i64 (a.w0+2)) rfl) 7 (.int .i64 (a.w1+2)) rfl)
    by_cases k9:b.kind=9
    ·have i:=Z k9
     rw [k9] at k;clear k9 k1;go_wp2_with fail;go_roundg (ops.length-(c+1))
     case measure=>omega
     case rel=>
      go_light;have g:=i.out;exact p b r {a with bits:=a.bits+1,w0:=a.w0+2,w1:=a.w1+2} _ _ d m (zb5 a b g) (by rw [if_neg (by omega)]) q (NQ.set (m:={a with bits:=a.bits+1,w0:=a.w0+2,w1:=a.w1+2,rounds:=d}) (NQ.set (m:={a with bits:=a.bits+1,w0:=a.w0+2,rounds:=d}) (NQ.set (m:={a with bits:=a.bits+1,rounds:=d}) hcut.nq 1 (.int .i64 (a.bits+1)) rfl) 6 (.int .i64 (a.w0+2)) rfl) 7 (.int .i64 (a.w1+2)) rfl)
    by_cases k18:b.kind=18
    ·have i:=Z k18
     rw [k18] at k;clear k18 k1;go_wp2_with fail;go_roundg (ops.length-(c+1))
     case measure=>omega
     case rel=>
      go_light;have g:=i.out;exact p b r {a with w0:=a.w0+1,w1:=a.w1+1} _ _ d m (Q4 a b (.inl g)) (by rw [if_neg (by omega)]) q (NQ.set (m:={a with w0:=a.w0+1,w1:=a.w1+1,rounds:=d}) (NQ.set (m:={a with w0:=a.w0+1,rounds:=d}) hcut.nq 6 (.int .i64 (a.w0+1)) rfl) 7 (.int .i64 (a.w1+1)) rfl)
    by_cases k19:b.kind=19
    ·have i:=Z k19
     rw [k19] at k;clear k19 k1;go_wp2_with fail;go_roundg (ops.length-(c+1))
     case measure=>omega
     case rel=>
      go_light;have g:=i.out;exact p b r {a with w0:=a.w0+1,w1:=a.w1+1} _ _ d m (Q4 a b (.inr g)) (by rw [if_neg (by omega)]) q (NQ.set (m:={a with w0:=a.w0+1,w1:=a.w1+1,rounds:=d}) (NQ.set (m:={a with w0:=a.w0+1,rounds:=d}) hcut.nq 6 (.int .i64 (a.w0+1)) rfl) 7 (.int .i64 (a.w1+1)) rfl)
    by_cases k17:b.kind=17
    ·have Y:=ZA m k17
     have bA:=Zd b.k;have bB:=Z Y;have i:=Z k17;obtain ⟨f,ag⟩:∃f,yj b.k=f:=⟨_,rfl⟩;obtain ⟨H,ah⟩:∃H,zcJ b.k b.c=H:=⟨_,rfl⟩;have bV:H≤1000:=by rw [←ah];exact zeV _ _
     have aZ:=Z (show qU a b={a with ots:=a.ots+64 * f,t0:=a.t0+256 * f,w0:=a.w0+2 * (64 * f+128 * f+2 * (H:Int)),w1:=a.w1+f} by
      rw [za3 a b k17,zi9 b Y,zdw b Y,ag,ah];simp only [MNeed.mk.injEq,true_and,and_true];omega)
     have bC:=Z (show Qe b.k b.c=f by unfold Qe;rw [if_pos Y,←ag];rfl);have bD:=Z ah;rw [ag] at bA;rw [k17] at k;clear k17 k1 k6 k9 k18 k19 ag ah Y;go_upto_region 26 with (go_at_call 59;go_must (refine (QB _ _ _).mono ?_;rw [bC.out];rintro aJ bW ⟨rfl,rfl⟩));have aa:=NO.set (m:={a with ots:=a.ots+64 * f,t0:=a.t0+256 * f,rounds:=d}) (NO.set (m:={a with ots:=a.ots+64 * f,rounds:=d}) hcut 2 (.int .i64 (a.ots+64 * f)) rfl) 3 (.int .i64 (a.t0+256 * f)) rfl;clear s t u x y o z A J K L M N O P Q k U V W X D;generalize World.setCell (World.setCell _ ⟨w.heap.size+1,2,none⟩ (.int .i64 (a.ots+64 * f))) ⟨w.heap.size+1,3,none⟩ (.int .i64 (a.t0+256 * f))=I at aa ⊢;obtain ⟨k,U,V,W,X,D⟩:=Yw aa.op;obtain ⟨⟨s,t,u,x,y,o,z,A⟩,J,K,L,M,N,O,P,Q⟩:=zC aa.nq.st.need;simp only at s t u x y o z A;have bE:=Z aa;clear aa hcut;go_region_with (go_at_call 56;go_must (refine (zdE b _ bB).mono ?_;rw [bD.out];unfold qM;rintro aJ bX ⟨rfl,ai⟩;(try replace ai:=Below.undrew ai);have aC:=bE.later ai;obtain ⟨⟨bY,bZ,b0,b1,b2,b3,b4,b5⟩,b6,b7,b8,b9,ca,cb,cc,cd⟩:=zC aC.nq.st.need;have bF:=Z aC;clear aC ai))
     all_goals
      go_wp2_with fail;go_roundg (ops.length-(c+1))
      case measure=>omega
      case rel=>
       go_light;have g:=i.out;have a0:=NQ.set (m:={a with ots:=a.ots+64 * f,t0:=a.t0+256 * f,w0:=a.w0+2 * (64 * f+128 * f+2 * (H:Int)),w1:=a.w1+f,rounds:=d}) (NQ.set (m:={a with ots:=a.ots+64 * f,t0:=a.t0+256 * f,w0:=a.w0+2 * (64 * f+128 * f+2 * (H:Int)),rounds:=d}) bF.nq 6 (.int .i64 (a.w0+2 * (64 * f+128 * f+2 * (H:Int)))) rfl) 7 (.int .i64 (a.w1+f)) rfl
       first
       |exact p b r _ _ _ d m aZ (by rw [if_pos g]) q a0
       |exact p b r _ _ _ d m aZ (by rw [if_pos g]) q a0.drew
    have i:=Z (show ¬b.kind=1∧¬b.kind=6∧¬b.kind=9∧¬b.kind=18∧¬b.kind=19∧¬b.kind=17 from ⟨k1,k6,k9,k18,k19,k17⟩);have ce:(b.kind==1)=false:=by simpa using k1
    have cf:(b.kind==6)=false:=by simpa using k6
    have cg:(b.kind==9)=false:=by simpa using k9
    have ch:(b.kind==18)=false:=by simpa using k18
    have ci:(b.kind==19)=false:=by simpa using k19
    have cj:(b.kind==17)=false:=by simpa using k17
    clear k1 k6 k9 k18 k19 k17;go_wp2_with fail;go_roundg (ops.length-(c+1))
    case measure=>omega
    case rel=>
     go_light;have g:=i.out;exact p b r a _ _ d m (zeL a b g.1 g.2.1 g.2.2.1 g.2.2.2.1 g.2.2.2.2.1 g.2.2.2.2.2) (by rw [if_neg (by omega)]) q hcut.nq
  ·obtain rfl:c=ops.length:=by omega
   rw [List.take_length] at *;have aD:=aO.out;rw [List.drop_length,zi] at aD;rw [show e.take ops.length=e by rw [←aN.out,List.take_length]] at C;have aj:=a7.out;rw [zeK,←aD,T.out] at aj;generalize zG e=h at C aj;have bG:=Z aj;clear aD aj;obtain ⟨⟨s,t,u,x,y,o,z,A⟩,J,K,L,M,N,O,P,Q⟩:=zC C.st.need;simp only at s t u x y o z A;obtain ⟨⟨bl,bm⟩,⟨bn,bo⟩,⟨bp,bq⟩,⟨br,bs⟩,⟨bt,bu⟩,⟨bv,bw⟩,⟨bx,bz⟩⟩:=aq.out;obtain ⟨n,E⟩:∃n,zdv ops=n:=⟨_,rfl⟩;have ck:0≤n∧n≤2:=by rw [←E];unfold zdv;split<;>omega
   have bH:=Z (show ab={a with t0:=a.t0+n,rounds:=h} by
    rw [bG.out,←E];unfold zdv
    split
    ·rfl
    ·simp)
   rw [E];clear E;have a1:=NSt.set (m:={a with t0:=a.t0+n,rounds:=h}) C.st 3 (.int .i64 (a.t0+n)) rfl;have aE:=Z a1;clear a1;go_wp2_with ((with_reducible show wpList _ _ _ (⟨_,Op.store _ (.tmp 2) _,_,_,_,_⟩::_) _ _);go_must (refine wpList_store_row rfl 26 _ _ rfl w.heap.size (MNeed.arr {a with t0:=a.t0+n,rounds:=h}) rfl rfl 26 yG.arr aE.res Yq rfl (by simp [Value.oneCell',MNeed.arr]) ?_));exact bodyPost_ret (results_cell_row rfl _ _ w.heap.size 26 (MNeed.arr {a with t0:=a.t0+n,rounds:=h}) _ _ rfl (setRow_heap _ _ _ _ _ _ aE.res) underlying26 rfl Yq) rfl ⟨by rw [bH.out],below_setRow aE.below (Nat.le_refl _) _⟩
def zba (o:MOp):List Int:=if o.k=1 then [o.a] else [o.a,o.b]
theorem zdU (o:MOp)(w:World):Calls prog 55 #[.agg o.arr] w (qY (zba o) w):=by
 obtain ⟨c,d,e,b,f,g⟩:=o;unfold zba;simp only [MOp.arr]
 by_cases a:b=1
 ·subst a
  rw [if_pos rfl];go_enter func55,ntmps55;go_wp2_with fail;go_ret;exact zdg _ _ _
 ·rw [if_neg a]
  have h:(b==1)=false:=by simpa using a
  clear a;go_enter func55,ntmps55;go_wp2_with fail;go_ret;exact YY _ _ _ _
def yx (o:MOp)(y r:Int)(s:Int×Int):Int×Int:=
 if o.kind=17 then (if y=r+1 then (s.1,s.2+yj o.k) else if y=r then (s.1+2 * (192 * yj o.k+2 * (zcJ o.k o.c:Nat)),s.2) else s)
 else if y≠r then s
 else if o.kind=1 then (if o.party=0 then (s.1+1,s.2) else (s.1,s.2+1))
 else if o.kind=6∨o.kind=9 then (s.1+2,s.2+2)
 else if o.kind=18∨o.kind=19 then (s.1+1,s.2+1) else s
def zal:List MOp→List Int→Int→Int×Int→Int×Int
 |c::d,e::f,b,a=>zal d f b (yx c e b a)
 |_,_,_,a=>a
theorem zf5 (a:List Int)(r:Int)(s:Int×Int):zal [] a r s=s:=by cases a<;>rfl
def zak (ops:List MOp)(a:List Int)(r:Int):Int×Int:=zal ops a r (0,0)
def Yb (ops:List MOp)(a:List Int):Nat→Int
 |0=>0
 |b+1=>max (Yb ops a b) (max (zak ops a b).1 (zak ops a b).2)
def zbG (a:List Int):Nat:=(a.getD (a.length-1) 0).toNat
def zf2 (ops:List MOp)(a:List Int):Int:=Yb ops a (zbG a+1)
def zU (s:Int×Int)(B:Int):Prop:=0≤s.1∧s.1≤B∧0≤s.2∧s.2≤B
theorem zbL {y r:Int}{B:Int}(a:zU s B):zU (yx o y r s) (B+5000):=by
 have b:=Zd o.k;have c:=zeV o.k o.c;unfold zU at *;unfold yx
 repeat' split
 all_goals first | omega | (simp only;omega)
theorem zdO:∀(b:List MOp) (e:List Int) (c:Int) (d:Int×Int) (a:Int),zU d a→zU (zal b e c d) (a+5000 * b.length)
 |[],e,c,d,a,f=>by cases e<;>simpa [zal] using f
 |g::b, [],c,d,a,f=>by
  unfold zU at *;simp only [zal,List.length_cons];omega
 |g::b,h::e,c,d,a,f=>by
  have:=zdO b e c (yx g h c d) (a+5000) (zbL f);rw [zal,List.length_cons,show a+5000 * ((b.length+1:Nat):Int)=a+5000+5000 * b.length by omega];exact this
theorem za9 (ops:List MOp)(a:List Int)(r:Int):zU (zak ops a r) (5000 * ops.length):=by
 have:=zdO ops a r (0,0) 0 (by simp [zU]);simpa [zak] using this
theorem zcz (ops:List MOp)(a:List Int)(r:Nat):0≤Yb ops a r∧Yb ops a r≤5000 * ops.length:=by
 induction r with
 |zero=>simp [Yb];omega
 |succ r ih=>
  have:=za9 ops a r;unfold zU at this;simp only [Yb];omega
structure SySt (w:World)(B:Nat)(s:Int×Int)(W:World):Prop where
 box:W.heap[B]? =some (.cells #[.int .i64 s.1,.int .i64 s.2] 23 (0,0))
 below:Below w.heap.size w W
 ge:w.heap.size≤B
theorem SySt.cells (a:SySt w B s W):(W.cell? ⟨B,0,none⟩=some (.int .i64 s.1)∧W.cell? ⟨B,1,none⟩=some (.int .i64 s.2))∧W.frozen? ⟨B,0,none⟩=false∧W.frozen? ⟨B,1,none⟩=false:=by
 have:=a.box;refine ⟨⟨?_,?_⟩,?_,?_⟩<;>simp [World.cell?,World.frozen?,this]
theorem SySt.later (a:SySt w B s W)(b:Below W.heap.size W A):SySt w B s A:=⟨(b.block _ (lt_of_block a.box)).trans a.box,a.below.trans (b.mono a.below.size),a.ge⟩
theorem SySt.set0 (a:SySt w B s W)(x:Int):SySt w B (x,s.2) (W.setCell ⟨B,0,none⟩ (.int .i64 x)):=⟨by have:=heap_setCell (j:=0) a.box (.int .i64 x);simpa using this,a.below.setCell a.ge _,a.ge⟩
theorem SySt.set1 (a:SySt w B s W)(x:Int):SySt w B (s.1,x) (W.setCell ⟨B,1,none⟩ (.int .i64 x)):=⟨by have:=heap_setCell (j:=1) a.box (.int .i64 x);simpa using this,a.below.setCell a.ge _,a.ge⟩
theorem SySt.drew (a:SySt w B s W):SySt w B s W.drew:=⟨a.box,a.below.drew,a.ge⟩
theorem SySt.start (a:Below w.heap.size w W):SySt w W.heap.size (0,0) (W.alloc (.cells #[.int .i64 0,.int .i64 0] 23)):=⟨heap_alloc_new _ _,a.alloc a.size _,a.size⟩
theorem zdI (v y:Value)(ops:List MOp)(e:List Int)(base:Nat)(w:World)(H:qK ops 65536 65536=true)(aa:qw ops=e)(aD:Arr w.heap.size w 6 v ops.length (qz ops))(aE:w.ownsRow base 3 1 y e.length (ints e)):
  Calls prog 26 #[v,y] w (qM (.int .i64 (zf2 ops e)) w):=by
 have bQ:ops.length≤16384:=by simp only [qK,Bool.and_eq_true,decide_eq_true_eq] at H;exact H.1.2
 have aF:e.length=ops.length:=by rw [←aa,QP,if_pos H]
 have ab:zaM (2 * ops.length:Nat) e:=by rw [←aa];exact YF ops
 have C:=zQ H;obtain ⟨bR,bS,rfl,bT,aZ,a0,I⟩:=aD.open;have a1:=Z I;have O:=Z aF;have a2:=Z ab;have a3:=Z C;have P:=Z aE;have a4:=ab.getD (by omega) (e.length-1);obtain ⟨i,ac⟩:∃i,zbG e=i:=⟨_,rfl⟩;have aG:e.getD (e.length-1) 0=(i:Int):=by rw [←ac];unfold zbG;omega
 have bU:i≤40000:=by omega
 obtain ⟨ad,ae⟩:∃ad,zf2 ops e=ad:=⟨_,rfl⟩;have aH:Yb ops e (i+1)=ad:=by rw [←ae,zf2,ac]
 rw [ae];have a5:=Z aH;have aI:=Z aG;clear aD a0 I aZ H aa aF ab C aE a4 ac aG ae aH;go_enter func26,ntmps26;go_upto_if 13 with fail;go_cut [6] from 11 to 19 (fun a6 a7=>a6= .int .i64 i∧a7=w)
 case first=>
  by_cases bV:0<ops.length
  ·have a8:decide ((0:Int)<(ops.length:Int))=true:=decide_eq_true (by omega)
   have a9:ops.length=e.length:=O.symm;obtain ⟨aJ,ba,rfl,aK,bb⟩:=P.form (by omega);have aL:=Q3 P (e.length-1) (by omega);rw [aI.out,O.out] at aL;have bW:(ops.length:Int)-1=((ops.length-1:Nat):Int):=by omega
   have bX:(0:Int)≤(ops.length:Int)-1:=by omega
   have bY:(ops.length:Int)-1<(e.length:Int):=by omega
   have bZ:((ops.length:Int)-1).toNat=ops.length-1:=by omega
   clear a9;go_wp2_with fail;go_meet;exact ⟨rfl,rfl⟩
  ·have a8:decide ((0:Int)<(ops.length:Int))=false:=decide_eq_false (by omega)
   have bc:=Z (show i=0 by
    have Q:e=[]:=List.length_eq_zero_iff.1 (by have:=O.out;omega);have R:=aI.out;rw [Q] at R;have b0:(0:Int)=i:=R;omega)
   go_wp2_with fail;go_meet;exact ⟨by rw [bc.out];rfl,rfl⟩
 case rest=>
  obtain ⟨rfl,aM⟩:=hcut;have bd:=aM.symm;subst bd;clear aM;go_wp2_with fail;go_loopg [5,7] (i+1) (fun af be bf wr=>∃a:Nat,a≤i+1∧af=i+1-a∧bf= .int .i64 a∧be= .int .i64 (Yb ops e a)∧Hid (Below w.heap.size w wr))
  case atStart=>exact ⟨0,Nat.zero_le _,rfl,rfl,rfl,Z (Below.refl _ _)⟩
  case round=>
   obtain ⟨a,b1,b2,rfl,rfl,ag⟩:=hrel;have bg:=zcz ops e a
   by_cases b3:a≤i
   ·have ah:=za9 ops e a
    have S:=Z (show Yb ops e (a+1)=max (Yb ops e a) (max (zak ops e a).1 (zak ops e a).2) from rfl);have D:=Z (show zal ops e a (0,0)=zak ops e a from rfl);generalize zak ops e a=aN at ah S D;obtain ⟨aO,aP⟩:∃aO,Yb ops e a=aO:=⟨_,rfl⟩;rw [aP] at bg S ⊢;clear aP;have bh:decide ((a:Int)≤(i:Int))=true:=by simp;omega
    have T:=Z (SySt.start ag);go_upto_region 9 with fail;generalize wr.alloc (.cells #[.int .i64 0,.int .i64 0] 23)=b4 at T ⊢;generalize wr.heap.size=aQ at T ⊢;clear ag;go_wp2_with fail;go_loopg [28] ops.length (fun af bi bj=>∃(b:Nat) (ai:Int×Int),b≤ops.length∧af=ops.length-b∧bi= .int .i64 b∧Hid (zal (ops.drop b) (e.drop b) a ai=aN)∧Hid (SySt w aQ ai bj)∧Hid (zU ai (5000 * b:Nat)))
    case atStart=>exact ⟨0,(0,0),Nat.zero_le _,rfl,rfl,D,T,Z (by simp [zU])⟩
    case round=>
     clear T D;obtain ⟨b,⟨d,c⟩,b5,bb,rfl,D,j,aR⟩:=hrel;obtain ⟨⟨bk,bl⟩,b6,b7⟩:=j.cells;simp only at bk bl;obtain ⟨bm,bn,bo,bp⟩:=aR.out;simp only at bm bn bo bp
     by_cases aj:b<ops.length
     ·obtain ⟨b8,b9,rfl,bq,I⟩:=a1.out (by omega)
      have U:=fun (J:World) (ak:Below w.heap.size w J)=>y8 I ak bq rfl b aj
      have al:b<e.length:=by have:=O.out;omega
      obtain ⟨aJ,ba,rfl,aK,br⟩:=P.form (by omega);have V:∀J:World,Below w.heap.size w J→J.cell? ⟨aJ,b,none⟩=some (.int .i64 e[b]):=fun J ak=>by
       have R:=Q3 (Below.owns P ak) b al;simpa [List.getD,al] using R
      have bs:=a2.out e[b] (List.getElem_mem _);have C:=a3.out b aj;have s:=D.out;rw [List.drop_eq_getElem_cons aj,List.drop_eq_getElem_cons al,zal] at s;generalize ops[b]=g at U C s;generalize e[b]=y at V bs s;obtain ⟨z,bt,bu,bv,bw,am⟩:=U wr j.below;have aL:=V wr j.below;have l:=Z (fun (K:Int×Int) (an:yx g y a (d,c)=K)=>(show zal (ops.drop (b+1)) (e.drop (b+1)) a K=aN from an▸s));have m:=Z (fun (K:Int×Int) (an:yx g y a (d,c)=K)=>(show zU K (5000 * (b+1):Nat) by
       have:=zbL (o:=g) (y:=y) (r:=a) aR;rw [an] at this;rw [show ((5000 * (b+1):Nat):Int)=((5000 * b:Nat):Int)+5000 by omega];exact this))
      have aS:=Z U;have ao:=Z V;have aT:=Z C;have ca:(0:Int)≤(b:Int):=by omega
      have cb:(b:Int)<(ops.length:Int):=by omega
      have cc:(b:Int)<(e.length:Int):=by omega
      clear U V s C I aK br
      by_cases k17:g.kind=17
      ·obtain ⟨cd,t,u,n,q,x⟩:=g
       simp only at k17;subst k17;simp only at z bt bu bv bw am;have ap:=ZA aT rfl;simp only at ap;have bx:=Zd n;obtain ⟨W,A⟩:∃W,yj n=W:=⟨_,rfl⟩;obtain ⟨k,E⟩:∃k,zcJ n q=k:=⟨_,rfl⟩;have ce:k≤1000:=by rw [←E];exact zeV _ _
       rw [A] at bx;have bz:=Z ap;have bA:=Z E;have aU:(zba ⟨17,t,u,n,q,x⟩).length=W.toNat:=by
        unfold zba;rw [←A];unfold yj;simp only;split<;>rfl
       obtain ⟨h,aq⟩:∃h,zba ⟨17,t,u,n,q,x⟩=h:=⟨_,rfl⟩;rw [aq] at aU;have L:(h.length:Int)=W:=by omega
       have aV:=Z aq;have cf:h.length≤2:=by omega
       clear aq ap aU
       by_cases X:y=a+1
       ·subst X
        have bB:((a:Int)+1==(a:Int)+1)=true:=by simp
        have aW:((a:Int)+1==(a:Int))=false:=by simp;omega
        have aX:((a:Int)+1 != (a:Int))=true:=by simp;omega
        have f:=Z (show yx ⟨17,t,u,n,q,x⟩ (a+1) a (d,c)=(d,c+(h.length:Int)) by simp [yx,A,L]);have cg:IntKind.i64.wrap (c+(h.length:Int))=c+(h.length:Int):=by rw [IntKind.wrap_i64];omega
        clear A E L;go_wp2_with fail;go_region_with (go_at_call 55;go_must (refine (zdU ⟨17,t,u,n,q,x⟩ _).mono ?_;unfold qY;rw [aV.out];rintro Q F ⟨bC,rfl,M,r⟩;obtain ⟨bD,bE,rfl,_⟩:=qg M;(try replace r:=Below.undrew r);have o:=j.later r;obtain ⟨⟨ar,au⟩,bF,bG⟩:=o.cells;(try simp only at ar au);obtain ⟨av,aw,ax,ay,az,aA⟩:=aS.out F o.below;(try simp only at av aw ax ay az aA);have bH:=ao.out F o.below;have aB:=Z o;clear o r M))
        all_goals
         have N:=Z (aB.set1 (c+(h.length:Int)));generalize F.setCell ⟨aQ,1,none⟩ (.int .i64 (c+(h.length:Int)))=bI at N ⊢;have ch:=ao.out bI N.below;go_wp2_with fail;go_roundg (ops.length-(b+1))
         case measure=>omega
         case rel=>exact ⟨b+1,(d,c+(h.length:Int)),by omega,rfl,by go_num,l _ f,N,Z (m _ f)⟩
       ·have bB:(y==(a:Int)+1)=false:=by simpa using X
        by_cases p:y=a
        ·subst p
         have f:=Z (show yx ⟨17,t,u,n,q,x⟩ a a (d,c)=(d+2 * (192 * (h.length:Int)+2 * (k:Int)),c) by simp [yx,A,L,E,show ¬((a:Int)=(a:Int)+1) by omega]);have ci:IntKind.i64.wrap (192 * (h.length:Int))=192 * (h.length:Int):=by rw [IntKind.wrap_i64];omega
         have cj:IntKind.i64.wrap (2 * (k:Int))=2 * (k:Int):=by rw [IntKind.wrap_i64];omega
         have ck:IntKind.i64.wrap (192 * (h.length:Int)+2 * (k:Int))=192 * (h.length:Int)+2 * (k:Int):=by rw [IntKind.wrap_i64];omega
         have cl:IntKind.i64.wrap (2 * (192 * (h.length:Int)+2 * (k:Int)))=2 * (192 * (h.length:Int)+2 * (k:Int)):=by rw [IntKind.wrap_i64];omega
         have cm:IntKind.i64.wrap (d+2 * (192 * (h.length:Int)+2 * (k:Int)))=d+2 * (192 * (h.length:Int)+2 * (k:Int)):=by rw [IntKind.wrap_i64];omega
         clear A E L;go_wp2_with fail;go_region_with (first | (go_at_call 55;go_must (refine (zdU ⟨17,t,u,n,q,x⟩ _).mono ?_;unfold qY;rw [aV.out];rintro Q F ⟨bC,rfl,M,r⟩;obtain ⟨bD,bE,rfl,_⟩:=qg M;(try replace r:=Below.undrew r);have o:=j.later r;obtain ⟨⟨ar,au⟩,bF,bG⟩:=o.cells;(try simp only at ar au);obtain ⟨av,aw,ax,ay,az,aA⟩:=aS.out F o.below;(try simp only at av aw ax ay az aA);have bH:=ao.out F o.below;have aB:=Z o;clear o r M)) | (go_at_call 56;go_must (refine (zdE ⟨17,t,u,n,q,x⟩ _ bz).mono ?_;(try simp only);rw [bA.out];unfold qM;rintro Q cn ⟨rfl,Y⟩;(try replace Y:=Below.undrew Y);have aC:=aB.later Y;obtain ⟨⟨bJ,bK⟩,co,cp⟩:=aC.cells;(try simp only at bJ bK);have bL:=Z aC;clear aC Y)))
         all_goals
          have N:=Z (bL.set0 (d+2 * (192 * (h.length:Int)+2 * (k:Int))));go_wp2_with fail;go_roundg (ops.length-(b+1))
          case measure=>omega
          case rel=>exact ⟨b+1,(d+2 * (192 * (h.length:Int)+2 * (k:Int)),c),by omega,rfl,by go_num,l _ f,N,Z (m _ f)⟩
        ·have aW:(y==(a:Int))=false:=by simpa using p
         have aX:(y != (a:Int))=true:=by simp [p]
         have f:=Z (show yx ⟨17,t,u,n,q,x⟩ y a (d,c)=(d,c) by simp [yx,X,p]);clear A E L p X;go_wp2_with fail;go_roundg (ops.length-(b+1))
         case measure=>omega
         case rel=>exact ⟨b+1,(d,c),by omega,rfl,by go_num,l _ f,j,Z (m _ f)⟩
      have G:(g.kind==17)=false:=by simpa using k17
      by_cases p:y=a
      ·subst p
       by_cases k1:g.kind=1
       ·rcases zg9 aT k1 with B | B
        ·have f:=Z (show yx g a a (d,c)=(d+1,c) by simp [yx,k1,B])
         rw [k1] at z;rw [B] at am;clear k1 B k17 G;go_wp2_with fail;go_roundg (ops.length-(b+1))
         case measure=>omega
         case rel=>exact ⟨b+1,(d+1,c),by omega,rfl,by go_num,l _ f,Z (j.set0 (d+1)),Z (m _ f)⟩
        ·have f:=Z (show yx g a a (d,c)=(d,c+1) by simp [yx,k1,B])
         rw [k1] at z;rw [B] at am;clear k1 B k17 G;go_wp2_with fail;go_roundg (ops.length-(b+1))
         case measure=>omega
         case rel=>exact ⟨b+1,(d,c+1),by omega,rfl,by go_num,l _ f,Z (j.set1 (c+1)),Z (m _ f)⟩
       by_cases k6:g.kind=6
       ·have f:=Z (show yx g a a (d,c)=(d+2,c+2) by simp [yx,k6])
        rw [k6] at z;clear k1 k6 k17 G;go_wp2_with fail;go_roundg (ops.length-(b+1))
        case measure=>omega
        case rel=>exact ⟨b+1,(d+2,c+2),by omega,rfl,by go_num,l _ f,Z ((j.set0 (d+2)).set1 (c+2)),Z (m _ f)⟩
       by_cases k9:g.kind=9
       ·have f:=Z (show yx g a a (d,c)=(d+2,c+2) by simp [yx,k9])
        rw [k9] at z;clear k1 k9 k17 G;go_wp2_with fail;go_roundg (ops.length-(b+1))
        case measure=>omega
        case rel=>exact ⟨b+1,(d+2,c+2),by omega,rfl,by go_num,l _ f,Z ((j.set0 (d+2)).set1 (c+2)),Z (m _ f)⟩
       by_cases k18:g.kind=18
       ·have f:=Z (show yx g a a (d,c)=(d+1,c+1) by simp [yx,k18])
        rw [k18] at z;clear k1 k18 k17 G;go_wp2_with fail;go_roundg (ops.length-(b+1))
        case measure=>omega
        case rel=>exact ⟨b+1,(d+1,c+1),by omega,rfl,by go_num,l _ f,Z ((j.set0 (d+1)).set1 (c+1)),Z (m _ f)⟩
       by_cases k19:g.kind=19
       ·have f:=Z (show yx g a a (d,c)=(d+1,c+1) by simp [yx,k19])
        rw [k19] at z;clear k1 k19 k17 G;go_wp2_with fail;go_roundg (ops.length-(b+1))
        case measure=>omega
        case rel=>exact ⟨b+1,(d+1,c+1),by omega,rfl,by go_num,l _ f,Z ((j.set0 (d+1)).set1 (c+1)),Z (m _ f)⟩
       have f:=Z (show yx g a a (d,c)=(d,c) by simp [yx,k1,k6,k9,k17,k18,k19]);have aY:(g.kind==1)=false:=by simpa using k1
       have cq:(g.kind==6)=false:=by simpa using k6
       have cr:(g.kind==9)=false:=by simpa using k9
       have cs:(g.kind==18)=false:=by simpa using k18
       have ct:(g.kind==19)=false:=by simpa using k19
       clear k1 k6 k9 k18 k19 k17;go_wp2_with fail;go_roundg (ops.length-(b+1))
       case measure=>omega
       case rel=>exact ⟨b+1,(d,c),by omega,rfl,by go_num,l _ f,j,Z (m _ f)⟩
      ·have aW:(y==(a:Int))=false:=by simpa using p
       have aX:(y != (a:Int))=true:=by simp [p]
       have f:=Z (show yx g y a (d,c)=(d,c) by simp [yx,k17,p]);clear k17 p;go_wp2_with fail;go_roundg (ops.length-(b+1))
       case measure=>omega
       case rel=>exact ⟨b+1,(d,c),by omega,rfl,by go_num,l _ f,j,Z (m _ f)⟩
     ·obtain rfl:b=ops.length:=by omega
      have s:=D.out;rw [List.drop_length,zf5] at s;subst s;simp only at S ah;obtain ⟨bM,aY,bN,bO⟩:=ah;simp only at bM aY bN bO;go_wp2_with fail
      all_goals
       go_roundg (i+1-(a+1))
       case measure=>omega
       case rel=>
        refine ⟨a+1,by omega,rfl,by go_num,?_,Z j.below⟩;rw [S.out];exact congrArg (Value.int IntKind.i64) (by omega)
   ·obtain rfl:a=i+1:=by omega
    have bh:decide (((i+1:Nat):Int)≤(i:Int))=false:=by simp;omega
    have bP:=Z a5;go_wp2_with fail;go_ret;exact ⟨by rw [←bP.out];rfl,ag⟩
def QR:List Int→Int→Option Int
 |[],a=>some a
 |b::c,a=>if b<1∨16<b then none else QR c (a * b)
def zaE (s:List Int):Int:=if 2<s.length then 0 else match QR s 1 with | none=>0 | some a=>if 32<a then 0 else a
theorem zif:∀(e:List Int) (a c:Int),0≤a→QR e a=some c→a≤c
 |[],a,c,_,b=>by simp [QR] at b;omega
 |d::f,a,c,g,b=>by
  rw [QR] at b
  split at b
  ·cases b
  ·rename_i h
   have i:a * 1≤a * d:=Int.mul_le_mul_of_nonneg_left (by omega) g;have:=zif f (a * d) c (by omega) b;omega
theorem zdD:∀(f:List Int) (a:Int),1≤a→a≤32→Qt f a=match QR f a with | none=>0 | some c=>if 32<c then 0 else c
 |[],a,_,j=>by simp [Qt,QR];omega
 |b::d,a,k,l=>by
  rw [Qt,QR]
  by_cases e:b<1
  ·simp [e]
  ·by_cases g:16<b
   ·simp [e,g]
   ·rw [if_neg e,if_neg g,if_neg (show ¬(b<1∨16<b) by omega)]
    have m:a * 1≤a * b:=Int.mul_le_mul_of_nonneg_left (by omega) (by omega)
    by_cases h:32<a * b
    ·rw [if_pos h]
     cases i:QR d (a * b) with
     |none=>rfl
     |some c=>
      have:=zif d _ c (by omega) i;simp only;rw [if_pos (by omega)]
    ·rw [if_neg h]
     exact zdD d (a * b) (by omega) (by omega)
theorem zlK (s:List Int):zaE s=qN s:=by
 unfold zaE qN;rw [←zdD s 1 (by omega) (by omega)]
 by_cases a:2<s.length
 ·simp [a]
 ·simp only [if_neg a]
  by_cases b:Qt s 1=0
  ·simp [b]
  ·simp [b]
theorem zeX:∀(e:List Int) (b a:Int),QR (e++[a]) b=(QR e b).bind fun f=>if a<1∨16<a then none else some (f * a)
 |[],b,a=>by simp [QR]
 |d::g,b,a=>by
  rw [List.cons_append,QR,QR]
  by_cases c:d<1∨16<d
  ·rw [if_pos c,if_pos c];rfl
  ·rw [if_neg c,if_neg c,zeX g (b * d) a]
theorem zjT (a b:List Int)(n:Int)(c:QR a n=none):QR (a++b) n=none:=by
 induction a generalizing n with
 |nil=>simp [QR] at c
 |cons e f ih=>
  rw [QR] at c;rw [List.cons_append,QR]
  split
  ·rfl
  ·rename_i d
   rw [if_neg d] at c;exact ih _ c
theorem zcK (v:Value)(s:List Int)(w:World)(m:Arr w.heap.size w 1 v s.length (ints s)):
  Calls prog 50 #[v] w fun z A=>z= .returned (.int .i64 (qN s))∧A=w:=by
 rw [←zlK];obtain ⟨T,U,rfl,V,B,C,n⟩:=m.open;have D:=Z n;unfold maxLen at B;clear m C n;go_enter func50,ntmps50
 by_cases o:2<s.length
 ·have E:decide ((2:Int)<(s.length:Int))=true:=by simp;omega
  have d:zaE s=0:=by unfold zaE;rw [if_pos o]
  go_wp2_with fail;go_ret;exact ⟨(by first | rfl | (rw [d];rfl)),rfl⟩
 ·have E:decide ((2:Int)<(s.length:Int))=false:=by simp;omega
  have d:zaE s=match QR s 1 with | none=>0 | some p=>if 32<p then 0 else p:=by unfold zaE;rw [if_neg o]
  have q:=Z d;clear d;go_wp2_with fail;go_loopg [3,10] s.length (fun F G H wr=>∃(a:Nat) (b:Int),a≤s.length∧F=s.length-a∧H= .int .i64 a∧G= .int .i64 b∧Hid (QR (s.take a) 1=some b)∧1≤b∧b≤16^a∧wr=w)
  case atStart=>exact ⟨0,1,Nat.zero_le _,rfl,rfl,rfl,rfl,by omega,by simp,rfl⟩
  case round=>
   obtain ⟨a,b,W,X,rfl,rfl,r,Y,f,rfl⟩:=hrel
   by_cases t:a<s.length
   ·obtain ⟨I,J,rfl,aa,u⟩:=D.out (by omega)
    have K:wr.cell? ⟨I,J+a,none⟩=some (.int .i64 s[a]):=by rw [u a (by omega)];simp [ints,t]
    have ab:(0:Int)≤(a:Int):=by omega
    have ac:(a:Int)<(s.length:Int):=by omega
    have h:=Z (show QR (s.take (a+1)) 1=(if s[a]<1∨16<s[a] then none else some (b * s[a])) by
     rw [List.take_succ_eq_append_getElem t,zeX,r.out];rfl)
    have i:=Z (show (s[a]<1∨16<s[a])→zaE s=0 by
     intro L;rw [q.out];have:QR s 1=none:=by
      rw [←List.take_append_drop (a+1) s];have x:=h.out;rw [if_pos L] at x;exact zjT _ _ _ x
     rw [this])
    clear u;generalize s[a]=c at K h i;have ad:a<2:=by omega
    have M:b≤16:=by
     rcases (show a=0∨a=1 by omega) with rfl | rfl
     ·simpa using Int.le_trans f (by decide)
     ·simpa using f
    by_cases j:c<1
    ·have N:decide (c<1)=true:=by simpa using j
     have e:=i.out (.inl j);go_wp2_with fail
     first | (go_quiet (fail)) | skip
     go_wp2_with fail;go_ret;exact ⟨(by first | rfl | (rw [e];rfl)),rfl⟩
    ·have N:decide (c<1)=false:=by simpa using j
     by_cases k:16<c
     ·have O:decide (16<c)=true:=by simpa using k
      have e:=i.out (.inr k);go_wp2_with fail
      first | (go_quiet (fail)) | skip
      go_wp2_with fail;go_ret;exact ⟨(by first | rfl | (rw [e];rfl)),rfl⟩
     ·have O:decide (16<c)=false:=by simpa using k
      have P:1≤b * c:=by have:=Int.mul_le_mul_of_nonneg_left (show 1≤c by omega) (show 0≤b by omega);omega
      have Q:b * c≤16^(a+1):=by rw [Int.pow_succ];exact Int.mul_le_mul f (by omega) (by omega) (by omega)
      have ae:b * c≤256:=by have:=Int.mul_le_mul M (show c≤16 by omega) (by omega) (show (0:Int)≤16 by omega);omega
      have l:=h.out;rw [if_neg (by omega)] at l;have R:=Z l;have af:IntKind.i64.wrap (b * c)=b * c:=by rw [IntKind.wrap_i64];omega
      clear f l;go_wp2_with fail
      first | (go_quiet (fail)) | skip
      go_wp2_with fail;go_roundg (s.length-(a+1))
      case measure=>omega
      case rel=>exact ⟨a+1,b * c,by omega,rfl,by go_num,rfl,R,P,Q,rfl⟩
   ·obtain rfl:a=s.length:=by omega
    have y:=r.out;rw [List.take_length] at y;have d:=q.out;rw [y] at d;clear f
    by_cases g:32<b
    ·have e:zaE s=0:=by rw [d];simp [g]
     clear d;have S:decide (32<b)=true:=by simpa using g
     go_wp2_with fail;go_ret;exact ⟨(by first | rfl | (rw [e];rfl)),rfl⟩
    ·have e:zaE s=b:=by rw [d];simp [g]
     clear d;have S:decide (32<b)=false:=by simpa using g
     go_wp2_with fail;go_ret;exact ⟨(by first | rfl | (rw [e];rfl)),rfl⟩
theorem zij (v:Value)(c:List Value)(l:List (List Int))(w:World)(p:Arr w.heap.size w 1 v c.length c)(j:ZR w.heap.size w c (l.map ints))(P:l.length≤1099511627776):
  Calls prog 23 #[v] w fun k m=>k= .returned (.int .i64 (Ya l))∧w=m:=by
 have n:=j.length;simp only [List.length_map] at n;obtain ⟨Q,R,rfl,S,A,B,q⟩:=p.open;have C:=Z q;have D:=Z j;have r:=Z n;have T:c.length≤1099511627776:=by omega
 clear p B q A j n;go_enter func23,ntmps23;go_wp2_with fail;go_loopg [3,8] c.length (fun E F G wr=>∃(a:Nat) (e:Int),a≤c.length∧E=c.length-a∧G= .int .i64 a∧F= .int .i64 e∧0≤e∧e≤32 * a∧Hid (Z3 (l.drop a) e=Ya l)∧w=wr)
 case atStart=>exact ⟨0,0,Nat.zero_le _,rfl,rfl,rfl,by omega,by omega,rfl,rfl⟩
 case round=>
  obtain ⟨a,e,U,V,rfl,rfl,W,X,s,rfl⟩:=hrel
  by_cases t:a<c.length
  ·obtain ⟨H,I,rfl,Y,u⟩:=C.out (by omega)
   have x:a<l.length:=by have:=r.out;omega
   have d:=D.get a t (by simpa using x);simp only [List.getElem_map] at d;rw [qP] at d;have J:w.cell? ⟨H,I+a,none⟩=some c[a]:=by rw [u a (by omega)];simp [t]
   have b:=s.out;rw [List.drop_eq_getElem_cons x,Z3] at b;generalize l[a]=i at d b;generalize c[a]=aa at d J;obtain ⟨ab,ac,rfl,ad,K,L,M⟩:=Arr.open d;have N:=zfL i;have y:=Z d;obtain ⟨f,o⟩:∃f,qN i=f:=⟨_,rfl⟩;rw [o] at b N;have z:=Z o;clear u d L M K o
   by_cases g:f=0
   ·rw [if_pos g] at b
    have h:=Z b;have O:(f==0)=true:=by simpa using g
    clear b g;go_wp2_with (go_at_call 50;go_must (refine (zcK _ i _ y).mono ?_;rw [z.out];rintro k m ⟨rfl,rfl⟩));go_ret;exact ⟨QL h,rfl⟩
   ·rw [if_neg g] at b
    have h:=Z b;have O:(f==0)=false:=by simpa using g
    clear b g;go_wp2_with (go_at_call 50;go_must (refine (zcK _ i _ y).mono ?_;rw [z.out];rintro k m ⟨rfl,rfl⟩));go_roundg (c.length-(a+1))
    case measure=>omega
    case rel=>exact ⟨a+1,e+f,by omega,rfl,by go_num,rfl,by omega,by omega,h,rfl⟩
  ·obtain rfl:a=c.length:=by omega
   have b:=s.out;rw [List.drop_of_length_le (by have:=r.out;omega),Z3] at b;have h:=Z b;clear b;go_wp2_with fail;go_ret;exact ⟨QL h,rfl⟩
theorem zg7 (v:Value)(l:List (List Int))(w:World)(c:ZS w.heap.size w v l)(i:l.length≤1000000000):
  Calls prog 23 #[v] w fun a b=>a= .returned (.int .i64 (Ya l))∧b=w:=by
 obtain ⟨d,j,e,f⟩:=c;exact (zij v d l w e f (by omega)).mono fun a b ⟨g,h⟩=>⟨g,h.symm⟩
theorem zfp (o:MOp)(w:World):Calls prog 94 #[.agg o.arr] w (qY (YH o) w):=by
 have y:=Z (WSt.start w o);obtain ⟨⟨v,c,M,N⟩,z⟩:∃F,qE o=F:=⟨_,rfl⟩;have A:YH o=(if v=0 then [] else [o.a])++(if c≠0∧(v=0∨o.a≠o.b) then [o.b] else []):=by unfold YH;rw [z]
 obtain ⟨t,B⟩:∃t,YH o=t:=⟨_,rfl⟩;rw [B];rw [B] at A;have x:=Z A;clear B;have G:=Z z;clear A z;go_enter func94,ntmps94;go_upto_region 1 with fail;generalize w.alloc _=O at y ⊢;obtain ⟨h,i,j,k,m,n⟩:=Yw y.box;go_upto_region 3 with (go_at_call 52;go_must (refine (zaF o _).mono ?_;rw [G.out];unfold rWv;rintro P Q ⟨rfl,u⟩;have e:=Z (y.later u);clear u h i j k m n));obtain ⟨h,i,j,k,m,n⟩:=Yw e.box
 by_cases f:v=0
 ·subst f
  have H:((0:Int) != 0)=false:=rfl;go_upto_region 5 with fail
  by_cases a:c=0
  ·have u:(c==0)=true:=by simpa using a
   have C:(c != 0)=false:=by simp [a]
   have b:t=[]++[]:=by rw [x.out];simp [a]
   have g:=Z b;clear a b;go_wp2_with fail
   first | (go_quiet (fail)) | skip
   go_wp2_with fail;go_ret;rw [g.out];exact WSt.ret (l:=[]++[]) (by first | exact e | exact (e.later ((Below.refl _ _).drew)))
  ·have u:(c==0)=false:=by simpa using a
   have C:(c != 0)=true:=by simp [a]
   have b:t=[]++[o.b]:=by rw [x.out];simp [a]
   have g:=Z b;clear a b;go_wp2_with (at_builtin;refine yS rfl _ _ 24 rfl 3 _ 1 8 underlying24 qD rfl (by decide) #[_] _ _ _ _ e.own rfl rfl rfl (by intro D p;simp at p;subst p;rfl) (by have:=lt_of_block e.box;omega) (by simp) (by unfold maxLen;simp) ?_;intro I J q r _;go_must (have d:=Z (e.add r q);clear q r h i j k m n;obtain ⟨h,i,j,k,m,n⟩:=Yw d.box));go_ret;rw [g.out];exact WSt.ret (l:=[]++[o.b]) d
 ·have R:(v==0)=false:=by simpa using f
  have H:(v != 0)=true:=by simp [f]
  go_upto_region 5 with (at_builtin;refine yS rfl _ _ 24 rfl 3 _ 1 8 underlying24 qD rfl (by decide) #[_] _ _ _ _ e.own rfl rfl rfl (by intro D p;simp at p;subst p;rfl) (by have:=lt_of_block e.box;omega) (by simp) (by unfold maxLen;simp) ?_;intro I J q r _;go_must (have d:=Z (e.add r q);clear q r h i j k m n;obtain ⟨h,i,j,k,m,n⟩:=Yw d.box))
  by_cases a:c=0
  ·have u:(c==0)=true:=by simpa using a
   have C:(c != 0)=false:=by simp [a]
   have b:t=[o.a]++[]:=by rw [x.out];simp [a,f]
   have g:=Z b;clear a f b;go_wp2_with fail
   first | (go_quiet (fail)) | skip
   go_wp2_with fail;go_ret;rw [g.out];exact WSt.ret (l:=[o.a]++[]) (by first | exact d | exact (d.later ((Below.refl _ _).drew)))
  ·have u:(c==0)=false:=by simpa using a
   have C:(c != 0)=true:=by simp [a]
   by_cases s:o.a=o.b
   ·have K:(o.a==o.b)=true:=by simpa using s
    have L:(o.a != o.b)=false:=by simp [s]
    have b:t=[o.a]++[]:=by rw [x.out];simp [a,f,s]
    have g:=Z b;clear a s f b;go_wp2_with fail;go_ret;rw [g.out];exact WSt.ret (l:=[o.a]++[]) d
   ·have K:(o.a==o.b)=false:=by simpa using s
    have L:(o.a != o.b)=true:=by simp [s]
    have b:t=[o.a]++[o.b]:=by rw [x.out];simp [a,f,s]
    have g:=Z b;clear a s f b;go_wp2_with (at_builtin;refine yS rfl _ _ 24 rfl 3 _ 1 8 underlying24 qD rfl (by decide) #[_] _ _ _ _ d.own rfl rfl rfl (by intro D p;simp at p;subst p;rfl) (by have:=lt_of_block d.box;omega) (by simp) (by unfold maxLen;simp) ?_;intro S T q r _;go_must (have E:=Z (d.add r q);clear q r h i j k m n;obtain ⟨h,i,j,k,m,n⟩:=Yw E.box));go_ret;rw [g.out];exact WSt.ret (l:=[o.a]++[o.b]) E
end Go.Proofs.YtklofgfkaaoipaaGreatDoor
