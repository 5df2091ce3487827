/-
  THE CONTRACT of the parser's method shape.
-/
import Derived.Test.YtklofgfkaaoipaaGreatDoorMPar5
import Derived.Test.YtklofgfkaaoipaaGreatDoorMMem
import Derived.Test.YtklofgfkaaoipaaGreatDoorMLexAny
import Derived.Test.YtklofgfkaaoipaaGreatDoorMHd
set_option maxHeartbeats 16000000
set_option maxRecDepth 100000
set_option linter.unusedSimpArgs false
set_option linter.unusedVariables false
namespace Go.Proofs.YtklofgfkaaoipaaGreatDoor
open Go.RowKit Go.Proofs.Tryz
variable {W I:World}{B P S:Nat}{T:List MTok}{h A D E:Value}{s:PS}{F G H:List Value}{t:TypeId}{fr:Nat×Nat}{J:Array Value}
def zpd (B P:Nat)(c:List MTok)(d f:Value)(g V:List Value)(s':PS)(l:List Int)(W:World)(e:Ending)(a:World):Prop:=
 ∃b,e= .returned b∧a.ownsRow W.heap.size 3 1 b l.length (ints l)∧zV B P c d f g V s' W a
theorem zoD {g:Nat}(b:B≤W.heap.size)(c:g=W.heap.size)(a:Int):(W.alloc (.cells #[.int .i64 a] 3)).ownsRow B 3 1 (.slice (some ⟨g,0,none⟩) 1 1) 1 (ints [a]):=by
 subst c;exact ⟨rfl,.inr ⟨_,1,_,rfl,b,heap_alloc_new _ _,Nat.le_refl _,by unfold maxLen;omega,rfl,rfl⟩⟩
theorem zlV (m:PSt B P T h s A D E F G W):
  Calls prog 156 #[.pointer (some ⟨P,0,none⟩)] W (zpd B P T h A F G (Y3 T s).1 (Y3 T s).2 W):=by
 have aa:=Z m;have ab:=m.blt;have aC:=Z m.sn.lts;obtain ⟨a,r⟩:∃a,zv T s [91]=a:=⟨_,rfl⟩;have ac:=Z r;have t:Y3 T s=if pIs T a [93] then (qr a, []) else (zv T (zcG T (T.length+1) (ze T a).1 [((ze T a).2:Int)]).1 [93],(zcG T (T.length+1) (ze T a).1 [((ze T a).2:Int)]).2):=by simp only [Y3,r]
 rcases hi:pIs T a [93] with _ | _
 rotate_left
 ·have H:=Z hi
  rw [t,hi,if_pos rfl];clear m hi t r;go_enter func156,ntmps156;go_wp2_with (first | (go_at_call 153;refine (yp I _ [93] rfl).mono ?_;rw [H.out,if_pos rfl];rintro d aD ⟨rfl,ad⟩;have aE:=Z (J.post ad);clear ad) | (go_at_call 157;refine (Qp aa _ [91] rfl).mono ?_;rw [ac.out];rintro d aF ⟨rfl,aG,n,aH,aI,o⟩;have J:=Z n;have I:=Z o;clear n o));go_ret;exact ⟨_,rfl,World.ownsRow_nil _ _ _ _,aE⟩
 ·have H:=Z hi
  obtain ⟨aJ,K⟩:∃L,ze T a=L:=⟨_,rfl⟩;rw [t,hi,if_neg (by simp),K];obtain ⟨ae,M⟩:=aJ;simp only;obtain ⟨N,O⟩:∃N,zcG T (T.length+1) ae [(M:Int)]=N:=⟨_,rfl⟩;rw [O];have aK:=Z K;have af:=Z O;clear m hi t r K O;go_enter func156,ntmps156;go_wp2_with (first | (go_at_call 154;refine (Z0 aL).mono ?_;rw [aK.out];rintro d _ ⟨rfl,_,ag,_,_,ah⟩;have ai:=Z (aM.trans ag);have Q:=Z ah;have aN:=ai.low.size;clear ag ah) | (go_at_call 153;refine (yp I _ [93] rfl).mono ?_;rw [H.out,if_neg (by simp)];rintro d aD ⟨rfl,_,aj,_,_,ak⟩;have aM:=Z (J.trans aj);have aL:=Z ak;clear aj ak) | (go_at_call 157;refine (Qp aa _ [91] rfl).mono ?_;rw [ac.out];rintro d aF ⟨rfl,aG,n,aH,aI,o⟩;have J:=Z n;have I:=Z o;clear n o));go_loopg [3] (T.length+1) (fun e al wr=>∃(k:Nat) (c:PS) (b:List Int),e=k∧T.length<c.pos+k∧b.length≤c.pos+1∧Hid (zcG T k c b=N)∧Hid (wr.ownsRow W.heap.size 3 1 al b.length (ints b))∧Hid (∃R,PMod B G R W wr∧Yo al R∧∃aO aP,PSt B P T h c A aO aP F R wr))
  case atStart=>exact ⟨_,ae, [(M:Int)],rfl,by omega,by simp,af,zoD aN rfl M,_,ai.alloc Q.blt _,Yo.old Q.en.lts (fun e j=>by simp [Value.ownBlock] at j;omega),_,_,Q.alloc _⟩
  case round=>
   obtain ⟨k,c,b,_,_,_,am,u,an⟩:=hrel;obtain ⟨_,ao,ap,_,_,v⟩:=an.out;have bc:=v.pl;have bd:=v.tl;obtain ⟨w,rfl⟩:∃w,k=w+1:=⟨k-1,by omega⟩;obtain ⟨aQ,aR,rfl,_,-⟩:=qg u;have aq:=Z ao;have aS:=Z ap;have ar:=Z v;have f:=am.out;simp only [zcG] at f;clear ao ap v an am af;rcases hi:pIs T c [44] with _ | _
   ·rw [hi,if_neg (by simp)] at f
    subst f;have S:=Z hi;obtain ⟨x,au⟩:∃x,zv T c [93]=x:=⟨_,rfl⟩;have av:=Z au;clear hi au;go_wp2_with (first | (go_at_call 157;refine (Qp U _ [93] rfl).mono ?_;rw [av.out];rintro d aT ⟨rfl,aU,g,aV,aW,p⟩;have y:=Z (V.trans g);have l:=Z (g.owns z (by decide) (by decide));have C:=Z p;clear g p) | (go_at_call 153;refine (yp ar _ [44] rfl).mono ?_;rw [S.out,if_neg (by simp)];rintro d aX ⟨rfl,aY,i,aZ,a0,q⟩;have V:=Z (aq.trans i);have z:=Z (i.owns u (by decide) (by decide));have U:=Z q;clear i q));go_ret;simp only;rw [av.out];exact ⟨_,rfl,l,_,y,_,_,C⟩
   ·rw [hi,if_pos rfl] at f
    have be:=(zD hi).1;have S:=Z hi;obtain ⟨a1,X⟩:∃L,ze T (qr c)=L:=⟨_,rfl⟩;have aw:=(Adv.number T (qr c)).pos;rw [X] at f aw;obtain ⟨x,ax⟩:=a1;simp only [qr] at f aw;have a2:=Z X;have a3:=Z f;have bf:b.length≤600:=by omega
    clear hi X f;go_wp2_with (first | (at_builtin;refine yS rfl _ _ 24 rfl 3 _ 1 8 underlying24 qD rfl (by decide) #[.int .i64 ax] b.length W.heap.size (.slice aQ b.length aR) (ints b) l rfl rfl rfl (by intro _ ay;simp at ay;subst ay;rfl) a4 (by omega) (by unfold maxLen;omega) ?_;intro _ _ az Y aA;have a5:=Z (C.app l ab Y (Yo.old aC (fun e j=>(l.lt e j).1)) aB);have a6:=Z (y.app Y ab (fun a7 a8=>(l.lt a7 a8).1));have a9:=Z (aB.grow C.en.lts aA);have ba:=Z az;clear az Y aA) | (go_at_call 154;refine (Z0 U).mono ?_;rw [a2.out];rintro d aT ⟨rfl,aU,g,aV,aW,p⟩;have y:=Z (V.trans g);have l:=Z (g.owns z (by decide) (by decide));have aB:=Z (bb.step g (fun e j=>(z.lt e j).2));have C:=Z p;have a4:=y.low.size;clear g p) | (go_at_call 153;refine (yp ar _ [44] rfl).mono ?_;rw [S.out,if_pos rfl];rintro d aX ⟨rfl,aY,i,aZ,a0,q⟩;have V:=Z (aq.trans i);have z:=Z (i.owns u (by decide) (by decide));have bb:=Z (aS.step i (fun e j=>(u.lt e j).2));have U:=Z q;clear i q));go_roundg w
    case measure=>omega
    case rel=>exact ⟨w,x,b++[(ax:Int)],rfl,by omega,by simp;omega,a3,Z (by have:=ba.out;simp only [List.length_append,List.length_cons,List.length_nil,yd];exact this),_,a6,a9,_,_,a5⟩
structure QSt (B P S:Nat)(T:List MTok)(tv:Value)(s:PS)(sv ev rv:Value)(svs evs cs:List Value)(W:World):Prop where
 p:PSt B P T tv s sv ev rv svs evs W
 blk:W.heap[S]? =some (.cells cs.toArray 149 (0,0))
 ne:sv.ownBlock≠some S
 hB:B≤S
theorem QSt.call {s':PS}{c d:Value}{V a:List Value}(b:QSt B P S T h s A D E F G H W)(e:PMod B V a W I)(f:PSt B P T h s' A c d F a I):
  QSt B P S T h s' A c d F a H I:=⟨f,e.ty S _ _ _ b.blk (by decide) (by decide),b.ne,b.hB⟩
theorem QSt.later (a:QSt B P S T h s A D E F G H W)(b:Below W.heap.size W I):QSt B P S T h s A D E F G H I:=
 ⟨a.p.later b,(b.block S (qd a.blk)).trans a.blk,a.ne,a.hB⟩
theorem QSt.at (a:QSt B P S T h s A D E F G H W)(j:Nat):W.cell? ⟨S,j,none⟩=H[j]? ∧W.frozen? ⟨S,j,none⟩=false:=by
 have b:=a.blk;refine ⟨?_,?_⟩<;>simp [World.cell?,World.frozen?,b]
theorem QSt.set (b:QSt B P S T h s A D E F G H W)(j:Nat)(x:Value)(l:List Value)(n:H.toArray.setIfInBounds j x=l.toArray):
  QSt B P S T h s A D E F G l (W.setCell ⟨S,j,none⟩ x):=by
 have c:=qh W S j x;have m:∀(d:Nat) (H:Array Value) (f:TypeId) (k:Nat×Nat),W.heap[d]? =some (Obj.cells H f k)→f≠149→(W.setCell ⟨S,j,none⟩ x).heap[d]? =some (Obj.cells H f k):=fun d H f k g o=>by
  refine (c.block d (qd g) fun e=> ?_).trans g;obtain rfl:d=S:=by simpa using e
  rw [b.blk] at g;cases g;exact o rfl
 have a:=b.p;refine ⟨⟨m _ _ _ _ a.blk (by decide),qp a.toks c (Off.block b.blk (by decide)),a.stm.kept c (.inr b.ne),qp a.exp c (Off.block b.blk (by decide)),a.sn.kept c (Off.block b.blk (by decide)),a.en.kept c (Off.block b.blk (by decide)),?_,a.le,a.tl,a.pl,a.tb,a.dl,a.b0,?_⟩,?_,b.ne,b.hB⟩
 ·have i:=a.err
  unfold zdW at i ⊢
  split at i
  ·exact i
  ·obtain ⟨p,q,r,e,t,u,v,w⟩:=i
   exact ⟨p,q,r,e,t,by simpa using u,m _ _ _ _ v (by decide),w⟩
 ·unfold yC
  rw [←a.eT];refine World.cell?_of_block (c.block 0 (by have:=a.blt;have:=a.b0;omega) fun e=> ?_);have:=b.hB;have:=a.b0;simp at e;omega
 ·rw [heap_setCell b.blk,n]
theorem zb9:∀(b:List MStmt) (c:List Value) (a:MStmt) (d:Value),c.length=b.length→scl (b++[a]) (c++[d])=scl b c++[.int .i64 a.kind,.int .i64 a.party,.string (qx a.name),d,.int .i64 a.expr,.int .i64 a.pos]
 |[], [],_,_,_=>rfl
 |f::b,g::c,a,d,e=>by
  simp only [List.cons_append,scl];rw [zb9 b c a d (by simpa using e)]
theorem PSt.addstmt {c:World}(a:PSt B P T h s A D E F G W)(e:MStmt)(m f:Value)
  (K:W.ownsRow B 3 1 m e.shape.length (ints e.shape)) (i:W.grownBy c A.ownBlock)
  (n:c.ownsRow B 149 6 f (s.stmts.length+1) (scl s.stmts F++[.int .i64 e.kind,.int .i64 e.party,.string (qx e.name),m,.int .i64 e.expr,.int .i64 e.pos])):
  c.heap[P]? =some (.cells #[h,.int .i64 s.pos,A,D,.int .i64 s.deep,E] 222 (0,0))∧Below B W (c.setCell ⟨P,2,none⟩ f)∧
  PSt B P T h {s with stmts:=s.stmts++[e]} f D E (F++[m]) G (c.setCell ⟨P,2,none⟩ f):=by
 have j:c.heap[P]? =some (.cells #[h,.int .i64 s.pos,A,D,.int .i64 s.deep,E] 222 (0,0)):=(i.block P a.lt fun k=>yz a.stm a.blk (by decide) k.symm).trans a.blk;have L:Below B W c:=Qq i a.blt fun b l=>(a.stm.lt b l).1
 have x:=Below.set L a.le 2 f;have o:=qh c P 2 f;have b:∀{y:Nat} {d:TypeId} {b:Nat} {z:Value} {C:Nat} {H:List Value},W.ownsRow y d b z C H→d≠149→d≠222→(c.setCell ⟨P,2,none⟩ f).ownsRow y d b z C H:=fun n q r=>
  qp (qp n i (Off.owned a.stm (Ne.symm q))) o (Off.block j (Ne.symm r))
 have t:∀{I:List Value} {J:List (List Int)},qj B W I J→qj B (c.setCell ⟨P,2,none⟩ f) I J:=fun M=>
  (M.kept i (Off.owned a.stm (by decide))).kept o (Off.block j (by decide))
 have N:∀(b:Nat) (u:Array Value) (d:TypeId) (v:Nat×Nat),W.heap[b]? =some (Obj.cells u d v)→d≠149→d≠222→(c.setCell ⟨P,2,none⟩ f).heap[b]? =some (Obj.cells u d v):=fun b u d v l q r=>by
  have w:=(i.block b (qd l) fun k=>yz a.stm l q k.symm).trans l;exact (qe (fun k=>by subst k;rw [j] at w;cases w;exact r rfl) _).trans w
 refine ⟨j,x,by rw [heap_setCell j];rfl,b a.toks (by decide) (by decide),?_,b a.exp (by decide) (by decide),?_,t a.en,?_,a.le,a.tl,a.pl,a.tb,a.dl,a.b0,?_⟩
 ·have O:F.length=s.stmts.length:=by have:=a.sn.length;simpa using this
  simp only [List.length_append,List.length_cons,List.length_nil];rw [zb9 _ _ _ _ O];exact qp n o (Off.block j (by decide))
 ·simp only [List.map_append,List.map_cons,List.map_nil]
  exact (t a.sn).append (t (show qj B W [m] [e.shape] from ⟨K,trivial⟩))
 ·have g:=a.err
  unfold zdW at g ⊢;simp only
  split at g
  ·exact g
  ·obtain ⟨Q,R,S,e,U,_,V,X⟩:=g
   exact ⟨Q,R,S,e,U,by have:=i.size;simp;omega,N _ _ _ _ V (by decide) (by decide),X⟩
 ·have g:=a.eT
  unfold yC at g ⊢;rw [x.cell (p:=⟨0,0,none⟩) a.b0];exact g
theorem Ys:(prog.info? 149).map (fun a=>(a.zero,a.size,a.bytes))=some (some (.agg #[.int .i64 0,.int .i64 0,.string ⟨#[]⟩,.slice none 0 0,.int .i64 0,.int .i64 0]),6,72):=by kernel_rfl
def zib (s:PS)(e:MStmt):PS:={s with stmts:=s.stmts++[e]}
def zcU (B P:Nat)(b:List MTok)(c:Value)(s':PS)(W:World)(e:Ending)(a:World):Prop:=
 e= .returned (.tuple #[])∧Below B W a∧∃d f g h i,PSt B P b c s' d f g h i a
theorem zj4 (e:PSt B P T h s A D E F G W)(ab:s.stmts.length≤64)(p:s.stmts.length=64):
  Calls prog 101 #[.pointer (some ⟨P,0,none⟩)] W (zcU B P T h (zib (zv T (zR s 5) [59]) ⟨0,0, [], [],0,(qA T s).pos⟩) W):=by
 obtain ⟨g,i,rfl,_,-⟩:=qg e.stm;have f:=Z e;have N:=e.blt;have:=e.lt;have:((s.stmts.length:Int)==64)=true:=by simp [p]
 obtain ⟨m,j⟩:∃m,zv T (zR s 5) [59]=m:=⟨_,rfl⟩;have q:m.stmts=s.stmts:=by rw [←j];exact ((Adv.fail T s 5).trans (Adv.want T _ [59])).stmts
 rw [j];have O:=Z j;have r:=Z q;clear e j q p;go_enter func101,ntmps101;go_upto_region 18 with (first | (go_at_call 157;refine (Qp t.p _ [59] rfl).mono ?_;rw [O.out];rintro k b ⟨rfl,_,n,_,_,u⟩;have v:=t.call n u;have w:=Q.trans n.low;have a:=Z v;have R:=Z w;clear n u v w) | (go_at_call 152;refine (Yg x.p _).mono ?_;rintro k _ ⟨rfl,_,o,_,_,y⟩;have z:=x.call o y;have C:=S.trans o.low;have t:=Z z;have Q:=Z C;clear o y z C) | (go_at_call 100;refine (qS f).mono ?_;rintro k c ⟨rfl,d⟩;have:=d.size;have:=(f.later d).lt;have:=(f.later d).cells.1.2.2.1;have:=fun U=>yD (qA T s) U;have x:=Z (show QSt B P c.heap.size T h s (.slice g s.stmts.length i) D E F G [.int .i64 0,.int .i64 0,.string ⟨#[]⟩,.slice none 0 0,.int .i64 0,.int .i64 (qA T s).pos] (c.alloc (.cells #[.int .i64 0,.int .i64 0,.string ⟨#[]⟩,.slice none 0 0,.int .i64 0,.int .i64 (qA T s).pos] 149)) from ⟨(f.later d).alloc _,heap_alloc_new _ _,fun k=>by have:=(f.stm.lt _ k).2;omega,by omega⟩);have S:=Z ((d.mono N).alloc (by omega) (.cells #[.int .i64 0,.int .i64 0,.string ⟨#[]⟩,.slice none 0 0,.int .i64 0,.int .i64 (qA T s).pos] 149));clear d));have H:=Z (a.later (Below.refl _ _).drew);have V:=Z R.drew;have X:=a.p.blt;have Y:=Z (show b.drew.ownsRow B 149 6 (.slice g s.stmts.length i) s.stmts.length (scl s.stmts F) by have I:=H.p.stm;rw [r.out] at I;exact I);have aa:=Z (show b.drew.ownsRow B 3 1 (.slice none 0 0) 0 (ints []) from World.ownsRow_nil _ _ _ _);have:b.cell? ⟨c.heap.size,0,none⟩=some (.int .i64 0):=(a.at 0).1;have:b.cell? ⟨c.heap.size,1,none⟩=some (.int .i64 0):=(a.at 1).1;have:b.cell? ⟨c.heap.size,2,none⟩=some (.string ⟨#[]⟩):=(a.at 2).1;have:b.cell? ⟨c.heap.size,3,none⟩=some (.slice none 0 0):=(a.at 3).1;have:b.cell? ⟨c.heap.size,4,none⟩=some (.int .i64 0):=(a.at 4).1;have:b.cell? ⟨c.heap.size,5,none⟩=some (.int .i64 (qA T s).pos):=(a.at 5).1;have:=a.p.cells.1.2.2.1;have:=a.p.lt;have:=qd a.blk
 first | (go_region_law (refine yo (by rfl) _ _ 68 (by rfl) 149 _ 6 72 underlying68 Ys rfl (by decide) #[.int .i64 0,.int .i64 0,.string ⟨#[]⟩,.slice none 0 0,.int .i64 0,.int .i64 (qA T s).pos] s.stmts.length B (.slice g s.stmts.length i) (scl s.stmts F) Y (by rfl) (by rfl) rfl (by simp [Value.oneCell']) X (by omega) (by unfold maxLen;omega) ?_;intro _ _ J K L;have l:=H.p.addstmt ⟨0,0, [], [],0,(qA T s).pos⟩ _ _ aa L (by rw [r.out];exact K);have:=(show J.frozen? ⟨P,2,none⟩=false by simp [World.frozen?,l.1]);have k9:=(show J.cell? ⟨P,2,none⟩=some (.slice g s.stmts.length i) by simp [World.cell?,l.1]);have M:=Z l;clear K L l)) | (fail "region")
 all_goals
  go_wp2_with fail;go_end0;exact ⟨rfl,V.trans M.2.1,_,_,_,_,_,M.2.2⟩
theorem zl5 (f:PSt B P T h s A D E F G W)(aA:s.stmts.length≤64)(aB:s.stmts.length≠64)(t:pIs T s [105,110,112,117,116]=false)(u:pIs T s [108,101,116]=false)(v:pIs T s [111,117,116,112,117,116]=false):
  Calls prog 101 #[.pointer (some ⟨P,0,none⟩)] W (zcU B P T h (zib (zv T (zR s 130) [59]) ⟨0,0, [], [],0,(qA T s).pos⟩) W):=by
 obtain ⟨i,j,rfl,_,-⟩:=qg f.stm;have g:=Z f;have ai:=f.blt;have:=f.lt;have:((s.stmts.length:Int)==64)=false:=by simp;omega
 obtain ⟨m,k⟩:∃m,zv T (zR s 130) [59]=m:=⟨_,rfl⟩;have w:m.stmts=s.stmts:=by rw [←k];exact ((Adv.fail T s 130).trans (Adv.want T _ [59])).stmts
 rw [k];have aj:=Z k;have x:=Z w;have ak:=Z t;have al:=Z u;have am:=Z v;clear f k w t u v;go_enter func101,ntmps101;go_upto_region 18 with (first | (go_at_call 157;refine (Qp y.p _ [59] rfl).mono ?_;rw [aj.out];rintro d b ⟨rfl,_,n,_,_,z⟩;have C:=y.call n z;have H:=an.trans n.low;have a:=Z C;have ao:=Z H;clear n z C H) | (go_at_call 152;refine (Yg I.p _).mono ?_;rintro d _ ⟨rfl,_,o,_,_,J⟩;have K:=I.call o J;have L:=ap.trans o.low;have y:=Z K;have an:=Z L;clear o J K L) | (go_at_call 153;refine (yp M.p _ [111,117,116,112,117,116] rfl).mono ?_;rw [am.out,if_neg (by simp)];rintro d _ ⟨rfl,_,p,_,_,N⟩;have O:=M.call p N;have Q:=aq.trans p.low;have I:=Z O;have ap:=Z Q;clear p N O Q) | (go_at_call 153;refine (yp R.p _ [108,101,116] rfl).mono ?_;rw [al.out,if_neg (by simp)];rintro d _ ⟨rfl,_,q,_,_,S⟩;have U:=R.call q S;have V:=ar.trans q.low;have M:=Z U;have aq:=Z V;clear q S U V) | (go_at_call 153;refine (yp X.p _ [105,110,112,117,116] rfl).mono ?_;rw [ak.out,if_neg (by simp)];rintro d _ ⟨rfl,_,r,_,_,Y⟩;have aa:=X.call r Y;have ab:=au.trans r.low;have R:=Z aa;have ar:=Z ab;clear r Y aa ab) | (go_at_call 100;refine (qS g).mono ?_;rintro d c ⟨rfl,e⟩;have:=e.size;have:=(g.later e).lt;have:=(g.later e).cells.1.2.2.1;have:=fun av=>yD (qA T s) av;have X:=Z (show QSt B P c.heap.size T h s (.slice i s.stmts.length j) D E F G [.int .i64 0,.int .i64 0,.string ⟨#[]⟩,.slice none 0 0,.int .i64 0,.int .i64 (qA T s).pos] (c.alloc (.cells #[.int .i64 0,.int .i64 0,.string ⟨#[]⟩,.slice none 0 0,.int .i64 0,.int .i64 (qA T s).pos] 149)) from ⟨(g.later e).alloc _,heap_alloc_new _ _,fun d=>by have:=(g.stm.lt _ d).2;omega,by omega⟩);have au:=Z ((e.mono ai).alloc (by omega) (.cells #[.int .i64 0,.int .i64 0,.string ⟨#[]⟩,.slice none 0 0,.int .i64 0,.int .i64 (qA T s).pos] 149));clear e));have ac:=Z (a.later (Below.refl _ _).drew);have aw:=Z ao.drew;have ax:=a.p.blt;have ay:=Z (show b.drew.ownsRow B 149 6 (.slice i s.stmts.length j) s.stmts.length (scl s.stmts F) by have ad:=ac.p.stm;rw [x.out] at ad;exact ad);have az:=Z (show b.drew.ownsRow B 3 1 (.slice none 0 0) 0 (ints []) from World.ownsRow_nil _ _ _ _);have:b.cell? ⟨c.heap.size,0,none⟩=some (.int .i64 0):=(a.at 0).1;have:b.cell? ⟨c.heap.size,1,none⟩=some (.int .i64 0):=(a.at 1).1;have:b.cell? ⟨c.heap.size,2,none⟩=some (.string ⟨#[]⟩):=(a.at 2).1;have:b.cell? ⟨c.heap.size,3,none⟩=some (.slice none 0 0):=(a.at 3).1;have:b.cell? ⟨c.heap.size,4,none⟩=some (.int .i64 0):=(a.at 4).1;have:b.cell? ⟨c.heap.size,5,none⟩=some (.int .i64 (qA T s).pos):=(a.at 5).1;have:=a.p.cells.1.2.2.1;have:=a.p.lt;have:=qd a.blk
 first | (go_region_law (refine yo (by rfl) _ _ 68 (by rfl) 149 _ 6 72 underlying68 Ys rfl (by decide) #[.int .i64 0,.int .i64 0,.string ⟨#[]⟩,.slice none 0 0,.int .i64 0,.int .i64 (qA T s).pos] s.stmts.length B (.slice i s.stmts.length j) (scl s.stmts F) ay (by rfl) (by rfl) rfl (by simp [Value.oneCell']) ax (by omega) (by unfold maxLen;omega) ?_;intro _ _ ae af ag;have l:=ac.p.addstmt ⟨0,0, [], [],0,(qA T s).pos⟩ _ _ az ag (by rw [x.out];exact af);have:=(show ae.frozen? ⟨P,2,none⟩=false by simp [World.frozen?,l.1]);have k9:=(show ae.cell? ⟨P,2,none⟩=some (.slice i s.stmts.length j) by simp [World.cell?,l.1]);have ah:=Z l;clear af ag l)) | (fail "region")
 all_goals
  go_wp2_with fail;go_end0;exact ⟨rfl,aw.trans ah.2.1,_,_,_,_,_,ah.2.2⟩
theorem ziA (j:PSt B P T h s A D E F G W)(aJ:s.stmts.length≤64)(aK:s.stmts.length≠64)(z:pIs T s [105,110,112,117,116]=false)(C:pIs T s [108,101,116]=false)(q:pIs T s [111,117,116,112,117,116]=true):
  Calls prog 101 #[.pointer (some ⟨P,0,none⟩)] W (zcU B P T h (zib (zv T (Yy T (qr s)).1 [59]) ⟨3,0,(Yy T (qr s)).2, [],0,(qA T s).pos⟩) W):=by
 obtain ⟨l,m,rfl,_,-⟩:=qg j.stm;have k:=Z j;have an:=j.blt;have:=j.lt;have:((s.stmts.length:Int)==64)=false:=by simp;omega
 have:=(zD q).1;obtain ⟨H,r⟩:∃ao,Yy T (qr s)=ao:=⟨_,rfl⟩;have n:=(Adv.name T (qr s)).stmts;rw [r] at n ⊢;obtain ⟨I,e⟩:=H;simp only at n ⊢;obtain ⟨t,o⟩:∃t,zv T I [59]=t:=⟨_,rfl⟩;have J:t.stmts=s.stmts:=by rw [←o,(Adv.want T I [59]).stmts,n];rfl
 rw [o];have ap:=Z o;have aq:=Z r;have K:=Z J;have ar:=Z z;have au:=Z C;have av:=Z q;clear j o J z C q r n;go_enter func101,ntmps101;go_upto_region 18 with (first | (go_at_call 157;refine (Qp L.p _ [59] rfl).mono ?_;rw [ap.out];rintro d c ⟨rfl,_,u,_,_,M⟩;have N:=L.call u M;have O:=aw.trans u.low;have a:=Z N;have ax:=Z O;clear u M N O) | (go_at_call 155;refine (zeI Q.p).mono ?_;rw [aq.out];rintro d ay ⟨rfl,_,v,_,_,R⟩;have f:=Q.call v R;have S:=az.trans v.low;have:ay.cell? ⟨b.heap.size,2,none⟩=some (.string ⟨#[]⟩):=(f.at 2).1;have H:=(f.at 2).2;have:=qd f.blk;have L:=Z (f.set 2 (.string (qx e)) [.int .i64 3,.int .i64 0,.string (qx e),.slice none 0 0,.int .i64 0,.int .i64 (qA T s).pos] rfl);have aw:=Z (Below.set S f.hB 2 (.string (qx e)));clear v R f S) | (go_at_call 153;refine (yp U.p _ [111,117,116,112,117,116] rfl).mono ?_;rw [av.out,if_pos rfl];rintro d aA ⟨rfl,_,w,_,_,V⟩;have g:=U.call w V;have X:=aB.trans w.low;have:aA.cell? ⟨b.heap.size,0,none⟩=some (.int .i64 0):=(g.at 0).1;have:=(g.at 0).2;have:=qd g.blk;have Q:=Z (g.set 0 (.int .i64 3) [.int .i64 3,.int .i64 0,.string ⟨#[]⟩,.slice none 0 0,.int .i64 0,.int .i64 (qA T s).pos] rfl);have az:=Z (Below.set X g.hB 0 (.int .i64 3));clear w V g X) | (go_at_call 153;refine (yp Y.p _ [108,101,116] rfl).mono ?_;rw [au.out,if_neg (by simp)];rintro d _ ⟨rfl,_,x,_,_,aa⟩;have ab:=Y.call x aa;have ac:=aC.trans x.low;have U:=Z ab;have aB:=Z ac;clear x aa ab ac) | (go_at_call 153;refine (yp ad.p _ [105,110,112,117,116] rfl).mono ?_;rw [ar.out,if_neg (by simp)];rintro d _ ⟨rfl,_,y,_,_,ae⟩;have af:=ad.call y ae;have ag:=aD.trans y.low;have Y:=Z af;have aC:=Z ag;clear y ae af ag) | (go_at_call 100;refine (qS k).mono ?_;rintro d b ⟨rfl,i⟩;have:=i.size;have:=(k.later i).lt;have:=(k.later i).cells.1.2.2.1;have:=fun aE=>yD (qA T s) aE;have ad:=Z (show QSt B P b.heap.size T h s (.slice l s.stmts.length m) D E F G [.int .i64 0,.int .i64 0,.string ⟨#[]⟩,.slice none 0 0,.int .i64 0,.int .i64 (qA T s).pos] (b.alloc (.cells #[.int .i64 0,.int .i64 0,.string ⟨#[]⟩,.slice none 0 0,.int .i64 0,.int .i64 (qA T s).pos] 149)) from ⟨(k.later i).alloc _,heap_alloc_new _ _,fun d=>by have:=(k.stm.lt _ d).2;omega,by omega⟩);have aD:=Z ((i.mono an).alloc (by omega) (.cells #[.int .i64 0,.int .i64 0,.string ⟨#[]⟩,.slice none 0 0,.int .i64 0,.int .i64 (qA T s).pos] 149));clear i));have ah:=Z (a.later (Below.refl _ _).drew);have aF:=Z ax.drew;have aG:=a.p.blt;have aH:=Z (show c.drew.ownsRow B 149 6 (.slice l s.stmts.length m) s.stmts.length (scl s.stmts F) by have ai:=ah.p.stm;rw [K.out] at ai;exact ai);have aI:=Z (show c.drew.ownsRow B 3 1 (.slice none 0 0) 0 (ints []) from World.ownsRow_nil _ _ _ _);have:c.cell? ⟨b.heap.size,0,none⟩=some (.int .i64 3):=(a.at 0).1;have:c.cell? ⟨b.heap.size,1,none⟩=some (.int .i64 0):=(a.at 1).1;have:c.cell? ⟨b.heap.size,2,none⟩=some (.string (qx e)):=(a.at 2).1;have:c.cell? ⟨b.heap.size,3,none⟩=some (.slice none 0 0):=(a.at 3).1;have:c.cell? ⟨b.heap.size,4,none⟩=some (.int .i64 0):=(a.at 4).1;have:c.cell? ⟨b.heap.size,5,none⟩=some (.int .i64 (qA T s).pos):=(a.at 5).1;have:=a.p.cells.1.2.2.1;have:=a.p.lt;have:=qd a.blk
 first | (go_region_law (refine yo (by rfl) _ _ 68 (by rfl) 149 _ 6 72 underlying68 Ys rfl (by decide) #[.int .i64 3,.int .i64 0,.string (qx e),.slice none 0 0,.int .i64 0,.int .i64 (qA T s).pos] s.stmts.length B (.slice l s.stmts.length m) (scl s.stmts F) aH (by rfl) (by rfl) rfl (by simp [Value.oneCell']) aG (by omega) (by unfold maxLen;omega) ?_;intro _ _ aj ak al;have p:=ah.p.addstmt ⟨3,0,e, [],0,(qA T s).pos⟩ _ _ aI al (by rw [K.out];exact ak);have:=(show aj.frozen? ⟨P,2,none⟩=false by simp [World.frozen?,p.1]);have k9:=(show aj.cell? ⟨P,2,none⟩=some (.slice l s.stmts.length m) by simp [World.cell?,p.1]);have am:=Z p;clear ak al p)) | (fail "region")
 all_goals
  go_wp2_with fail;go_end0;exact ⟨rfl,aF.trans am.2.1,_,_,_,_,_,am.2.2⟩
theorem znE (m:PSt B P T h s A D E F G W)(a0:s.stmts.length≤64)(a1:s.stmts.length≠64)(a2:s.exprs.length≤s.pos)(O:pIs T s [105,110,112,117,116]=false)(w:pIs T s [108,101,116]=true):
  Calls prog 101 #[.pointer (some ⟨P,0,none⟩)] W (zcU B P T h (zib (zv T (pGo T (zcF T) .expr (zv T (Yy T (qr s)).1 [61])).1 [59]) ⟨2,0,(Yy T (qr s)).2, [],(pGo T (zcF T) .expr (zv T (Yy T (qr s)).1 [61])).2,(qA T s).pos⟩) W):=by
 obtain ⟨o,p,rfl,_,-⟩:=qg m.stm;have n:=Z m;have aB:=m.blt;have a3:=m.lt;have a4:((s.stmts.length:Int)==64)=false:=by simp;omega
 have a5:=(zD w).1;obtain ⟨aC,x⟩:∃y,Yy T (qr s)=y:=⟨_,rfl⟩;have q:=Adv.name T (qr s);rw [x] at q ⊢;obtain ⟨Q,e⟩:=aC;simp only at q ⊢;obtain ⟨f,z⟩:∃f,zv T Q [61]=f:=⟨_,rfl⟩;have r:=q.trans (Adv.want T Q [61]);rw [z] at r ⊢;obtain ⟨R,C⟩:∃y,pGo T (zcF T) .expr f=y:=⟨_,rfl⟩;have t:=r.trans (Adv.go T (zcF T) .expr f);rw [C] at t ⊢;obtain ⟨S,g⟩:=R;simp only at t ⊢;obtain ⟨H,u⟩:∃H,zv T S [59]=H:=⟨_,rfl⟩;have U:H.stmts=s.stmts:=by rw [←u,(Adv.want T S [59]).stmts,t.stmts];rfl
 have aD:f.exprs.length≤f.pos:=by have:=r.exprs;simp only [qr] at this;omega
 have aE:yu T .expr f≤zcF T:=by simp only [yu,Qm,zcF];omega
 rw [u];have aF:=Z z;have aG:=Z u;have aH:=Z x;have aI:=Z C;have V:=Z U;have aJ:=Z O;have aK:=Z w;clear m z u U O w x C q r t;go_enter func101,ntmps101;go_upto_region 18 with (first | (go_at_call 157;refine (Qp X.p _ [59] rfl).mono ?_;rw [aG.out];rintro c d ⟨rfl,_,I,_,_,Y⟩;have aa:=X.call I Y;have ab:=aL.trans I.low;have a:=Z aa;have aM:=Z ab;clear I Y aa ab) | (go_at_call 158;refine ((zpt B P T h (zcF T)).1 ac.p aD aE).mono ?_;rw [aI.out];rintro c aN ⟨rfl,_,J,_,_,ad⟩;have i:=ac.call J ad;have ae:=aO.trans J.low;have a6:aN.cell? ⟨b.heap.size,4,none⟩=some (.int .i64 0):=(i.at 4).1;have R:=(i.at 4).2;have a7:=qd i.blk;have X:=Z (i.set 4 (.int .i64 g) [.int .i64 2,.int .i64 0,.string (qx e),.slice none 0 0,.int .i64 g,.int .i64 (qA T s).pos] rfl);have aL:=Z (Below.set ae i.hB 4 (.int .i64 g));clear J ad i ae) | (go_at_call 157;refine (Qp af.p _ [61] rfl).mono ?_;rw [aF.out];rintro c _ ⟨rfl,_,K,_,_,ag⟩;have ah:=af.call K ag;have ai:=aP.trans K.low;have ac:=Z ah;have aO:=Z ai;clear K ag ah ai) | (go_at_call 155;refine (zeI aj.p).mono ?_;rw [aH.out];rintro c aQ ⟨rfl,_,L,_,_,ak⟩;have j:=aj.call L ak;have al:=aR.trans L.low;have a8:aQ.cell? ⟨b.heap.size,2,none⟩=some (.string ⟨#[]⟩):=(j.at 2).1;have a9:=(j.at 2).2;have ba:=qd j.blk;have af:=Z (j.set 2 (.string (qx e)) [.int .i64 2,.int .i64 0,.string (qx e),.slice none 0 0,.int .i64 0,.int .i64 (qA T s).pos] rfl);have aP:=Z (Below.set al j.hB 2 (.string (qx e)));clear L ak j al) | (go_at_call 153;refine (yp am.p _ [108,101,116] rfl).mono ?_;rw [aK.out,if_pos rfl];rintro c aS ⟨rfl,_,M,_,_,an⟩;have k:=am.call M an;have ao:=aT.trans M.low;have bb:aS.cell? ⟨b.heap.size,0,none⟩=some (.int .i64 0):=(k.at 0).1;have bc:=(k.at 0).2;have bd:=qd k.blk;have aj:=Z (k.set 0 (.int .i64 2) [.int .i64 2,.int .i64 0,.string ⟨#[]⟩,.slice none 0 0,.int .i64 0,.int .i64 (qA T s).pos] rfl);have aR:=Z (Below.set ao k.hB 0 (.int .i64 2));clear M an k ao) | (go_at_call 153;refine (yp ap.p _ [105,110,112,117,116] rfl).mono ?_;rw [aJ.out,if_neg (by simp)];rintro c _ ⟨rfl,_,N,_,_,aq⟩;have ar:=ap.call N aq;have au:=aU.trans N.low;have am:=Z ar;have aT:=Z au;clear N aq ar au) | (go_at_call 100;refine (qS n).mono ?_;rintro c b ⟨rfl,l⟩;have be:=l.size;have bf:=(n.later l).lt;have bg:=(n.later l).cells.1.2.2.1;have bh:=fun aV=>yD (qA T s) aV;have ap:=Z (show QSt B P b.heap.size T h s (.slice o s.stmts.length p) D E F G [.int .i64 0,.int .i64 0,.string ⟨#[]⟩,.slice none 0 0,.int .i64 0,.int .i64 (qA T s).pos] (b.alloc (.cells #[.int .i64 0,.int .i64 0,.string ⟨#[]⟩,.slice none 0 0,.int .i64 0,.int .i64 (qA T s).pos] 149)) from ⟨(n.later l).alloc _,heap_alloc_new _ _,fun c=>by have:=(n.stm.lt _ c).2;omega,by omega⟩);have aU:=Z ((l.mono aB).alloc (by omega) (.cells #[.int .i64 0,.int .i64 0,.string ⟨#[]⟩,.slice none 0 0,.int .i64 0,.int .i64 (qA T s).pos] 149));clear l));have av:=Z (a.later (Below.refl _ _).drew);have aW:=Z aM.drew;have aX:=a.p.blt;have aY:=Z (show d.drew.ownsRow B 149 6 (.slice o s.stmts.length p) s.stmts.length (scl s.stmts F) by have aw:=av.p.stm;rw [V.out] at aw;exact aw);have aZ:=Z (show d.drew.ownsRow B 3 1 (.slice none 0 0) 0 (ints []) from World.ownsRow_nil _ _ _ _);have bi:d.cell? ⟨b.heap.size,0,none⟩=some (.int .i64 2):=(a.at 0).1;have bj:d.cell? ⟨b.heap.size,1,none⟩=some (.int .i64 0):=(a.at 1).1;have bk:d.cell? ⟨b.heap.size,2,none⟩=some (.string (qx e)):=(a.at 2).1;have bl:d.cell? ⟨b.heap.size,3,none⟩=some (.slice none 0 0):=(a.at 3).1;have bm:d.cell? ⟨b.heap.size,4,none⟩=some (.int .i64 g):=(a.at 4).1;have bn:d.cell? ⟨b.heap.size,5,none⟩=some (.int .i64 (qA T s).pos):=(a.at 5).1;have bo:=a.p.cells.1.2.2.1;have bp:=a.p.lt;have bq:=qd a.blk
 first | (go_region_law (refine yo (by rfl) _ _ 68 (by rfl) 149 _ 6 72 underlying68 Ys rfl (by decide) #[.int .i64 2,.int .i64 0,.string (qx e),.slice none 0 0,.int .i64 g,.int .i64 (qA T s).pos] s.stmts.length B (.slice o s.stmts.length p) (scl s.stmts F) aY (by rfl) (by rfl) rfl (by simp [Value.oneCell']) aX (by omega) (by unfold maxLen;omega) ?_;intro _ _ ax ay az;have v:=av.p.addstmt ⟨2,0,e, [],g,(qA T s).pos⟩ _ _ aZ az (by rw [V.out];exact ay);have br:=(show ax.frozen? ⟨P,2,none⟩=false by simp [World.frozen?,v.1]);have k9:=(show ax.cell? ⟨P,2,none⟩=some (.slice o s.stmts.length p) by simp [World.cell?,v.1]);have aA:=Z v;clear ay az v)) | (fail "region")
 all_goals
  go_wp2_with fail;go_end0;exact ⟨rfl,aW.trans aA.2.1,_,_,_,_,_,aA.2.2⟩
theorem zj5 (p:PSt B P T h s A D E F G W)(aY:s.stmts.length≤64)(aZ:s.stmts.length≠64)(H:pIs T s [105,110,112,117,116]=true):
  Calls prog 101 #[.pointer (some ⟨P,0,none⟩)] W (zcU B P T h (zib (zv T (Y3 T (Yy T (ze T (qr s)).1).1).1 [59]) ⟨1,(ze T (qr s)).2,(Yy T (ze T (qr s)).1).2,(Y3 T (Yy T (ze T (qr s)).1).1).2,0,(qA T s).pos⟩) W):=by
 obtain ⟨t,u,rfl,_,-⟩:=qg p.stm;have q:=Z p;have aC:=p.blt;have:=p.lt;have:((s.stmts.length:Int)==64)=false:=by simp;omega
 have:=(zD H).1;obtain ⟨U,I⟩:∃r,ze T (qr s)=r:=⟨_,rfl⟩;have v:=(Adv.number T (qr s)).stmts;rw [I] at v ⊢;obtain ⟨V,d⟩:=U;simp only at v ⊢;obtain ⟨X,J⟩:∃r,Yy T V=r:=⟨_,rfl⟩;have w:=(Adv.name T V).stmts;rw [J] at w ⊢;obtain ⟨Y,f⟩:=X;simp only at w ⊢;obtain ⟨aa,K⟩:∃r,Y3 T Y=r:=⟨_,rfl⟩;have x:=(Adv.shape T Y).stmts;rw [K] at x ⊢;obtain ⟨ab,c⟩:=aa;simp only at x ⊢;obtain ⟨L,y⟩:∃L,zv T ab [59]=L:=⟨_,rfl⟩;have ac:L.stmts=s.stmts:=by rw [←y,(Adv.want T ab [59]).stmts,x,w,v];rfl
 rw [y];have aD:=Z y;have aE:=Z I;have aF:=Z J;have aG:=Z K;have ad:=Z ac;have aH:=Z H;clear p y ac H I J K v w x;go_enter func101,ntmps101;go_upto_region 18 with (first | (go_at_call 157;refine (Qp ae.p _ [59] rfl).mono ?_;rw [aD.out];rintro g e ⟨rfl,_,z,_,_,af⟩;have ag:=ae.call z af;have ah:=aI.trans z.low;have b:=Z ag;have aJ:=Z ah;have aK:=Z (z.owns aL (by decide) (by decide));clear z af ag ah) | (go_at_call 156;refine (zlV M.p).mono ?_;rw [aG.out];rintro g ai ⟨_,rfl,N,_,O,_,_,aj⟩;obtain ⟨i,j,rfl,-,-⟩:=qg N;have k:=M.call O aj;have ak:=aM.trans O.low;have:ai.cell? ⟨a.heap.size,3,none⟩=some (.slice none 0 0):=(k.at 3).1;have aa:=(k.at 3).2;have:=qd k.blk;have aL:=Z (qp (qk N M.p.blt) (qh ai a.heap.size 3 (.slice i c.length j)) (Off.block k.blk (by decide)));have ae:=Z (k.set 3 (.slice i c.length j) [.int .i64 1,.int .i64 d,.string (qx f),.slice i c.length j,.int .i64 0,.int .i64 (qA T s).pos] rfl);have aI:=Z (Below.set ak k.hB 3 (.slice i c.length j));clear O aj k ak N) | (go_at_call 155;refine (zeI al.p).mono ?_;rw [aF.out];rintro g aN ⟨rfl,_,Q,_,_,am⟩;have l:=al.call Q am;have an:=aO.trans Q.low;have:aN.cell? ⟨a.heap.size,2,none⟩=some (.string ⟨#[]⟩):=(l.at 2).1;have X:=(l.at 2).2;have:=qd l.blk;have M:=Z (l.set 2 (.string (qx f)) [.int .i64 1,.int .i64 d,.string (qx f),.slice none 0 0,.int .i64 0,.int .i64 (qA T s).pos] rfl);have aM:=Z (Below.set an l.hB 2 (.string (qx f)));clear Q am l an) | (go_at_call 154;refine (Z0 ao.p).mono ?_;rw [aE.out];rintro g aP ⟨rfl,_,R,_,_,ap⟩;have m:=ao.call R ap;have aq:=aQ.trans R.low;have:aP.cell? ⟨a.heap.size,1,none⟩=some (.int .i64 0):=(m.at 1).1;have U:=(m.at 1).2;have:=qd m.blk;have al:=Z (m.set 1 (.int .i64 d) [.int .i64 1,.int .i64 d,.string ⟨#[]⟩,.slice none 0 0,.int .i64 0,.int .i64 (qA T s).pos] rfl);have aO:=Z (Below.set aq m.hB 1 (.int .i64 d));clear R ap m aq) | (go_at_call 153;refine (yp ar.p _ [105,110,112,117,116] rfl).mono ?_;rw [aH.out,if_pos rfl];rintro g aR ⟨rfl,_,S,_,_,au⟩;have n:=ar.call S au;have av:=aS.trans S.low;have:aR.cell? ⟨a.heap.size,0,none⟩=some (.int .i64 0):=(n.at 0).1;have:=(n.at 0).2;have:=qd n.blk;have ao:=Z (n.set 0 (.int .i64 1) [.int .i64 1,.int .i64 0,.string ⟨#[]⟩,.slice none 0 0,.int .i64 0,.int .i64 (qA T s).pos] rfl);have aQ:=Z (Below.set av n.hB 0 (.int .i64 1));clear S au n av) | (go_at_call 100;refine (qS q).mono ?_;rintro g a ⟨rfl,o⟩;have:=o.size;have:=(q.later o).lt;have:=(q.later o).cells.1.2.2.1;have:=fun aT=>yD (qA T s) aT;have ar:=Z (show QSt B P a.heap.size T h s (.slice t s.stmts.length u) D E F G [.int .i64 0,.int .i64 0,.string ⟨#[]⟩,.slice none 0 0,.int .i64 0,.int .i64 (qA T s).pos] (a.alloc (.cells #[.int .i64 0,.int .i64 0,.string ⟨#[]⟩,.slice none 0 0,.int .i64 0,.int .i64 (qA T s).pos] 149)) from ⟨(q.later o).alloc _,heap_alloc_new _ _,fun g=>by have:=(q.stm.lt _ g).2;omega,by omega⟩);have aS:=Z ((o.mono aC).alloc (by omega) (.cells #[.int .i64 0,.int .i64 0,.string ⟨#[]⟩,.slice none 0 0,.int .i64 0,.int .i64 (qA T s).pos] 149));clear o));have aw:=Z (b.later (Below.refl _ _).drew);have aU:=Z aJ.drew;have aV:=b.p.blt;have aW:=Z (show e.drew.ownsRow B 149 6 (.slice t s.stmts.length u) s.stmts.length (scl s.stmts F) by have ax:=aw.p.stm;rw [ad.out] at ax;exact ax);have aX:=Z (show e.drew.ownsRow B 3 1 (.slice i c.length j) c.length (ints c) from Below.owns aK (Below.refl _ _).drew);have:e.cell? ⟨a.heap.size,0,none⟩=some (.int .i64 1):=(b.at 0).1;have:e.cell? ⟨a.heap.size,1,none⟩=some (.int .i64 d):=(b.at 1).1;have:e.cell? ⟨a.heap.size,2,none⟩=some (.string (qx f)):=(b.at 2).1;have:e.cell? ⟨a.heap.size,3,none⟩=some (.slice i c.length j):=(b.at 3).1;have:e.cell? ⟨a.heap.size,4,none⟩=some (.int .i64 0):=(b.at 4).1;have:e.cell? ⟨a.heap.size,5,none⟩=some (.int .i64 (qA T s).pos):=(b.at 5).1;have:=b.p.cells.1.2.2.1;have:=b.p.lt;have:=qd b.blk
 first | (go_region_law (refine yo (by rfl) _ _ 68 (by rfl) 149 _ 6 72 underlying68 Ys rfl (by decide) #[.int .i64 1,.int .i64 d,.string (qx f),.slice i c.length j,.int .i64 0,.int .i64 (qA T s).pos] s.stmts.length B (.slice t s.stmts.length u) (scl s.stmts F) aW (by rfl) (by rfl) rfl (by simp [Value.oneCell']) aV (by omega) (by unfold maxLen;omega) ?_;intro _ _ ay az aA;have C:=aw.p.addstmt ⟨1,d,f,c,0,(qA T s).pos⟩ _ _ aX aA (by rw [ad.out];exact az);have:=(show ay.frozen? ⟨P,2,none⟩=false by simp [World.frozen?,C.1]);have k9:=(show ay.cell? ⟨P,2,none⟩=some (.slice t s.stmts.length u) by simp [World.cell?,C.1]);have aB:=Z C;clear az aA C)) | (fail "region")
 all_goals
  go_wp2_with fail;go_end0;exact ⟨rfl,aU.trans aB.2.1,_,_,_,_,_,aB.2.2⟩
theorem znD (b:PSt B P T h s A D E F G W)(c:s.stmts.length≤64)(d:s.exprs.length≤s.pos):
  Calls prog 101 #[.pointer (some ⟨P,0,none⟩)] W (zcU B P T h (ZZ T s) W):=by
 simp only [ZZ,Zq]
 by_cases a:s.stmts.length=64
 ·rw [if_pos a];exact zj4 b c a
 rw [if_neg a];rcases hi:pIs T s [105,110,112,117,116] with _ | _
 rotate_left
 ·rw [if_pos rfl];exact zj5 b c a hi
 rw [if_neg (by simp)];rcases hj:pIs T s [108,101,116] with _ | _
 rotate_left
 ·rw [if_pos rfl];exact znE b c a d hi hj
 rw [if_neg (by simp)];rcases hk:pIs T s [111,117,116,112,117,116] with _ | _
 rotate_left
 ·rw [if_pos rfl];exact ziA b c a hi hj hk
 rw [if_neg (by simp)];exact zl5 b c a hi hj hk
def zd2 (B:Nat)(W:World)(e f:Value)(a:List MStmt)(b:List MExpr):Prop:=
 ∃c d,W.ownsRow B 149 6 e a.length (scl a c)∧W.ownsRow B 146 5 f b.length (ecl b d)∧qj B W c (a.map (·.shape))∧qj B W d (b.map fun g=>g.args.map Int.ofNat)
def zbh (w:World)(r:Except Int (List MStmt×List MExpr))(e:Ending)(a:World):Prop:=
 Below w.heap.size w a∧match r with
  |.ok b=>∃c d,e= .returned (.tuple #[.agg #[c,d],.nilIface])∧zd2 w.heap.size a c d b.1 b.2
  |.error g=>∃f h i,e= .returned (.tuple #[.agg #[.slice none 0 0,.slice none 0 0],f])∧zH a.heap.size a [(h,i)] g f
theorem zag:(prog.info? 71).map (·.size)=some 2:=by kernel_rfl
theorem zl6 (a:List MTok)(f:Nat)(s:PS)(b:s.err≠none):za6 a f s=s:=by
 cases f with
 |zero=>rfl
 |succ f=>
  rw [za6,if_neg];rcases he:s.err with _ | c
  ·exact absurd he b
  ·simp
theorem zmh {d:World}{b:Nat}{e f a c:Value}(g:d.heap[b]? =some (.cells #[e,f] t fr)):
  ((d.setCell ⟨b,0,none⟩ a).setCell ⟨b,1,none⟩ c).heap[b]? =some (.cells #[a,c] t fr):=by rw [heap_setCell (heap_setCell g _) _];rfl
theorem frz (a:W.heap[S]? =some (.cells J t (0,0)))(j:Nat):W.frozen? ⟨S,j,none⟩=false:=by simp [World.frozen?,a]
theorem Zx {j:Nat}{x:Value}(e:W.heap[S]? =some (.cells J t fr))(f:t≠83){d:ByteArray}{a c:Int}{v:Value}(g:zH B W [(d,a)] c v):zH B (W.setCell ⟨S,j,none⟩ x) [(d,a)] c v:=by
 obtain ⟨h,i,k,l,b,m⟩:=g;refine ⟨h,i,k,l,(qe (fun n=> ?_) _).trans b,m⟩;subst n;rw [e] at b;cases b;exact f rfl
theorem zfX (a:List MTok)(V:Value)(w:World)(H:w.ownsRow 0 217 4 V a.length (Yd a))(aA:a.length≤513)(X:∀n∈a,∀aB∈n.text,aB<256)(I:yC w):
  Calls prog 65 #[V] w (zbh w (zeC a)):=by
 have aC:=Z H;have aD:=Z X;have aE:=Z I;have:0<w.heap.size:=World.block_lt_of_cell? w _ I;obtain ⟨e,J⟩:∃e,za6 a (a.length+1) ⟨0, [], [],0,none⟩=e:=⟨_,rfl⟩;have aF:=Z J;have K:zeC a=match e.err with | some y=> .error y | none=> .ok (e.stmts,e.exprs):=by unfold zeC;rw [J];rfl
 obtain ⟨z,Y⟩:∃z,zeC a=z:=⟨_,rfl⟩;rw [Y] at K ⊢;have aa:=Z K;obtain ⟨o,p,rfl,-,-⟩:=qg H;clear H X I J K Y;go_enter func65,ntmps65;go_wp2_with fail;have ab:=Z (show PSt (w.heap.size+1) (w.heap.size+1) a (.slice o a.length p) ⟨0, [], [],0,none⟩ (.slice none 0 0) (.slice none 0 0) .nilIface [] [] ((w.alloc (.cells #[.slice none 0 0,.slice none 0 0] 71)).alloc (.cells #[.slice o a.length p,.int .i64 0,.slice none 0 0,.slice none 0 0,.int .i64 0,.nilIface] 222)) from
  ⟨heap_alloc2_new _ _ _,(aC.alloc _).alloc _,World.ownsRow_nil _ _ _ _,World.ownsRow_nil _ _ _ _,trivial,trivial,rfl,Nat.le_refl _,aA,Nat.zero_le _,aD,Nat.zero_le _,by omega,aE.below (qm _ _ _)⟩)
 have L:=Z (qm w (.cells #[.slice none 0 0,.slice none 0 0] 71) (.cells #[.slice o a.length p,.int .i64 0,.slice none 0 0,.slice none 0 0,.int .i64 0,.nilIface] 222));have ac:=Z (heap_alloc2_old w (.cells #[.slice none 0 0,.slice none 0 0] 71) (.cells #[.slice o a.length p,.int .i64 0,.slice none 0 0,.slice none 0 0,.int .i64 0,.nilIface] 222));generalize World.alloc (World.alloc w _) _=aG at ab L ac ⊢;go_loopg [] (a.length+1) (fun aH wr=>∃(f:Nat) (b:PS),aH=f∧(a.length<b.pos+f∨b.err≠none)∧b.exprs.length≤b.pos∧(b.stmts.length≤64∨b.err≠none)∧Hid (za6 a f b=e)∧Hid (Below (w.heap.size+1) aG wr)∧Hid (∃ad ae af ag ah,PSt (w.heap.size+1) (w.heap.size+1) a (.slice o a.length p) b ad ae af ag ah wr))
 case atStart=>exact ⟨a.length+1,_,rfl,.inl (by simp),by simp,.inl (by simp),aF,Below.refl _ _,_,_,_,_,_,ab⟩
 case round=>
  obtain ⟨f,b,_,A,aI,B,h,C,aJ⟩:=hrel;obtain ⟨ad,ae,af,ag,ah,d⟩:=aJ.out;obtain ⟨_,_,rfl,-,-⟩:=qg d.stm;obtain ⟨_,_,rfl,-,-⟩:=qg d.exp;have q:=Z d;have:=d.lt;obtain ⟨⟨_,_,_,_,_,_⟩,_⟩:=d.cells;have i:=(C.block w.heap.size (by omega)).trans ac;have D:=Z i;have:=(show _=some (Value.slice none 0 0) from yL i |>.1);have:=(show _=some (Value.slice none 0 0) from yL i |>.2);have:=(frz i 0);have:=(frz i 1);clear i;rcases d.errs with ⟨c,rfl⟩ | ⟨aK,_,_,c,rfl⟩
  ·by_cases E:(qA a b).kind=0
   ·have r:e=b:=by
     rw [←h.out];cases f with
     |zero=>rfl
     |succ s=>rw [za6,if_neg (by rw [E];simp)]
    have M:((qA a b).kind:Int)=0:=by omega
    have ai:=fun w=>YZ (qA a b) w
    rw [M] at ai;have F:=Z c;have N:=Z r;clear d c E M h A B r;go_wp2_with (go_at_call 100;refine (qS q).mono ?_;rintro y t ⟨rfl,g⟩;have G:=q.later g;have:=G.lt;obtain ⟨⟨_,_,_,_,_,_⟩,_⟩:=G.cells;have k:=(g.block w.heap.size (by omega)).trans D;have u:=Z k;have u0:=(yL k).1;have u1:=(yL k).2;have:=frz k 0;have:=frz k 1;have l:=Z G;have O:=Z g;clear G k g);refine bodyPost_ret (ql rfl _ _ w.heap.size 71 _ _ _ rfl (zmh u) underlying71 rfl zag) rfl ⟨Below.set (Below.set ((L.trans (C.mono (Nat.le_succ _))).trans (O.mono (by omega))) (Nat.le_refl _) 0 _) (Nat.le_refl _) 1 _,?_⟩;rw [show z= .ok (b.stmts,b.exprs) by rw [aa.out,N.out,F.out]];have v:∀{aj:Nat} {n:TypeId} {v:Nat} {ak:Value} {al:Nat} {am:List Value} {P Q:Value},t.ownsRow aj n v ak al am→n≠71→((t.setCell ⟨w.heap.size,0,none⟩ P).setCell ⟨w.heap.size,1,none⟩ Q).ownsRow aj n v ak al am:=fun aL an=>
     qp (qp aL (qh _ _ _ _) (Off.block u (Ne.symm an))) (qh _ _ _ _) (Off.block (by rw [heap_setCell u.out]) (Ne.symm an))
    have ao:∀{ap:List Value} {aq:List (List Int)} {P Q:Value},qj (w.heap.size+1) t ap aq→qj w.heap.size ((t.setCell ⟨w.heap.size,0,none⟩ P).setCell ⟨w.heap.size,1,none⟩ Q) ap aq:=fun aM=>
     qj.base (Nat.le_succ _) ((aM.kept (qh _ _ _ _) (Off.block u (by decide))).kept (qh _ _ _ _) (Off.block (by rw [heap_setCell u.out]) (by decide)))
    exact ⟨_,_,rfl,_,_,v (qk l.stm (Nat.le_succ _)) (by decide),v (qk l.exp (Nat.le_succ _)) (by decide),ao l.sn,ao l.en⟩
   ·have:=Zi E
    have:a.length<b.pos+f:=A.resolve_right (by rw [c];simp);obtain ⟨s,rfl⟩:∃s,f=s+1:=⟨f-1,by omega⟩;have ai:=fun w=>YZ (qA a b) w
    have M:(((qA a b).kind:Int) != 0)=true:=by simp;omega
    have aN:b.stmts.length≤64:=by rcases B with m | m;exact m;exact absurd c m
    have R:=h.out;rw [za6,if_pos (by rw [c];simp;omega)] at R;have ar:=Z R;obtain ⟨au,aO,aP,aQ,aR⟩:=znC a b;have av:=Z (zl4 a b);obtain ⟨T,U⟩:∃T,ZZ a b=T:=⟨_,rfl⟩;rw [U] at au aO aP aQ aR av ar;have aS:=Z U;clear d c E h B R U A;go_wp2_with (first | (go_at_call 101;refine (znD l aN aI).mono ?_;rw [aS.out];rintro y _ ⟨rfl,aw,_,_,_,_,_,ax⟩;have aT:=Z ax;have aU:=Z (O.trans aw);clear ax aw) | (go_at_call 100;refine (qS q).mono ?_;rintro y t ⟨rfl,g⟩;have l:=Z (q.later g);have O:=Z (C.trans (g.mono (by omega)));clear g));go_roundg s
    case measure=>omega
    case rel=>
     refine ⟨s,T,rfl,?_,by omega,?_,ar,aU,_,_,_,_,_,aT⟩
     ·rcases au with m | m
      ·exact .inr m
      ·exact .inl (by omega)
     ·by_cases aV:b.stmts.length=64
      ·exact .inr (av aV)
      ·exact .inl (by omega)
  ·have r:e=b:=by rw [←h.out];exact zl6 _ _ _ (by rw [c];simp)
   have F:=Z c;have N:=Z r;clear d c h A B r;have ay:=q.err;rw [F.out] at ay;obtain ⟨aW,aX,az⟩:=ay;have aY:=Z az;clear az;go_wp2_with fail
   first | go_region | (fail "region")
   all_goals
    (try go_wp2_with fail)
    refine bodyPost_ret (ql rfl _ _ w.heap.size 71 _ _ _ rfl (zmh D) underlying71 rfl zag) rfl ⟨(Below.set (Below.set (L.trans (C.mono (Nat.le_succ _))) (Nat.le_refl _) 0 _) (Nat.le_refl _) 1 _).drew,?_⟩;rw [show z= .error aK by rw [aa.out,N.out,F.out]];refine ⟨_,aW,aX,rfl,?_⟩;have aZ:=Zx (j:=1) (x:= .slice none 0 0) (W:=wr.setCell ⟨w.heap.size,0,none⟩ (.slice none 0 0)) (S:=w.heap.size) (by rw [heap_setCell D.out]) (by decide) (Zx (j:=0) (x:= .slice none 0 0) D (by decide) aY);simp only [World.size_drew,World.size_setCell];exact aZ
theorem zjJ {pos c:Nat}{r:List Nat}{t:MTok}(a:zh8 pos c r=some t)(e:∀b∈c::r,b<256):∀b∈t.text,b<256:=by
 unfold zh8 at a
 split at a
 ·simp only at a
  split at a
  ·obtain rfl:=Option.some.inj a
   exact fun b d=>e b (List.takeWhile_subset _ d)
  ·cases a
 ·split at a
  ·simp only at a
   split at a
   ·obtain rfl:=Option.some.inj a
    exact fun b d=>e b (List.takeWhile_subset _ d)
   ·cases a
  ·split at a
   ·obtain rfl:=Option.some.inj a
    intro b d;simp at d;omega
   ·split at a
    ·obtain rfl:=Option.some.inj a
     intro b d;simp at d;subst d;exact e _ (by simp)
    ·cases a
theorem ziv (n0:Nat):∀(g:Nat) (j:List Nat) (f e:List MTok),zbM n0 g j f= .ok e→(∀c∈j,c<256)→(∀d∈f,∀c∈d.text,c<256)→f.length≤512→e.length≤513∧∀d∈e,∀c∈d.text,c<256
 |0,_,_,_,a,_,_,_=>by simp [zbM] at a
 |g+1, [],f,e,a,_,h,m=>by
  simp only [zbM,Except.ok.injEq] at a;subst a;refine ⟨by simp;omega,fun d i=> ?_⟩;rcases List.mem_append.1 i with b | b
  ·exact h d b
  ·simp at b;subst b;simp
 |g+1,n::o,f,e,a,k,h,m=>by
  simp only [zbM] at a
  split at a
  ·cases a
  ·rename_i d i
   split at a
   ·cases a
   ·rename_i s
    refine ziv n0 g _ _ e a (fun c l=> ?_) (fun p q=> ?_) (by simp;omega)
    ·obtain ⟨_,_,r⟩:=Qy ((n::o).drop d.text.length) false
     rw [r] at l;exact k c (List.mem_of_mem_drop (List.mem_of_mem_drop l))
    ·rcases List.mem_append.1 q with b | b
     ·exact h p b
     ·simp at b;subst b;exact zjJ i k
theorem zm3 {l:List Nat}(b:zfN l= .ok T)(d:∀a∈l,a<256):T.length≤513∧∀e∈T,∀a∈e.text,a<256:=by
 unfold zfN at b
 split at b
 ·cases b
 ·obtain ⟨_,_,f⟩:=Qy l false
  exact ziv _ _ _ _ _ b (fun a c=>by rw [f] at c;exact d a (List.mem_of_mem_drop c)) (by simp) (by simp)
theorem znH (s:ByteArray)(w:World)(M:yC w)(N:YP w):Calls prog 31 #[.string s] w (zbh w (zh0 (qF s))):=by
 have h:=Z (M.below ((Below.refl _ _).alloc (Nat.le_refl _) (.cells #[.slice none 0 0,.slice none 0 0] 71)));have u:=Z (N.below ((Below.refl _ _).alloc (Nat.le_refl _) (.cells #[.slice none 0 0,.slice none 0 0] 71)));have g:=Z ((Below.refl w.heap.size w).alloc (Nat.le_refl _) (.cells #[.slice none 0 0,.slice none 0 0] 71));obtain ⟨v,d⟩:∃v,zh0 (qF s)=v:=⟨_,rfl⟩;rw [d];unfold zh0 at d;have y:=zm8 s;clear M N;rcases hM:zfN (qF s) with ah | O
 ·rw [hM] at d
  simp only at d;have o:=Z d;have p:=Z hM;clear d hM y;go_enter func31,ntmps31;go_wp2_with (go_at_call 64;refine (ze1 s _ h u).mono ?_;unfold zch;rw [p.out];rintro q r ⟨b,t,z,A,rfl,i⟩;have a:=(b.block w.heap.size (by rw [World.size_alloc];omega)).trans (heap_alloc_new w _);have c:=Z a;have P:=(yL a).1;have Q:=(yL a).2;have R:=frz a 0;have T:=frz a 1;have B:=Z i;have k:=Z (g.trans (b.mono g.size));obtain ⟨ai,aj,rfl,-,-,-⟩:=i;clear b a);refine bodyPost_ret (ql rfl _ _ w.heap.size 71 _ _ _ rfl (zmh c) underlying71 rfl zag) rfl ⟨Below.set (Below.set k (Nat.le_refl _) 0 _) (Nat.le_refl _) 1 _,?_⟩;rw [←o.out];refine ⟨_,z,A,rfl,?_⟩;have C:=Zx (j:=1) (x:= .slice none 0 0) (S:=w.heap.size) (by rw [heap_setCell c.out]) (by decide) (Zx (j:=0) (x:= .slice none 0 0) c (by decide) B);simp only [World.size_setCell];exact C
 ·rw [hM] at d
  simp only at d;obtain ⟨U,V⟩:=zm3 hM y;have o:=Z d;have p:=Z hM;have W:=Z V;clear d hM y V;rcases v with ah | ⟨_,_⟩
  ·go_enter func31,ntmps31
   go_wp2_with (first | (go_at_call 65;refine (zfX O _ _ D U W E).mono ?_;unfold zbh;rw [o.out];rintro q l ⟨f,t,z,A,rfl,i⟩;have a:=(f.block w.heap.size (by omega)).trans F;have c:=Z a;have P:=(yL a).1;have Q:=(yL a).2;have R:=frz a 0;have T:=frz a 1;have B:=Z i;have k:=Z (m.trans (f.mono m.size));obtain ⟨ai,aj,rfl,-,-,-⟩:=i;clear f a) | (go_at_call 64;refine (ze1 s _ h u).mono ?_;unfold zch;rw [p.out];rintro q r ⟨b,ak,rfl,e⟩;have D:=Z (qk e (Nat.zero_le _));have a:=(b.block w.heap.size (by rw [World.size_alloc];omega)).trans (heap_alloc_new w _);have F:=Z a;have al:=qd a;have E:=Z (h.below b);have m:=Z (g.trans (b.mono g.size));obtain ⟨am,an,rfl,-,-⟩:=qg e;clear b a e));refine bodyPost_ret (ql rfl _ _ w.heap.size 71 _ _ _ rfl (zmh c) underlying71 rfl zag) rfl ⟨Below.set (Below.set k (Nat.le_refl _) 0 _) (Nat.le_refl _) 1 _,?_⟩;refine ⟨_,z,A,rfl,?_⟩;have C:=Zx (j:=1) (x:= .slice none 0 0) (S:=w.heap.size) (by rw [heap_setCell c.out]) (by decide) (Zx (j:=0) (x:= .slice none 0 0) c (by decide) B);simp only [World.size_setCell];exact C
  ·go_enter func31,ntmps31
   go_wp2_with (first | (go_at_call 65;refine (zfX O _ _ D U W E).mono ?_;unfold zbh;rw [o.out];rintro q l ⟨f,_,_,rfl,_,_,G,H,X,Y⟩;have a:=(f.block w.heap.size (by omega)).trans F;have c:=Z a;have P:=(yL a).1;have Q:=(yL a).2;have R:=frz a 0;have T:=frz a 1;have ao:=Z G;have ap:=Z H;have aq:=Z X;have ar:=Z Y;have k:=Z (m.trans (f.mono m.size));obtain ⟨_,_,rfl,-,-⟩:=qg G;obtain ⟨_,_,rfl,-,-⟩:=qg H;clear f a G H X Y) | (go_at_call 64;refine (ze1 s _ h u).mono ?_;unfold zch;rw [p.out];rintro q r ⟨b,ak,rfl,e⟩;have D:=Z (qk e (Nat.zero_le _));have a:=(b.block w.heap.size (by rw [World.size_alloc];omega)).trans (heap_alloc_new w _);have F:=Z a;have al:=qd a;have I:w.heap.size≤r.heap.size:=(by omega);have E:=Z (h.below b);have m:=Z (g.trans (b.mono g.size));obtain ⟨am,an,rfl,-,-⟩:=qg e;clear b a e));refine bodyPost_ret (ql rfl _ _ w.heap.size 71 _ _ _ rfl (zmh c) underlying71 rfl zag) rfl ⟨Below.set (Below.set k (Nat.le_refl _) 0 _) (Nat.le_refl _) 1 _,?_⟩;have n:∀{aa:Nat} {J:TypeId} {n:Nat} {t:Value} {ab:Nat} {ac:List Value} {K L:Value},l.ownsRow aa J n t ab ac→J≠71→((l.setCell ⟨w.heap.size,0,none⟩ K).setCell ⟨w.heap.size,1,none⟩ L).ownsRow aa J n t ab ac:=fun e ad=>
    qp (qp e (qh _ _ _ _) (Off.block c (Ne.symm ad))) (qh _ _ _ _) (Off.block (by rw [heap_setCell c.out]) (Ne.symm ad))
   have ae:∀{af:List Value} {ag:List (List Int)} {K L:Value},qj r.heap.size l af ag→qj w.heap.size ((l.setCell ⟨w.heap.size,0,none⟩ K).setCell ⟨w.heap.size,1,none⟩ L) af ag:=fun au=>
    qj.base I ((au.kept (qh _ _ _ _) (Off.block c (by decide))).kept (qh _ _ _ _) (Off.block (by rw [heap_setCell c.out]) (by decide)))
   exact ⟨_,_,rfl,_,_,n (qk ao I) (by decide),n (qk ap I) (by decide),ae aq,ae ar⟩
end Go.Proofs.YtklofgfkaaoipaaGreatDoor
