/-
  THE WALK of twainref09.operand.
-/
import Derived.Test.YtklofgfkaaoipaaGreatDoorMRefSame1
import Derived.Deep.RegionLaw
import Derived.Test.YtklofgfkaaoipaaGreatDoorMHd
set_option maxHeartbeats 16000000
set_option maxRecDepth 100000
set_option linter.unusedSimpArgs false
set_option linter.unusedVariables false
namespace Go.Proofs.YtklofgfkaaoipaaGreatDoor
open Go.RowKit Go.Proofs.Tryz
variable {w W R:World}{N on E g c G H I J:Nat}{D:Option Addr}{O A M Q:Value}{h T:List Gate}{l K L:List Int}{F:Int}
theorem zea (base:Nat)(e:Nat)(d:List Gate)(f:Value)(l:Option Addr)(on m:Nat)(a b c:Int)(w:World)(s:w.ownsRow base 269 3 f d.length (yT d))(t:base≤w.heap.size)(u:e≤1000)(v:d.length≤90000):
  Calls prog 191 #[.agg #[.int .i64 e,f,.slice l on m],.int .i64 a,.int .i64 b,.int .i64 c] w fun o p=>
   ∃(g:Option Addr) (q c:Nat) (n:Int) (h i j k:Gate),o= .returned (.tuple #[.agg #[.int .i64 e,.slice g q c,.slice l on m],.int .i64 n])∧(h.k=1∧i.k=1∧j.k=2∧k.k=1)∧GStep base w p ((((d++[h])++[i])++[j])++[k]) f (.slice g q c):=
 (ziP base e d f l on m a b c w s t u v).mono fun o p ⟨z,n,h,i,j,k,x,y,r⟩=>by
  obtain ⟨g,c,rfl⟩:=zfB r;exact ⟨g,_,c,n,h,i,j,k,x,y,r⟩
theorem zab (a:List Gate)(g:Gate):yw (a++[g])=yw a+if g.k=2 then 1 else 0:=by
 unfold yw;rw [List.filter_append]
 by_cases b:g.k=2<;>simp [b]
theorem y7 (c:List Gate)(k a b:Int):yw (c++[⟨k,a,b⟩])=yw c+if k=2 then 1 else 0:=zab _ _
theorem zbR (b:List Gate)(c d e f:Gate)(a:c.k=1∧d.k=1∧e.k=2∧f.k=1):yw ((((b++[c])++[d])++[e])++[f])=yw b+1:=by
 rw [zab,zab,zab,zab,a.1,a.2.1,a.2.2.1,a.2.2.2];rfl
theorem qT (a:List Gate)(g:Gate):(a++[g]).length=a.length+1:=by simp
theorem yB (a:List Gate)(b c d e:Gate):((((a++[b])++[c])++[d])++[e]).length=a.length+4:=by simp
theorem Bx9.result {base:Nat}(a:Bx9 w base N D on E O h A W):
  (((W.setCell ⟨w.heap.size+1,0,none⟩ (.int .i64 N)).setCell ⟨w.heap.size+1,1,none⟩ A).setCell ⟨w.heap.size+1,2,none⟩ (.slice D on E)).heap[w.heap.size+1]? =some (.cells #[.int .i64 N,A,.slice D on E] 198 (0,0))∧
  GStep base w (((W.setCell ⟨w.heap.size+1,0,none⟩ (.int .i64 N)).setCell ⟨w.heap.size+1,1,none⟩ A).setCell ⟨w.heap.size+1,2,none⟩ (.slice D on E)) h O A:=
 ⟨set3 a.res _ _ _,a.st.set3 (by omega) a.res (by decide) _ _ _⟩
def ziK (base j:Nat)(k:Option Addr)(on l:Nat)(m:Value)(b:List Gate)(n:Nat)(w:World)(e:Ending)(c:World):Prop:=
 ∃(d:Option Addr) (f g:Nat) (h:Value) (i:List Int) (a:List Gate),e= .returned (.tuple #[.agg #[.int .i64 j,.slice d f g,.slice k on l],h])∧i.length=64∧c.ownsRow w.heap.size 3 1 h 64 (ints i)∧
  yw a=yw b+n∧a.length≤b.length+500∧GStep base w c a m (.slice d f g)
theorem zgS (base:Nat)(e:Nat)(f:List Gate)(n:Value)(g:Option Addr)(on h:Nat)(a b:Nat)(w:World)(q:w.ownsRow base 269 3 n f.length (yT f))(U:base≤w.heap.size)(V:e≤1000)(ai:f.length≤20000)(aj:a≤1000)(ak:b≤1000):
  Calls prog 140 #[.agg #[.int .i64 e,n,.slice g on h],.int .i64 a,.int .i64 b,.bool true] w (ziK base e g on h n f 0 w):=by
 obtain ⟨i,r,s,rfl⟩:∃i W t,n= .slice i W t:=(by obtain ⟨i,t,X,_⟩:=(Arr.of_owns q).open;exact ⟨i,_,t,X⟩);have C:=Z (Bx9.start e g on h q);clear q;go_enter func140,ntmps140;go_upto_region 1 with fail;generalize ((w.alloc (.cells #[.int .i64 e,.slice i r s,.slice g on h] 198)).alloc (.cells #[.int .i64 0,.slice none 0 0,.slice none 0 0] 198))=al at C ⊢;go_wp2_with fail;go_loopg [10,11,12,13] 64 (fun Y aa ab ac ad wr=>∃(c:Nat) (k:List Gate) (D:Option Addr) (E j:Nat) (u:Int) (F:Value),c≤64∧Y=64-c∧ac= .int .i64 c∧ab= .int .i64 u∧ad=F∧Hid (Ox9 w base e g on h (.slice i r s) k (.slice D E j) aa c wr)∧Hid (k.length≤f.length+6 * c∧yw k=yw f))
 case atStart=>exact ⟨0,f,i,r,s,0,_,by omega,rfl,rfl,rfl,rfl,Z (Ox9.start C),Z ⟨by omega,rfl⟩⟩
 case round=>
  obtain ⟨c,k,D,E,j,u,F,am,an,rfl,rfl,rfl,d,l⟩:=hrel;have ao:=d.bx.lt
  by_cases ap:c<64
  ·obtain ⟨⟨v,j,x⟩,y,z,A⟩:=d.bx.cells
   go_upto_region 8 with (go_at_call 141;go_must (refine (YV base e _ _ g on h _ _ _ _ d.bx.st.own (Nat.le_trans U d.bx.st.fr.size) V (by have:=l.1;first | omega | (simp only [qT,yB];omega))).mono ?_;rintro aq ae ⟨G,H,k2,ar,rfl,I⟩;have B:=d.call I;have J:=Z B;obtain ⟨⟨K,L,M⟩,N,O,P⟩:=B.mid.cells;clear B I v j x y z A));have m:=Z J.store
   skip
   clear K L M N O P J;generalize ((ae.setCell ⟨w.heap.size,0,none⟩ (.int .i64 e)).setCell ⟨w.heap.size,1,none⟩ (.slice G H k2)).setCell ⟨w.heap.size,2,none⟩ (.slice g on h)=au at m ⊢;obtain ⟨⟨v,j,x⟩,y,z,A⟩:=m.bx.cells;go_wp2_with (at_builtin;obtain ⟨Q,o,p⟩:=m.wires;refine yS rfl _ _ 24 rfl 3 _ 1 8 underlying24 zav rfl (by decide) #[_] _ _ _ _ p rfl rfl rfl (by intro av R;simp at R;subst R;rfl) (by have:=m.bx.lt;omega) (by omega) (by unfold maxLen;omega) ?_;intro aw ax S T _;go_must (have af:=Z (m.add T S o);clear S T p o));go_roundg (64-(c+1))
   case measure=>omega
   case rel=>exact ⟨c+1,_,G,H,k2,u,_,by omega,rfl,by go_num,rfl,rfl,af,Z ⟨by rw [qT];have:=l.1;omega,by rw [y7];have:=l.2;simpa using this⟩⟩
  ·obtain rfl:c=64:=by omega
   obtain ⟨⟨v,j,x⟩,y,z,A⟩:=d.bx.cells;obtain ⟨⟨K,L,M⟩,N,O,P⟩:=d.bx.rcells;go_wp2_with fail;obtain ⟨Q,o,p⟩:=d.wires;obtain ⟨ag,ah⟩:=d.bx.result;refine bodyPost_ret (ql rfl _ _ (w.heap.size+1) 198 #[_,_,_] _ _ rfl ag underlying198 rfl QM) rfl ?_;exact ⟨_,_,_,_,Q,k,rfl,o,qk (yJ d.bx.res (by decide) p _ _ _) (by omega),by have:=l.2;omega,by have:=l.1;omega,ah⟩
theorem zgR (base:Nat)(e:Nat)(D:List Gate)(M:Value)(g:Option Addr)(on h:Nat)(a b:Nat)(w:World)(Q:w.ownsRow base 269 3 M D.length (yT D))(N:base≤w.heap.size)(O:e≤1000)(aF:D.length≤20000)(aG:a≤1000)(aH:b≤1000):
  Calls prog 140 #[.agg #[.int .i64 e,M,.slice g on h],.int .i64 a,.int .i64 b,.bool false] w (ziK base e g on h M D 63 w):=by
 obtain ⟨E,R,S,rfl⟩:∃E al T,M= .slice E al T:=(by obtain ⟨E,T,am,_⟩:=(Arr.of_owns Q).open;exact ⟨E,_,T,am⟩);have W:=Z (Bx9.start e g on h Q);clear Q;go_enter func140,ntmps140;go_upto_region 1 with fail;generalize ((w.alloc (.cells #[.int .i64 e,.slice E R S,.slice g on h] 198)).alloc (.cells #[.int .i64 0,.slice none 0 0,.slice none 0 0] 198))=aI at W ⊢;go_wp2_with fail;go_loopg [10,11,12,13] 64 (fun an ao ap aq ar wr=>∃(c:Nat) (F:List Gate) (X:Option Addr) (Y i:Nat) (aa:Int) (ab:Value),c≤64∧an=64-c∧aq= .int .i64 c∧ap= .int .i64 aa∧ar=ab∧Hid (Ox9 w base e g on h (.slice E R S) F (.slice X Y i) ao c wr)∧Hid (F.length≤D.length+6 * c∧yw F=yw D+min c 63))
 case atStart=>exact ⟨0,D,E,R,S,0,_,by omega,rfl,rfl,rfl,rfl,Z (Ox9.start W),Z ⟨by omega,by omega⟩⟩
 case round=>
  obtain ⟨c,F,X,Y,i,aa,ab,aJ,aK,rfl,rfl,rfl,k,j⟩:=hrel;have aL:=k.bx.lt
  by_cases aM:c<64
  ·obtain ⟨⟨n,i,o⟩,p,q,r⟩:=k.bx.cells
   go_upto_region 8 with (go_at_call 141;go_must (refine (YV base e _ _ g on h _ _ _ _ k.bx.st.own (Nat.le_trans N k.bx.st.fr.size) O (by have:=j.1;first | omega | (simp only [qT,yB];omega))).mono ?_;rintro U au ⟨av,aw,k2,aN,rfl,ac⟩;have d:=k.call ac;have ad:=Z d;obtain ⟨⟨s,t,u⟩,v,x,y⟩:=d.mid.cells;clear d ac n i o p q r));have z:=Z ad.store
   skip
   clear s t u v x y ad;generalize ((au.setCell ⟨w.heap.size,0,none⟩ (.int .i64 e)).setCell ⟨w.heap.size,1,none⟩ (.slice av aw k2)).setCell ⟨w.heap.size,2,none⟩ (.slice g on h)=aO at z ⊢;obtain ⟨⟨n,i,o⟩,p,q,r⟩:=z.bx.cells
   by_cases ax:c=0
   ·subst ax
    go_upto_region 15 with (go_at_call 141;go_must (refine (YV base e _ _ g on h _ _ _ _ z.bx.st.own (Nat.le_trans N z.bx.st.fr.size) O (by have:=j.1;first | omega | (simp only [qT,yB];omega))).mono ?_;rintro U V ⟨G,H,k3,ay,rfl,I⟩;have d:=z.call I;have J:=Z d;obtain ⟨⟨s,t,u⟩,v,x,y⟩:=d.mid.cells;clear d I n i o p q r));have f:=Z J.store
    skip
    clear s t u v x y J;generalize ((V.setCell ⟨w.heap.size,0,none⟩ (.int .i64 e)).setCell ⟨w.heap.size,1,none⟩ (.slice G H k3)).setCell ⟨w.heap.size,2,none⟩ (.slice g on h)=az at f ⊢;obtain ⟨⟨n,i,o⟩,p,q,r⟩:=f.bx.cells;go_wp2_with (at_builtin;obtain ⟨P,l,m⟩:=f.wires;refine yS rfl _ _ 24 rfl 3 _ 1 8 underlying24 zav rfl (by decide) #[_] _ _ _ _ m rfl rfl rfl (by intro ae A;simp at A;subst A;rfl) (by have:=f.bx.lt;omega) (by omega) (by unfold maxLen;omega) ?_;intro af ag B C _;go_must (have K:=Z (f.add C B l);clear B C m l));go_roundg (64-(0+1))
    case measure=>omega
    case rel=>exact ⟨0+1,_,G,H,k3,_,_,by omega,rfl,by go_num,rfl,rfl,K,Z ⟨by simp only [qT,yB];have:=j.1;omega,by rw [y7,y7,if_neg (by decide),if_pos rfl];have:=j.2;omega⟩⟩
   ·have aP:((c:Int)==0)=false:=by simp;omega
    go_upto_region 13 with (go_at_call 141;go_must (refine (YV base e _ _ g on h _ _ _ _ z.bx.st.own (Nat.le_trans N z.bx.st.fr.size) O (by have:=j.1;first | omega | (simp only [qT,yB];omega))).mono ?_;rintro U V ⟨G,H,k3,ay,rfl,I⟩;have d:=z.call I;have J:=Z d;obtain ⟨⟨s,t,u⟩,v,x,y⟩:=d.mid.cells;clear d I n i o p q r));have f:=Z J.store
    skip
    clear s t u v x y J;generalize ((V.setCell ⟨w.heap.size,0,none⟩ (.int .i64 e)).setCell ⟨w.heap.size,1,none⟩ (.slice G H k3)).setCell ⟨w.heap.size,2,none⟩ (.slice g on h)=az at f ⊢;obtain ⟨⟨n,i,o⟩,p,q,r⟩:=f.bx.cells
    by_cases aQ:c<63
    ·have aA:decide ((c:Int)<63)=true:=by simp;omega
     go_upto_region 15 with (go_at_call 191;go_must (refine (zea base e _ _ g on h _ _ _ _ f.bx.st.own (Nat.le_trans N f.bx.st.fr.size) O (by have:=j.1;first | omega | (simp only [qT,yB];omega))).mono ?_;rintro U aB ⟨ah,ai,k4,aR,aS,aT,aU,aV,rfl,aC,aj⟩;have d:=f.call aj;have ak:=Z d;obtain ⟨⟨s,t,u⟩,v,x,y⟩:=d.mid.cells;clear d aj n i o p q r));have L:=Z ak.store
     skip
     clear s t u v x y ak;generalize ((aB.setCell ⟨w.heap.size,0,none⟩ (.int .i64 e)).setCell ⟨w.heap.size,1,none⟩ (.slice ah ai k4)).setCell ⟨w.heap.size,2,none⟩ (.slice g on h)=aW at L ⊢;obtain ⟨⟨n,i,o⟩,p,q,r⟩:=L.bx.cells;go_wp2_with (at_builtin;obtain ⟨P,l,m⟩:=L.wires;refine yS rfl _ _ 24 rfl 3 _ 1 8 underlying24 zav rfl (by decide) #[_] _ _ _ _ m rfl rfl rfl (by intro ae A;simp at A;subst A;rfl) (by have:=L.bx.lt;omega) (by omega) (by unfold maxLen;omega) ?_;intro af ag B C _;go_must (have K:=Z (L.add C B l);clear B C m l));go_roundg (64-(c+1))
     case measure=>omega
     case rel=>exact ⟨c+1,_,ah,ai,k4,_,_,by omega,rfl,by go_num,rfl,rfl,K,Z ⟨by simp only [qT,yB];have:=j.1;omega,by rw [zbR _ _ _ _ _ aC,y7,y7,if_neg (by decide)];have:=j.2;omega⟩⟩
    ·have aA:decide ((c:Int)<63)=false:=by simp;omega
     go_wp2_with (at_builtin;obtain ⟨P,l,m⟩:=f.wires;refine yS rfl _ _ 24 rfl 3 _ 1 8 underlying24 zav rfl (by decide) #[_] _ _ _ _ m rfl rfl rfl (by intro ae A;simp at A;subst A;rfl) (by have:=f.bx.lt;omega) (by omega) (by unfold maxLen;omega) ?_;intro af ag B C _;go_must (have K:=Z (f.add C B l);clear B C m l));go_roundg (64-(c+1))
     case measure=>omega
     case rel=>exact ⟨c+1,_,G,H,k3,_,_,by omega,rfl,by go_num,rfl,rfl,K,Z ⟨by simp only [qT,yB];have:=j.1;omega,by rw [y7,y7,if_neg (by decide)];have:=j.2;omega⟩⟩
  ·obtain rfl:c=64:=by omega
   obtain ⟨⟨n,i,o⟩,p,q,r⟩:=k.bx.cells;obtain ⟨⟨s,t,u⟩,v,x,y⟩:=k.bx.rcells;go_wp2_with fail;obtain ⟨P,l,m⟩:=k.wires;obtain ⟨aD,aE⟩:=k.bx.result;refine bodyPost_ret (ql rfl _ _ (w.heap.size+1) 198 #[_,_,_] _ _ rfl aD underlying198 rfl QM) rfl ?_;exact ⟨_,_,_,_,P,F,rfl,l,qk (yJ k.bx.res (by decide) m _ _ _) (by omega),by have:=j.2;omega,by have:=j.1;omega,aE⟩
structure Lx9 (w:World)(base N:Nat)(oo:Option Addr)(on oc:Nat)(gv0:Value)(gs:List Gate)(gv:Value)(gx cx gy cy:Nat)(lx ly:List Int)(W:World):Prop where
 bx:Bx9 w base N oo on oc gv0 gs gv W
 x:W.ownsRow 0 3 1 (.slice (some ⟨gx,0,none⟩) 64 cx) 64 (ints lx)
 y:W.ownsRow 0 3 1 (.slice (some ⟨gy,0,none⟩) 64 cy) 64 (ints ly)
structure Lm9 (w:World)(base N:Nat)(oo:Option Addr)(on oc:Nat)(gv0 gv:Value)(gs:List Gate)(gv1:Value)(gx cx gy cy:Nat)(lx ly:List Int)(W:World):Prop where
 mid:Mid9 w base N oo on oc gv0 gv gs gv1 W
 x:W.ownsRow 0 3 1 (.slice (some ⟨gx,0,none⟩) 64 cx) 64 (ints lx)
 y:W.ownsRow 0 3 1 (.slice (some ⟨gy,0,none⟩) 64 cy) 64 (ints ly)
theorem ZW (a:W.ownsRow 0 3 1 (.slice (some ⟨g,0,none⟩) 64 c) 64 (ints l))(k:Nat)(b:k<64):W.cell? ⟨g,k,none⟩=some (.int .i64 (l.getD k 0)):=by
 have d:l.length=64:=by have:=a.1;simpa [ints] using this
 have:=a.cellAt k (by omega);simp only [ints,List.getElem?_map,List.getElem?_eq_getElem (show k<l.length by omega),Option.map_some] at this;simpa [List.getD,show k<l.length by omega] using this
theorem Lx9.xat {base:Nat}(a:Lx9 w base N D on E O h A G H I J K L W)(k:Nat)(b:k<64):W.cell? ⟨G,k,none⟩=some (.int .i64 (K.getD k 0)):=ZW a.x k b
theorem Lx9.yat {base:Nat}(a:Lx9 w base N D on E O h A G H I J K L W)(k:Nat)(b:k<64):W.cell? ⟨I,k,none⟩=some (.int .i64 (L.getD k 0)):=ZW a.y k b
theorem Lx9.call {base:Nat}(a:Lx9 w base N D on E O h A G H I J K L W)(g:GStep base W R T A M):Lm9 w base N D on E O A T M G H I J K L R:=
 ⟨a.bx.call g,a.bx.ints g a.x,a.bx.ints g a.y⟩
theorem Lm9.xat {base:Nat}(a:Lm9 w base N D on E O A h M G H I J K L W)(k:Nat)(b:k<64):W.cell? ⟨G,k,none⟩=some (.int .i64 (K.getD k 0)):=ZW a.x k b
theorem Lm9.yat {base:Nat}(a:Lm9 w base N D on E O A h M G H I J K L W)(k:Nat)(b:k<64):W.cell? ⟨I,k,none⟩=some (.int .i64 (L.getD k 0)):=ZW a.y k b
theorem Lm9.store {base:Nat}(a:Lm9 w base N D on E O A h M G H I J K L W):
  Lx9 w base N D on E O h M G H I J K L (((W.setCell ⟨w.heap.size,0,none⟩ (.int .i64 N)).setCell ⟨w.heap.size,1,none⟩ M).setCell ⟨w.heap.size,2,none⟩ (.slice D on E)):=
 ⟨a.mid.store,yJ a.mid.box (by decide) a.x _ _ _,yJ a.mid.box (by decide) a.y _ _ _⟩
theorem Bx9.drew {base:Nat}(a:Bx9 w base N D on E O h A W):Bx9 w base N D on E O h A W.drew:=⟨a.box,a.res,a.st.drew⟩
theorem Mid9.drew {base:Nat}(a:Mid9 w base N D on E O A h M W):Mid9 w base N D on E O A h M W.drew:=⟨a.box,a.res,a.st.drew⟩
theorem Lx9.drew {base:Nat}(a:Lx9 w base N D on E O h A G H I J K L W):Lx9 w base N D on E O h A G H I J K L W.drew:=⟨a.bx.drew,a.x,a.y⟩
def zmb (base g:Nat)(h:Option Addr)(on i:Nat)(j:Value)(b:List Gate)(w:World)(e:Ending)(k:World):Prop:=
 ∃(c:Option Addr) (d f:Nat) (l:Int) (a:List Gate),e= .returned (.tuple #[.agg #[.int .i64 g,.slice c d f,.slice h on i],.int .i64 l])∧
  yw a=yw b+64∧a.length≤b.length+500∧GStep base w k a j (.slice c d f)
theorem zlc (base:Nat)(f:Nat)(q:List Gate)(ad:Value)(g:Option Addr)(on h x y z A:Nat)(w:World)(ag:w.ownsRow base 269 3 ad q.length (yT q))(K:base≤w.heap.size)(L:f≤1000)(a2:q.length≤20000)
  (s t:List Int) (ar:w.ownsRow 0 3 1 (.slice (some ⟨x,0,none⟩) 64 y) 64 (ints s)) (au:w.ownsRow 0 3 1 (.slice (some ⟨z,0,none⟩) 64 A) 64 (ints t)):
  Calls prog 142 #[.agg #[.int .i64 f,ad,.slice g on h],.slice (some ⟨x,0,none⟩) 64 y,.slice (some ⟨z,0,none⟩) 64 A] w (zmb base f g on h ad q w):=by
 obtain ⟨u,M,N,rfl⟩:∃u aI ah,ad= .slice u aI ah:=(by obtain ⟨u,ah,aJ,_⟩:=(Arr.of_owns ag).open;exact ⟨u,_,ah,aJ⟩);have D:=Z (show Lx9 w base f g on h _ q _ x y z A s t _ from ⟨Bx9.start f g on h ag,Below.owns ar (qm _ _ _),Below.owns au (qm _ _ _)⟩);have v:=Z (show q.length≤q.length∧True by exact ⟨Nat.le_refl _,trivial⟩);clear ag ar au;go_enter func142,ntmps142;go_upto_region 1 with fail;generalize ((w.alloc (.cells #[.int .i64 f,.slice u M N,.slice g on h] 198)).alloc (.cells #[.int .i64 0,.slice none 0 0,.slice none 0 0] 198))=a3 at D ⊢;obtain ⟨⟨j,e,k⟩,l,m,n⟩:=D.bx.cells;have b:=D.xat 0 (by omega);obtain ⟨i,c⟩:∃i,s.getD 0 0=i:=⟨_,rfl⟩;rw [c] at b;go_cut [8] from 11 to 18 (fun E F=>∃(G:Option Addr) (H I:Nat) (J:Int) (o:List Gate),E= .int .i64 J∧Hid (Lx9 w base f g on h (.slice u M N) o (.slice G H I) x y z A s t F)∧Hid (o.length≤q.length+1∧yw o=yw q+0))
 case first=>
  go_region_law (first | (go_simp;go_at_call 141;refine (YV base f _ _ g on h _ _ _ _ D.drew.bx.st.own (Nat.le_trans K D.drew.bx.st.fr.size) L (by have:=v.1;omega)).mono ?_;rintro O a4 ⟨av,aw,k1,ax,rfl,ay⟩;have a:=D.drew.call ay;have aK:=Z a;obtain ⟨⟨P,Q,R⟩,S,T,U⟩:=a.mid.cells;have aL:=a.xat 0 (by omega);rw [c] at aL;clear a b ay j e k l m n))
  all_goals
   have B:=Z aK.store
   (try go_simp)
   go_wp2_with fail;go_meet;exact ⟨av,aw,k1,ax,_,rfl,B,Z ⟨by simp only [qT,yB];omega,by rw [y7,if_neg (by decide)]⟩⟩
 case rest=>
 obtain ⟨av,aw,k1,ax,az,rfl,B,ae⟩:=hcut;clear b c j e k l m n;go_wp2_with fail;obtain ⟨⟨j,e,k⟩,l,m,n⟩:=B.bx.cells;have b:=B.yat 0 (by omega);obtain ⟨i,c⟩:∃i,t.getD 0 0=i:=⟨_,rfl⟩;rw [c] at b;go_cut [9] from 19 to 27 (fun E F=>∃(G:Option Addr) (H I:Nat) (J:Int) (o:List Gate),E= .int .i64 J∧Hid (Lx9 w base f g on h (.slice u M N) o (.slice G H I) x y z A s t F)∧Hid (o.length≤az.length+1∧yw o=yw az+1))
 case first=>
  go_region_law (first | (go_simp;go_at_call 141;refine (YV base f _ _ g on h _ _ _ _ B.drew.bx.st.own (Nat.le_trans K B.drew.bx.st.fr.size) L (by have:=ae.1;omega)).mono ?_;rintro O a5 ⟨ai,aj,k2,aA,rfl,aB⟩;have a:=B.drew.call aB;have aM:=Z a;obtain ⟨⟨P,Q,R⟩,S,T,U⟩:=a.mid.cells;have aN:=a.yat 0 (by omega);rw [c] at aN;clear a b aB j e k l m n))
  all_goals
   have af:=Z aM.store
   (try go_simp)
   go_wp2_with fail;go_meet;exact ⟨ai,aj,k2,aA,_,rfl,af,Z ⟨by simp only [qT,yB];omega,by rw [y7,if_pos rfl]⟩⟩
 case rest=>
 obtain ⟨ai,aj,k2,aA,a6,rfl,af,ak⟩:=hcut;clear b c j e k l m n;go_wp2_with fail;go_loopg [8,9,10] 62 (fun aO aP aQ aR wr=>∃(d:Nat) (C:List Gate) (aC:Option Addr) (aD e:Nat) (aE aF:Int),d≤63∧aO=63-d∧aR= .int .i64 d∧aP= .int .i64 aE∧aQ= .int .i64 aF∧Hid (Lx9 w base f g on h (.slice u M N) C (.slice aC aD e) x y z A s t wr)∧Hid (C.length≤q.length+5 * d∧yw C=yw q+d))
 case atStart=>exact ⟨1,_,ai,aj,k2,_,_,by omega,rfl,rfl,rfl,rfl,af,Z ⟨by have:=ae.1;have:=ak.1;omega,by have:=ae.2;have:=ak.2;omega⟩⟩
 case round=>
  clear D B af v ae ak;obtain ⟨d,C,aC,aD,e,aE,aF,a7,a8,rfl,rfl,rfl,r,v⟩:=hrel;have a9:=r.bx.lt
  by_cases ba:d<63
  ·have bb:(0:Int)≤(d:Int):=by omega
   have bc:(d:Int)<64:=by omega
   have bd:decide ((d:Int)<63)=true:=by simp;omega
   go_wp2_with fail;obtain ⟨⟨j,e,k⟩,l,m,n⟩:=r.bx.cells;have b:=r.xat d (by omega);obtain ⟨i,c⟩:∃i,s.getD d 0=i:=⟨_,rfl⟩;rw [c] at b;go_cut [8] from 32 to 40 (fun E F=>∃(G:Option Addr) (H I:Nat) (J:Int) (o:List Gate),E= .int .i64 J∧Hid (Lx9 w base f g on h (.slice u M N) o (.slice G H I) x y z A s t F)∧Hid (o.length≤C.length+1∧yw o=yw C+0))
   case first=>
    go_region_law (first | (go_simp;go_at_call 141;refine (YV base f _ _ g on h _ _ _ _ r.drew.bx.st.own (Nat.le_trans K r.drew.bx.st.fr.size) L (by have:=v.1;omega)).mono ?_;rintro O aS ⟨V,W,k4,X,rfl,Y⟩;have a:=r.drew.call Y;have al:=Z a;obtain ⟨⟨P,Q,R⟩,S,T,U⟩:=a.mid.cells;have am:=a.xat d (by omega);rw [c] at am;clear a b Y j e k l m n))
    all_goals
     have p:=Z al.store
     (try go_simp)
     go_wp2_with fail;go_meet;exact ⟨V,W,k4,X,_,rfl,p,Z ⟨by simp only [qT,yB];omega,by rw [y7,if_neg (by decide)]⟩⟩
   case rest=>
   obtain ⟨V,W,k4,X,an,rfl,p,aa⟩:=hcut;clear b c j e k l m n;go_wp2_with fail;have ab:=Z (show an.length≤q.length+5 * d+1∧True from ⟨by have:=v.1;have:=aa.1;omega,trivial⟩);obtain ⟨⟨j,e,k⟩,l,m,n⟩:=p.bx.cells;have b:=p.yat d (by omega);obtain ⟨i,c⟩:∃i,t.getD d 0=i:=⟨_,rfl⟩;rw [c] at b;go_region_law (first | (go_simp;go_at_call 191;refine (zea base f _ _ g on h _ _ _ _ p.drew.bx.st.own (Nat.le_trans K p.drew.bx.st.fr.size) L (by have:=ab.1;omega)).mono ?_;rintro O aT ⟨aG,aH,k5,aU,aV,aW,aX,aY,rfl,ao,ac⟩;have a:=p.drew.call ac;have ap:=Z a;obtain ⟨⟨P,Q,R⟩,S,T,U⟩:=a.mid.cells;have aq:=a.yat d (by omega);rw [c] at aq;clear a b ac j e k l m n))
   all_goals
    have aZ:=Z ap.store;go_wp2_with fail;go_roundg (63-(d+1))
    case measure=>omega
    case rel=>exact ⟨d+1,_,aG,aH,k5,_,_,by omega,rfl,by go_num,rfl,rfl,aZ,Z ⟨by simp only [yB];have:=ab.1;omega,by rw [zbR _ _ _ _ _ ao];have:=v.2;have:=aa.2;omega⟩⟩
  ·obtain rfl:d=63:=by omega
   go_wp2_with fail;obtain ⟨⟨j,e,k⟩,l,m,n⟩:=r.bx.cells;have b:=r.yat 63 (by omega);obtain ⟨i,c⟩:∃i,t.getD 63 0=i:=⟨_,rfl⟩;rw [c] at b;go_cut [8] from 52 to 59 (fun E F=>∃(G:Option Addr) (H I:Nat) (J:Int) (o:List Gate),E= .int .i64 J∧Hid (Lx9 w base f g on h (.slice u M N) o (.slice G H I) x y z A s t F)∧Hid (o.length≤C.length+1∧yw o=yw C+0))
   case first=>
    go_region_law (first | (go_simp;go_at_call 141;refine (YV base f _ _ g on h _ _ _ _ r.drew.bx.st.own (Nat.le_trans K r.drew.bx.st.fr.size) L (by have:=v.1;omega)).mono ?_;rintro O aS ⟨V,W,k4,X,rfl,Y⟩;have a:=r.drew.call Y;have al:=Z a;obtain ⟨⟨P,Q,R⟩,S,T,U⟩:=a.mid.cells;have am:=a.yat 63 (by omega);rw [c] at am;clear a b Y j e k l m n))
    all_goals
     have p:=Z al.store
     (try go_simp)
     go_wp2_with fail;go_meet;exact ⟨V,W,k4,X,_,rfl,p,Z ⟨by simp only [qT,yB];omega,by rw [y7,if_neg (by decide)]⟩⟩
   case rest=>
   obtain ⟨V,W,k4,X,an,rfl,p,aa⟩:=hcut;clear b c j e k l m n;go_wp2_with fail;have ab:=Z (show an.length≤q.length+5 * 63+1∧True from ⟨by have:=v.1;have:=aa.1;omega,trivial⟩);obtain ⟨⟨j,e,k⟩,l,m,n⟩:=p.bx.cells;have b:=p.xat 63 (by omega);obtain ⟨i,c⟩:∃i,s.getD 63 0=i:=⟨_,rfl⟩;rw [c] at b;go_region_law (first | (go_simp;go_at_call 191;refine (zea base f _ _ g on h _ _ _ _ p.drew.bx.st.own (Nat.le_trans K p.drew.bx.st.fr.size) L (by have:=ab.1;omega)).mono ?_;rintro O aT ⟨aG,aH,k5,aU,aV,aW,aX,aY,rfl,ao,ac⟩;have a:=p.drew.call ac;have ap:=Z a;obtain ⟨⟨P,Q,R⟩,S,T,U⟩:=a.mid.rcells;have aq:=a.xat 63 (by omega);rw [c] at aq;clear a b ac j e k l m n))
   all_goals
    go_wp2_with fail;obtain ⟨a0,a1⟩:=ap.mid.result (.slice g on h);refine bodyPost_ret (ql rfl _ _ (w.heap.size+1) 198 #[_,_,_] _ _ rfl a0 underlying198 rfl QM) rfl ?_;exact ⟨_,_,_,_,_,rfl,by rw [zbR _ _ _ _ _ ao];have:=v.2;have:=aa.2;omega,by simp only [yB];have:=ab.1;omega,a1⟩
theorem za8 (base:Nat)(d:Int)(c:List Gate)(e:Value)(f:Option Addr)(on g:Nat)(k a b:Int)(w:World)(l:w.ownsRow base 269 3 e c.length (yT c))(m:base≤w.heap.size)(n:0≤d∧d≤1000)(s:c.length≤20000):
  Calls prog 141 #[.agg #[.int .i64 d,e,.slice f on g],.int .i64 k,.int .i64 a,.int .i64 b] w fun o p=>
   ∃(h:Option Addr) (i j:Nat) (q:Int),o= .returned (.tuple #[.agg #[.int .i64 d,.slice h i j,.slice f on g],.int .i64 q])∧GStep base w p (c++[⟨k,a,b⟩]) e (.slice h i j):=by
 obtain ⟨r,rfl⟩:=Int.eq_ofNat_of_zero_le n.1;exact YV base r c e f on g k a b w l m (by omega) (by omega)
def zkb (base:Nat)(j:Int)(k:Option Addr)(on l:Nat)(m:Value)(c:List Gate)(n:Nat)(w:World)(e:Ending)(d:World):Prop:=
 ∃(f:Option Addr) (g h a i:Nat) (o:List Int) (b:List Gate),e= .returned (.tuple #[.agg #[.int .i64 j,.slice f g h,.slice k on l],.slice (some ⟨a,0,none⟩) 64 i])∧(d.ownsRow 0 3 1 (.slice (some ⟨a,0,none⟩) 64 i) 64 (ints o)∧w.heap.size≤a)∧
  (yw b=yw c+n∧b.length≤c.length+500)∧GStep base w d b m (.slice f g h)
theorem ZI (base:Nat)(i:Int)(c:List Gate)(d:Value)(g:Option Addr)(on h:Nat)(a b:Int)(k:Bool)(w:World)(n:w.ownsRow base 269 3 d c.length (yT c))(o:base≤w.heap.size)(u:0≤i∧i≤1000)(p:c.length≤20000)(v:0≤a∧a≤1000)(x:0≤b∧b≤1000):
  Calls prog 140 #[.agg #[.int .i64 i,d,.slice g on h],.int .i64 a,.int .i64 b,.bool k] w (zkb base i g on h d c (if k then 0 else 63) w):=by
 obtain ⟨j,rfl⟩:=Int.eq_ofNat_of_zero_le u.1;obtain ⟨q,rfl⟩:=Int.eq_ofNat_of_zero_le v.1;obtain ⟨r,rfl⟩:=Int.eq_ofNat_of_zero_le x.1;have s:∀l e f,ziK base j g on h d c l w e f→zkb base j g on h d c l w e f:=by
  rintro l e f ⟨y,z,A,K,B,C,D,L,t,E,F,G⟩;obtain ⟨H,I,rfl,J,M⟩:=t.form (by omega);exact ⟨y,z,A,H,I,B,C,D,⟨qk t (by omega),J⟩,⟨E,F⟩,G⟩
 cases k
 ·exact (zgR base j c d g on h q r w n o (by omega) p (by omega) (by omega)).mono fun e f m=>s _ e f m
 ·exact (zgS base j c d g on h q r w n o (by omega) p (by omega) (by omega)).mono fun e f m=>s _ e f m
def zkA (base:Nat)(g:Int)(h:Option Addr)(on i:Nat)(j:Value)(b:List Gate)(w:World)(e:Ending)(k:World):Prop:=
 ∃(c:Option Addr) (d f:Nat) (l:Int) (a:List Gate),e= .returned (.tuple #[.agg #[.int .i64 g,.slice c d f,.slice h on i],.int .i64 l])∧
  (yw a=yw b+64∧a.length≤b.length+500)∧GStep base w k a j (.slice c d f)
theorem zkn (base:Nat)(b:Int)(a:List Gate)(c:Value)(d:Option Addr)(on e f g h i:Nat)(w:World)(l:w.ownsRow base 269 3 c a.length (yT a))(m:base≤w.heap.size)(n:0≤b∧b≤1000)(o:a.length≤20000)
  (j k:List Int) (p:w.ownsRow 0 3 1 (.slice (some ⟨f,0,none⟩) 64 g) 64 (ints j)) (q:w.ownsRow 0 3 1 (.slice (some ⟨h,0,none⟩) 64 i) 64 (ints k)):
  Calls prog 142 #[.agg #[.int .i64 b,c,.slice d on e],.slice (some ⟨f,0,none⟩) 64 g,.slice (some ⟨h,0,none⟩) 64 i] w (zkA base b d on e c a w):=by
 obtain ⟨r,rfl⟩:=Int.eq_ofNat_of_zero_le n.1;exact (zlc base r a c d on e f g h i w l m (by omega) o j k p q).mono fun C D ⟨s,t,u,v,x,y,z,A,B⟩=>⟨s,t,u,v,x,y,⟨z,A⟩,B⟩
structure Mc9 (w:World)(ni:Int)(ov:Value)(gs:List Gate)(gv:Value)(W:World):Prop where
 box:W.heap[w.heap.size+1]? =some (.cells #[.int .i64 ni,gv,ov] 198 (0,0))
 res:W.heap[w.heap.size]? =some (.cells #[.int .i64 0,.slice none 0 0,.slice none 0 0] 198 (0,0))
 own:W.ownsRow (w.heap.size+2) 269 3 gv gs.length (yT gs)
 below:Below w.heap.size w W
theorem Mc9.start (w:World)(a:Int):Mc9 w a (.slice none 0 0) [] (.slice none 0 0) ((w.alloc (.cells #[.int .i64 0,.slice none 0 0,.slice none 0 0] 198)).alloc (.cells #[.int .i64 a,.slice none 0 0,.slice none 0 0] 198)):=
 ⟨heap_alloc2_new _ _ _,heap_alloc2_old _ _ _,World.ownsRow_nil _ _ _ _,qm _ _ _⟩
theorem Mc9.lt (a:Mc9 w F Q h A W):w.heap.size+1<W.heap.size:=lt_of_block a.box
theorem Mc9.cells (a:Mc9 w F Q h A W):
  (W.cell? ⟨w.heap.size+1,0,none⟩=some (.int .i64 F)∧W.cell? ⟨w.heap.size+1,1,none⟩=some A∧W.cell? ⟨w.heap.size+1,2,none⟩=some Q)∧W.frozen? ⟨w.heap.size+1,0,none⟩=false∧W.frozen? ⟨w.heap.size+1,1,none⟩=false∧W.frozen? ⟨w.heap.size+1,2,none⟩=false:=by
 have:=a.box;refine ⟨⟨?_,?_,?_⟩,?_,?_,?_⟩<;>simp [World.cell?,World.frozen?,this]
theorem Mc9.rcells (a:Mc9 w F Q h A W):
  (W.cell? ⟨w.heap.size,0,none⟩=some (.int .i64 0)∧W.cell? ⟨w.heap.size,1,none⟩=some (.slice none 0 0)∧W.cell? ⟨w.heap.size,2,none⟩=some (.slice none 0 0))∧W.frozen? ⟨w.heap.size,0,none⟩=false∧W.frozen? ⟨w.heap.size,1,none⟩=false∧W.frozen? ⟨w.heap.size,2,none⟩=false:=by
 have:=a.res;refine ⟨⟨?_,?_,?_⟩,?_,?_,?_⟩<;>simp [World.cell?,World.frozen?,this]
theorem Mc9.drew (a:Mc9 w F Q h A W):Mc9 w F Q h A W.drew:=⟨a.box,a.res,a.own,a.below.drew⟩
theorem zbl {base:Nat}(a:w.ownsRow base 269 3 A h.length (yT h)){b:Nat}{c:Array Value}{t:TypeId}{fr:Nat×Nat}(d:w.heap[b]? =some (.cells c t fr))(e:t≠269):A.ownBlock≠some b:=
 (GStep.refl a).ne d e
structure Mm9 (w:World)(ni:Int)(ov gv:Value)(gs:List Gate)(gv1:Value)(W:World):Prop where
 box:W.heap[w.heap.size+1]? =some (.cells #[.int .i64 ni,gv,ov] 198 (0,0))
 res:W.heap[w.heap.size]? =some (.cells #[.int .i64 0,.slice none 0 0,.slice none 0 0] 198 (0,0))
 own:W.ownsRow (w.heap.size+2) 269 3 gv1 gs.length (yT gs)
 below:Below w.heap.size w W
theorem Mm9.cells (a:Mm9 w F Q A h M W):
  (W.cell? ⟨w.heap.size+1,0,none⟩=some (.int .i64 F)∧W.cell? ⟨w.heap.size+1,1,none⟩=some A∧W.cell? ⟨w.heap.size+1,2,none⟩=some Q)∧W.frozen? ⟨w.heap.size+1,0,none⟩=false∧W.frozen? ⟨w.heap.size+1,1,none⟩=false∧W.frozen? ⟨w.heap.size+1,2,none⟩=false:=by
 have:=a.box;refine ⟨⟨?_,?_,?_⟩,?_,?_,?_⟩<;>simp [World.cell?,World.frozen?,this]
theorem Mc9.call (a:Mc9 w F Q h A W)(k:GStep (w.heap.size+2) W R T A M):Mm9 w F Q A T M R:=
 ⟨(k.fr.block _ a.lt fun b=>zbl a.own a.box (by decide) b.symm).trans a.box,(k.fr.block _ (by have:=a.lt;omega) fun b=>zbl a.own a.res (by decide) b.symm).trans a.res,k.own,
  a.below.grown k.fr a.below.size fun c d=>by have:=(a.own.lt c d).1;omega⟩
theorem Mm9.store (a:Mm9 w F Q A h M W):
  Mc9 w F Q h M (((W.setCell ⟨w.heap.size+1,0,none⟩ (.int .i64 F)).setCell ⟨w.heap.size+1,1,none⟩ M).setCell ⟨w.heap.size+1,2,none⟩ Q):=
 ⟨set3 a.box _ _ _,(Ym _ _ _ _ _ _ (by omega)).trans a.res,zu a.own fun d b=>Ym _ _ _ _ _ _ fun c=>zbl a.own a.box (by decide) (by rw [b,c]),((a.below.setCell (by simp) _).setCell (by simp) _).setCell (by simp) _⟩
theorem Mc9.result (a:Mc9 w F Q h A W):
  (((W.setCell ⟨w.heap.size,0,none⟩ (.int .i64 F)).setCell ⟨w.heap.size,1,none⟩ A).setCell ⟨w.heap.size,2,none⟩ Q).heap[w.heap.size]? =some (.cells #[.int .i64 F,A,Q] 198 (0,0))∧
  (((W.setCell ⟨w.heap.size,0,none⟩ (.int .i64 F)).setCell ⟨w.heap.size,1,none⟩ A).setCell ⟨w.heap.size,2,none⟩ Q).ownsRow w.heap.size 269 3 A h.length (yT h)∧
  Below w.heap.size w (((W.setCell ⟨w.heap.size,0,none⟩ (.int .i64 F)).setCell ⟨w.heap.size,1,none⟩ A).setCell ⟨w.heap.size,2,none⟩ Q):=
 ⟨set3 a.res _ _ _,zu (qk a.own (by omega)) fun d b=>Ym _ _ _ _ _ _ fun c=>zbl a.own a.res (by decide) (by rw [b,c]),((a.below.setCell (by simp) _).setCell (by simp) _).setCell (by simp) _⟩
structure Mx9 (w:World)(ni:Int)(oo:Option Addr)(on oc:Nat)(gs:List Gate)(gv:Value)(gx cx gy cy:Nat)(lx ly:List Int)(W:World):Prop where
 mc:Mc9 w ni (.slice oo on oc) gs gv W
 x:W.ownsRow 0 3 1 (.slice (some ⟨gx,0,none⟩) 64 cx) 64 (ints lx)
 y:W.ownsRow 0 3 1 (.slice (some ⟨gy,0,none⟩) 64 cy) 64 (ints ly)
 outs:∃l,W.ownsRow (w.heap.size+2) 3 1 (.slice oo on oc) on (ints l)
 ne:∀j,(Value.slice oo on oc).ownBlock=some j→j≠gx∧j≠gy
structure My9 (w:World)(ni:Int)(oo:Option Addr)(on oc:Nat)(gv:Value)(gs:List Gate)(gv1:Value)(gx cx gy cy:Nat)(lx ly:List Int)(W:World):Prop where
 mm:Mm9 w ni (.slice oo on oc) gv gs gv1 W
 x:W.ownsRow 0 3 1 (.slice (some ⟨gx,0,none⟩) 64 cx) 64 (ints lx)
 y:W.ownsRow 0 3 1 (.slice (some ⟨gy,0,none⟩) 64 cy) 64 (ints ly)
 outs:∃l,W.ownsRow (w.heap.size+2) 3 1 (.slice oo on oc) on (ints l)
 ne:∀j,(Value.slice oo on oc).ownBlock=some j→j≠gx∧j≠gy
theorem Mx9.start (a:Mc9 w F (.slice none 0 0) h A W)(b:W.ownsRow 0 3 1 (.slice (some ⟨G,0,none⟩) 64 H) 64 (ints K))(c:W.ownsRow 0 3 1 (.slice (some ⟨I,0,none⟩) 64 J) 64 (ints L)):
  Mx9 w F none 0 0 h A G H I J K L W:=⟨a,b,c,⟨[],World.ownsRow_nil _ _ _ _⟩,fun e d=>by simp [Value.ownBlock] at d⟩
theorem Mx9.drew (a:Mx9 w F D on E h A G H I J K L W):Mx9 w F D on E h A G H I J K L W.drew:=⟨a.mc.drew,a.x,a.y,a.outs,a.ne⟩
theorem Mx9.xat (a:Mx9 w F D on E h A G H I J K L W)(k:Nat)(b:k<64):W.cell? ⟨G,k,none⟩=some (.int .i64 (K.getD k 0)):=ZW a.x k b
theorem Mx9.yat (a:Mx9 w F D on E h A G H I J K L W)(k:Nat)(b:k<64):W.cell? ⟨I,k,none⟩=some (.int .i64 (L.getD k 0)):=ZW a.y k b
theorem My9.xat (a:My9 w F D on E A h M G H I J K L W)(k:Nat)(b:k<64):W.cell? ⟨G,k,none⟩=some (.int .i64 (K.getD k 0)):=ZW a.x k b
theorem My9.yat (a:My9 w F D on E A h M G H I J K L W)(k:Nat)(b:k<64):W.cell? ⟨I,k,none⟩=some (.int .i64 (L.getD k 0)):=ZW a.y k b
theorem Mx9.call (a:Mx9 w F D on E h A G H I J K L W)(k:GStep (w.heap.size+2) W R T A M):My9 w F D on E A T M G H I J K L R:=
 ⟨a.mc.call k,k.ints a.mc.own a.x,k.ints a.mc.own a.y,a.outs.elim fun b c=>⟨b,k.ints a.mc.own c⟩,a.ne⟩
theorem My9.store (a:My9 w F D on E A h M G H I J K L W):
  Mx9 w F D on E h M G H I J K L (((W.setCell ⟨w.heap.size+1,0,none⟩ (.int .i64 F)).setCell ⟨w.heap.size+1,1,none⟩ M).setCell ⟨w.heap.size+1,2,none⟩ (.slice D on E)):=
 ⟨a.mm.store,yJ a.mm.box (by decide) a.x _ _ _,yJ a.mm.box (by decide) a.y _ _ _,a.outs.elim fun b c=>⟨b,yJ a.mm.box (by decide) c _ _ _⟩,a.ne⟩
structure Mo9 (w:World)(ni:Int)(ov:Value)(oo:Option Addr)(on oc:Nat)(gs:List Gate)(gv:Value)(gx cx gy cy:Nat)(lx ly:List Int)(W:World):Prop where
 mc:Mc9 w ni ov gs gv W
 x:W.ownsRow 0 3 1 (.slice (some ⟨gx,0,none⟩) 64 cx) 64 (ints lx)
 y:W.ownsRow 0 3 1 (.slice (some ⟨gy,0,none⟩) 64 cy) 64 (ints ly)
 outs:∃l,W.ownsRow (w.heap.size+2) 3 1 (.slice oo on oc) on (ints l)
 ne:∀j,(Value.slice oo on oc).ownBlock=some j→j≠gx∧j≠gy
theorem zkk (a:W.ownsRow 0 3 1 (.slice (some ⟨g,0,none⟩) 64 c) 64 (ints l)):g<W.heap.size:=(a.lt g rfl).2
theorem Mx9.add {g:Option Addr}{f i:Nat}(a:Mx9 w F D on E h A G H I J K L W)(e:W.grownBy R (Value.slice D on E).ownBlock){z:Int}
  (m:R.ownsRow (w.heap.size+2) 3 1 (.slice g f i) (on+1) (ints l++[.int .i64 z])) (n:f=on+1) (o:(Value.slice g f i).ownBlock=(Value.slice D on E).ownBlock∨(Value.slice g f i).ownBlock=some (W.heap.size+1)):Mo9 w F (.slice D on E) g f i h A G H I J K L R:=by
 obtain ⟨q,j⟩:=a.outs;subst n;refine ⟨⟨(e.block _ a.mc.lt fun b=>Zn j a.mc.box (by decide) b.symm).trans a.mc.box,(e.block _ (by have:=a.mc.lt;omega) fun b=>Zn j a.mc.res (by decide) b.symm).trans a.mc.res,zu a.mc.own fun d c=>e.block d (a.mc.own.lt d c).2 fun b=> ?_,a.mc.below.grown e a.mc.below.size fun d c=>by have:=(j.lt d c).1;omega⟩,
  zu a.x fun d c=>e.block d (a.x.lt d c).2 fun b=> ?_,zu a.y fun d c=>e.block d (a.y.lt d c).2 fun b=> ?_,⟨l++[z],by simpa [ints] using m⟩,fun d c=> ?_⟩
 ·rcases j.2 with ⟨k,_⟩ | ⟨r,s,t,k,_,p,_⟩
  ·rw [k] at b;simp [Value.ownBlock] at b
  ·rw [k] at b;simp only [Value.ownBlock,Option.some.injEq] at b;subst b
   exact zbl a.mc.own p (by decide) c
 ·simp only [Value.ownBlock,Option.some.injEq] at c;subst c
  exact (a.ne _ b.symm).1 rfl
 ·simp only [Value.ownBlock,Option.some.injEq] at c;subst c
  exact (a.ne _ b.symm).2 rfl
 ·rcases o with b | b
  ·exact a.ne d (by rw [←b,c])
  ·rw [c] at b;obtain rfl:=Option.some.inj b
   have:=zkk a.x;have:=zkk a.y;omega
theorem Mo9.store (a:Mo9 w F Q D on E h A G H I J K L W):
  Mx9 w F D on E h A G H I J K L (W.setCell ⟨w.heap.size+1,2,none⟩ (.slice D on E)):=by
 have b:∀(c:Nat) (d:Value) (e:Nat) (f:List Value),W.ownsRow c 3 1 d e f→(W.setCell ⟨w.heap.size+1,2,none⟩ (.slice D on E)).ownsRow c 3 1 d e f:=fun c d e f j=>
  zu j fun k g=>qe (fun i=>Zn j a.mc.box (by decide) (by rw [g,i])) _
 refine ⟨⟨?_,(qe (by omega) _).trans a.mc.res,zu a.mc.own fun k g=>qe (fun i=>zbl a.mc.own a.mc.box (by decide) (by rw [g,i])) _,a.mc.below.setCell (by simp) _⟩,b _ _ _ _ a.x,b _ _ _ _ a.y,a.outs.elim fun l m=>⟨l,b _ _ _ _ m⟩,a.ne⟩;have:=heap_setCell (j:=2) a.mc.box (.slice D on E);simpa using this
def zka (w:World)(g:Nat)(e:Ending)(b:World):Prop:=
 ∃(h:Int) (c:Option Addr) (d f:Nat) (i:Option Addr) (on j:Nat) (a:List Gate),e= .returned (.agg #[.int .i64 h,.slice c d f,.slice i on j])∧b.ownsRow w.heap.size 269 3 (.slice c d f) a.length (yT a)∧
  (yw a=g∧a.length≤5000)∧Below w.heap.size w b
def yi (b:Bool):Nat:=if b then 0 else 63
theorem zor (c:Nat)(w:World)(T:yN 1 c=true):
  Calls prog 93 #[.int .i64 1,.int .u64 c] w (zka w (yi ((c:Int)%2==1)+63)):=by
 have an:Qe 1 c=1:=by unfold Qe;rw [if_pos T];rfl
 have aE:=Z an;clear an;have a1:c<4:=by unfold yN at T;simp at T;omega
 go_enter func93,ntmps93;go_upto_region 4 with (go_at_call 59;go_must (refine (QB _ _ _).mono ?_;rw [aE.out];rintro O a2 ⟨rfl,rfl⟩));have y:=Z (Mc9.start w 128);have ao:=Z (show ([]:List Gate).length=0 from rfl);generalize ((w.alloc (.cells #[.int .i64 0,.slice none 0 0,.slice none 0 0] 198)).alloc (.cells #[.int .i64 128,.slice none 0 0,.slice none 0 0] 198))=a3 at y ⊢;obtain ⟨⟨d,e,f⟩,g,h,i⟩:=y.cells;go_upto_region 5 with (go_at_call 140;go_must (refine (ZI (w.heap.size+2) 128 _ _ none 0 0 _ _ _ _ y.own (by have:=y.lt;omega) (by omega) (by have:=ao.out;first | omega | (simp only [qT,yB];omega)) (by omega) (by omega)).mono ?_;rintro O aF ⟨ap,aq,k1,z,k,r,F,rfl,ar,au,aG⟩;have a:=y.call aG;have U:=Z a;have av:=Z ar.1;have aw:=Z au;obtain ⟨⟨l,k,m⟩,n,o,p⟩:=a.cells;clear a d e f g h i ar au));have s:=Z U.store;have P:=Z (yJ U.box (by decide) av (.int .i64 128) (.slice ap aq k1) (.slice none 0 0));clear l k m n o p U av;generalize ((aF.setCell ⟨w.heap.size+1,0,none⟩ (.int .i64 128)).setCell ⟨w.heap.size+1,1,none⟩ (.slice ap aq k1)).setCell ⟨w.heap.size+1,2,none⟩ (.slice none 0 0)=a4 at s P ⊢;obtain ⟨⟨d,e,f⟩,g,h,i⟩:=s.cells;have A:=Z (show F.length≤500 by have:=aw.2;simpa using this);clear ao;go_upto_region 8 with (go_at_call 141;go_must (refine (za8 (w.heap.size+2) 128 _ _ none 0 0 _ _ _ _ s.own (by have:=s.lt;omega) (by omega) (by have:=A.out;first | omega | (simp only [qT,yB];omega))).mono ?_;rintro O aH ⟨aI,aJ,k2,a5,rfl,Q⟩;have a:=s.call Q;have R:=Z a;obtain ⟨⟨l,k,m⟩,n,o,p⟩:=a.cells;clear a d e f g h i));have t:=Z (Mx9.start R.store (yJ R.box (by decide) (Q.ints s.own P) _ _ _) (yJ R.box (by decide) (Q.ints s.own P) _ _ _));clear l k m n o p R Q;generalize ((aH.setCell ⟨w.heap.size+1,0,none⟩ (.int .i64 128)).setCell ⟨w.heap.size+1,1,none⟩ (.slice aI aJ k2)).setCell ⟨w.heap.size+1,2,none⟩ (.slice none 0 0)=a6 at t ⊢;obtain ⟨⟨d,e,f⟩,g,h,i⟩:=t.mc.cells;have V:=Z (show (F++[(⟨1,0,0⟩:Gate)]).length≤501∧yw (F++[(⟨1,0,0⟩:Gate)])=yi ((c:Int)%2==1) from ⟨by rw [qT];have:=A.out;omega,by rw [y7,if_neg (by decide)];have:=aw.1;simpa [yi,yw] using this⟩);go_wp2_with fail;obtain ⟨⟨d,e,f⟩,g,h,i⟩:=t.mc.cells;have S:=t.xat 63 (by omega);obtain ⟨G,B⟩:∃G,r.getD 63 0=G:=⟨_,rfl⟩;rw [B] at S;go_cut [10] from 49 to 56 (fun W X=>∃(Y:Option Addr) (aa ab:Nat) (ac:Int) (u:List Gate),W= .int .i64 ac∧Hid (Mx9 w 128 none 0 0 u (.slice Y aa ab) z k z k r r X)∧Hid (u.length=(F++[(⟨1,0,0⟩:Gate)]).length+1∧yw u=yw (F++[(⟨1,0,0⟩:Gate)])+0))
 case first=>
  go_region_law (first | (go_simp;go_at_call 141;refine (za8 (w.heap.size+2) 128 _ _ _ _ _ _ _ _ _ t.drew.mc.own (by have:=t.drew.mc.lt;omega) (by omega) (by have:=A.out;first | omega | (simp only [qT];omega))).mono ?_;rintro O a7 ⟨ad,ae,k3,ax,rfl,aK⟩;have a:=t.drew.call aK;have aL:=Z a;obtain ⟨⟨l,C,m⟩,n,o,p⟩:=a.mm.cells;have aM:=a.xat 63 (by omega);rw [B] at aM;clear a d e f g h i))
  all_goals
   have j:=Z aL.store
   (try go_simp)
   go_wp2_with fail;go_meet;exact ⟨ad,ae,k3,ax,_,rfl,j,Z ⟨by rw [qT],by rw [y7,if_neg (by decide)]⟩⟩
 case rest=>
 obtain ⟨ad,ae,k3,ax,a8,rfl,j,af⟩:=hcut;clear d e f g h i;go_wp2_with fail;clear S B;go_loopg [11,12] 63 (fun aN aO aP wr=>∃(b:Nat) (v:List Gate) (ay:Option Addr) (az aA:Nat) (ag:Option Addr) (ah:Nat) (aB:Value),b≤63∧aN=63-b∧aO= .int .i64 b∧aP=aB∧Hid (Mx9 w 128 ag b ah v (.slice ay az aA) z k z k r r wr)∧Hid (v.length≤502+b∧yw v=yi ((c:Int)%2==1)+b))
 case atStart=>exact ⟨0,_,ad,ae,k3,none,0,_,by omega,rfl,rfl,rfl,j,Z ⟨by have:=af.1;have:=V.1;omega,by have:=af.2;have:=V.2;omega⟩⟩
 case round=>
  clear y s t j V A P af;obtain ⟨b,v,ay,az,aA,ag,ah,aB,a9,ba,rfl,rfl,j,H⟩:=hrel;have bb:=j.mc.lt
  by_cases bc:b<63
  ·have bd:(0:Int)≤(b:Int):=by omega
   have be:(b:Int)<64:=by omega
   have bf:decide ((b:Int)<63)=true:=by simp;omega
   have A:=Z (show v.length≤600 by have:=H.1;omega);go_wp2_with fail;obtain ⟨⟨d,e,f⟩,g,h,i⟩:=j.mc.cells;have S:=j.xat b (by omega);obtain ⟨G,B⟩:∃G,r.getD b 0=G:=⟨_,rfl⟩;rw [B] at S;go_cut [12] from 61 to 70 (fun W X=>∃(Y:Option Addr) (aa ab:Nat) (ac:Int) (u:List Gate),W= .int .i64 ac∧Hid (Mx9 w 128 ag b ah u (.slice Y aa ab) z k z k r r X)∧Hid (u.length=(v).length+1∧yw u=yw (v)+1))
   case first=>
    go_region_law (first | (go_simp;go_at_call 141;refine (za8 (w.heap.size+2) 128 _ _ _ _ _ _ _ _ _ j.drew.mc.own (by have:=j.drew.mc.lt;omega) (by omega) (by have:=A.out;first | omega | (simp only [qT];omega))).mono ?_;rintro O bg ⟨ai,aj,k4,aC,rfl,aQ⟩;have a:=j.drew.call aQ;have aR:=Z a;obtain ⟨⟨l,C,m⟩,n,o,p⟩:=a.mm.cells;have aS:=a.xat b (by omega);rw [B] at aS;clear a d e f g h i))
    all_goals
     have D:=Z aR.store
     (try go_simp)
     go_wp2_with fail;go_meet;exact ⟨ai,aj,k4,aC,_,rfl,D,Z ⟨by rw [qT],by rw [y7,if_pos rfl]⟩⟩
   case rest=>
   obtain ⟨ai,aj,k4,aC,bh,rfl,D,aD⟩:=hcut;clear d e f g h i;obtain ⟨⟨d,e,f⟩,g,h,i⟩:=D.mc.cells;go_wp2_with (at_builtin;obtain ⟨aT,I⟩:=D.outs;refine yS rfl _ _ 24 rfl 3 _ 1 8 underlying24 qD rfl (by decide) #[_] _ _ _ _ I rfl rfl rfl (by intro aU J;simp at J;subst J;rfl) (by have:=D.mc.lt;omega) (by omega) (by unfold maxLen;omega) ?_;intro aV ak x K L;go_must (obtain ⟨al,M,rfl,aW,aX⟩:=x.form (by omega);obtain ⟨q,am⟩:∃q,(some ⟨al,0,none⟩:Option Addr)=q:=⟨_,rfl⟩;have a:=D.add K x rfl L;rw [am] at a ⊢;have N:=Z a;obtain ⟨⟨l,C,m⟩,n,o,p⟩:=a.mc.cells;clear x K I a L d e f g h i));have E:=Z N.store;clear l C m n o p N;go_roundg (63-(b+1))
   case measure=>omega
   case rel=>exact ⟨b+1,_,ai,aj,k4,q,M,_,by omega,rfl,by go_num,rfl,E,Z ⟨by have:=aD.1;have:=H.1;omega,by have:=aD.2;have:=H.2;omega⟩⟩
  ·obtain rfl:b=63:=by omega
   obtain ⟨⟨d,e,f⟩,g,h,i⟩:=j.mc.cells;go_upto_region 18 with (at_builtin;obtain ⟨aT,I⟩:=j.outs;refine yS rfl _ _ 24 rfl 3 _ 1 8 underlying24 qD rfl (by decide) #[_] _ _ _ _ I rfl rfl rfl (by intro aU J;simp at J;subst J;rfl) (by have:=j.mc.lt;omega) (by omega) (by unfold maxLen;omega) ?_;intro aV ak x K L;go_must (obtain ⟨al,M,rfl,aW,aX⟩:=x.form (by omega);obtain ⟨q,am⟩:∃q,(some ⟨al,0,none⟩:Option Addr)=q:=⟨_,rfl⟩;have a:=j.add K x rfl L;rw [am] at a ⊢;have N:=Z a;obtain ⟨⟨l,C,m⟩,n,o,p⟩:=a.mc.cells;clear x K I a L d e f g h i));have E:=Z (show Mx9 w 128 q 64 M _ _ _ _ _ _ _ _ (ak.setCell ⟨w.heap.size+1,2,none⟩ (.slice q 64 M)) from N.store);clear l C m n o p N;generalize ak.setCell ⟨w.heap.size+1,2,none⟩ (.slice q 64 M)=bi at E ⊢;obtain ⟨⟨d,e,f⟩,g,h,i⟩:=E.mc.cells;obtain ⟨⟨l,C,m⟩,n,o,p⟩:=E.mc.rcells;go_wp2_with fail;obtain ⟨aY,aZ,a0⟩:=E.mc.result;refine bodyPost_ret (results_cell_row rfl _ _ w.heap.size 198 #[_,_,_] _ _ rfl aY underlying198 rfl QM) rfl ?_;exact ⟨_,_,_,_,_,_,_,_,rfl,aZ,⟨by have:=H.2;omega,by have:=H.1;omega⟩,a0⟩
theorem zos (c:Nat)(w:World)(N:yN 2 c=true):
  Calls prog 93 #[.int .i64 2,.int .u64 c] w (zka w (yi ((c:Int)%2==1)+yi ((c:Int) / 2%2==1)+64)):=by
 have ad:Qe 2 c=2:=by unfold Qe;rw [if_pos N];rfl
 have ay:=Z ad;clear ad;have aU:c<4:=by unfold yN at N;simp at N;omega
 go_enter func93,ntmps93;go_upto_region 4 with (go_at_call 59;go_must (refine (QB _ _ _).mono ?_;rw [ay.out];rintro F aV ⟨rfl,rfl⟩));have u:=Z (Mc9.start w 256);have ae:=Z (show ([]:List Gate).length=0 from rfl);generalize ((w.alloc (.cells #[.int .i64 0,.slice none 0 0,.slice none 0 0] 198)).alloc (.cells #[.int .i64 256,.slice none 0 0,.slice none 0 0] 198))=aW at u ⊢;obtain ⟨⟨e,f,g⟩,h,i,j⟩:=u.cells;go_upto_region 5 with (go_at_call 140;go_must (refine (ZI (w.heap.size+2) 256 _ _ none 0 0 _ _ _ _ u.own (by have:=u.lt;omega) (by omega) (by have:=ae.out;first | omega | (simp only [qT,yB];omega)) (by omega) (by omega)).mono ?_;rintro F az ⟨af,ag,k1,aA,r,aB,ah,rfl,ai,aj,aC⟩;have a:=u.call aC;have O:=Z a;have ak:=Z ai.1;have P:=Z aj;obtain ⟨⟨k,r,d⟩,l,m,n⟩:=a.cells;clear a e f g h i j ai aj));have s:=Z O.store;have Q:=Z (yJ O.box (by decide) ak (.int .i64 256) (.slice af ag k1) (.slice none 0 0));clear k r d l m n O ak;generalize ((az.setCell ⟨w.heap.size+1,0,none⟩ (.int .i64 256)).setCell ⟨w.heap.size+1,1,none⟩ (.slice af ag k1)).setCell ⟨w.heap.size+1,2,none⟩ (.slice none 0 0)=aX at s Q ⊢;obtain ⟨⟨e,f,g⟩,h,i,j⟩:=s.cells;have G:=Z (show ah.length≤500∧yw ah=yi ((c:Int)%2==1) from ⟨by have:=P.2;simpa using this,by have:=P.1;simpa [yi,yw] using this⟩);clear ae P;go_upto_region 7 with (go_at_call 140;go_must (refine (ZI (w.heap.size+2) 256 _ _ none 0 0 _ _ _ _ s.own (by have:=s.lt;omega) (by omega) (by have:=G.1;first | omega | (simp only [qT,yB];omega)) (by omega) (by omega)).mono ?_;rintro F aD ⟨R,S,k2,aE,d,aF,H,rfl,al,am,T⟩;have a:=s.call T;have I:=Z a;have an:=Z al.1;have U:=Z am;obtain ⟨⟨k,r,d⟩,l,m,n⟩:=a.cells;clear a e f g h i j al am));have q:=Z I.store;have V:=Z (yJ I.box (by decide) (T.ints s.own Q) (.int .i64 256) (.slice R S k2) (.slice none 0 0));have W:=Z (yJ I.box (by decide) an (.int .i64 256) (.slice R S k2) (.slice none 0 0));have J:=Z (show H.length≤1000∧yw H=yi ((c:Int)%2==1)+yi ((c:Int) / 2%2==1) from ⟨by have:=U.2;have:=G.1;omega,by rw [U.1,G.2];rfl⟩);clear k r d l m n I an T;generalize ((aD.setCell ⟨w.heap.size+1,0,none⟩ (.int .i64 256)).setCell ⟨w.heap.size+1,1,none⟩ (.slice R S k2)).setCell ⟨w.heap.size+1,2,none⟩ (.slice none 0 0)=aY at q V W ⊢;obtain ⟨⟨e,f,g⟩,h,i,j⟩:=q.cells;go_upto_region 8 with (go_at_call 141;go_must (refine (za8 (w.heap.size+2) 256 _ _ none 0 0 _ _ _ _ q.own (by have:=q.lt;omega) (by omega) (by have:=J.1;first | omega | (simp only [qT,yB];omega))).mono ?_;rintro F aG ⟨aH,aI,k3,aZ,rfl,K⟩;have a:=q.call K;have L:=Z a;obtain ⟨⟨k,r,d⟩,l,m,n⟩:=a.cells;clear a e f g h i j));have b:=Z (Mx9.start L.store (yJ L.box (by decide) (K.ints q.own V) _ _ _) (yJ L.box (by decide) (K.ints q.own W) _ _ _));have M:=Z (show (H++[(⟨1,0,0⟩:Gate)]).length≤1001∧yw (H++[(⟨1,0,0⟩:Gate)])=yi ((c:Int)%2==1)+yi ((c:Int) / 2%2==1) from ⟨by rw [qT];have:=J.1;omega,by rw [y7,if_neg (by decide)];exact J.2⟩);clear k r d l m n L K V W;generalize ((aG.setCell ⟨w.heap.size+1,0,none⟩ (.int .i64 256)).setCell ⟨w.heap.size+1,1,none⟩ (.slice aH aI k3)).setCell ⟨w.heap.size+1,2,none⟩ (.slice none 0 0)=a0 at b ⊢;obtain ⟨⟨e,f,g⟩,h,i,j⟩:=b.mc.cells;go_upto_region 21 with (go_at_call 142;go_must (refine (zkn (w.heap.size+2) 256 _ _ none 0 0 _ _ _ _ _ b.mc.own (by have:=b.mc.lt;omega) (by omega) (by have:=M.1;omega) _ _ b.x b.y).mono ?_;rintro F aJ ⟨ao,ap,k4,a1,X,rfl,aq,ar⟩;have a:=b.call ar;have au:=Z a;have Y:=Z aq;obtain ⟨⟨k,v,d⟩,l,m,n⟩:=a.mm.cells;clear a e f g h i j aq));have x:=Z au.store;have av:=Z (show X.length≤1501∧yw X=yi ((c:Int)%2==1)+yi ((c:Int) / 2%2==1)+64 from ⟨by have:=Y.2;have:=M.1;omega,by have:=Y.1;have:=M.2;omega⟩);clear k v d l m n au ar M Y J G U;generalize ((aJ.setCell ⟨w.heap.size+1,0,none⟩ (.int .i64 256)).setCell ⟨w.heap.size+1,1,none⟩ (.slice ao ap k4)).setCell ⟨w.heap.size+1,2,none⟩ (.slice none 0 0)=a2 at x ⊢;obtain ⟨⟨e,f,g⟩,h,i,j⟩:=x.mc.cells;go_upto_region 23 with (at_builtin;obtain ⟨aK,z⟩:=x.outs;refine yS rfl _ _ 24 rfl 3 _ 1 8 underlying24 qD rfl (by decide) #[_] _ _ _ _ z rfl rfl rfl (by intro aL A;simp at A;subst A;rfl) (by have:=x.mc.lt;omega) (by omega) (by unfold maxLen;omega) ?_;intro aM aa t B C;go_must (obtain ⟨ab,y,rfl,aN,aO⟩:=t.form (by omega);obtain ⟨o,ac⟩:∃o,(some ⟨ab,0,none⟩:Option Addr)=o:=⟨_,rfl⟩;have a:=x.add B t rfl C;rw [ac] at a ⊢;have D:=Z a;obtain ⟨⟨k,v,d⟩,l,m,n⟩:=a.mc.cells;clear t B z a C e f g h i j));have E:=Z (show Mx9 w 256 o 1 y _ _ _ _ _ _ _ _ (aa.setCell ⟨w.heap.size+1,2,none⟩ (.slice o 1 y)) from D.store);clear k v d l m n D;generalize aa.setCell ⟨w.heap.size+1,2,none⟩ (.slice o 1 y)=a3 at E ⊢;clear x b q s u Q;go_wp2_with fail;go_loopg [14] 63 (fun aP aQ wr=>∃(p:Nat) (aw:Option Addr) (ax:Nat),1≤p∧p≤64∧aP=64-p∧aQ= .int .i64 p∧Hid (Mx9 w 256 aw p ax X (.slice ao ap k4) aA r aE d aB aF wr))
 case atStart=>exact ⟨1,o,y,by omega,by omega,rfl,rfl,E⟩
 case round=>
  clear E;obtain ⟨p,aw,ax,a4,a5,a6,rfl,b⟩:=hrel;have a7:=b.mc.lt
  by_cases a8:p<64
  ·obtain ⟨⟨e,f,g⟩,h,i,j⟩:=b.mc.cells
   go_wp2_with (at_builtin;obtain ⟨aK,z⟩:=b.outs;refine yS rfl _ _ 24 rfl 3 _ 1 8 underlying24 qD rfl (by decide) #[_] _ _ _ _ z rfl rfl rfl (by intro aL A;simp at A;subst A;rfl) (by have:=b.mc.lt;omega) (by omega) (by unfold maxLen;omega) ?_;intro aM aa t B C;go_must (obtain ⟨ab,y,rfl,aN,aO⟩:=t.form (by omega);obtain ⟨o,ac⟩:∃o,(some ⟨ab,0,none⟩:Option Addr)=o:=⟨_,rfl⟩;have a:=b.add B t rfl C;rw [ac] at a ⊢;have D:=Z a;obtain ⟨⟨k,v,d⟩,l,m,n⟩:=a.mc.cells;clear t B z a C e f g h i j));have E:=Z D.store;clear k v d l m n D;go_roundg (64-(p+1))
   case measure=>omega
   case rel=>exact ⟨p+1,o,y,by omega,by omega,rfl,by go_num,E⟩
  ·obtain rfl:p=64:=by omega
   obtain ⟨⟨e,f,g⟩,h,i,j⟩:=b.mc.cells;obtain ⟨⟨k,v,d⟩,l,m,n⟩:=b.mc.rcells;go_wp2_with fail;obtain ⟨aR,aS,aT⟩:=b.mc.result;refine bodyPost_ret (results_cell_row rfl _ _ w.heap.size 198 #[_,_,_] _ _ rfl aR underlying198 rfl QM) rfl ?_;exact ⟨_,_,_,_,_,_,_,_,rfl,aS,⟨av.2,by have:=av.1;omega⟩,aT⟩
end Go.Proofs.YtklofgfkaaoipaaGreatDoor
