/-
  THE CONTRACT of twainref11.numbers.
-/
import Derived.Test.YtklofgfkaaoipaaGreatDoorMRefSame1
import Derived.Test.YtklofgfkaaoipaaGreatDoorMOps
import Derived.Test.YtklofgfkaaoipaaGreatDoorMMCheck
import Derived.Test.YtklofgfkaaoipaaGreatDoorMHd
set_option maxHeartbeats 16000000
set_option maxRecDepth 100000
set_option linter.unusedSimpArgs false
set_option linter.unusedVariables false
namespace Go.Proofs.YtklofgfkaaoipaaGreatDoor
open Go.RowKit Go.Proofs.Tryz
variable {w W D:World}{h A:Int}{x:Value}{m:List Int}{B:Nat}{o:MOp}
def qi (o:MOp)(a b:Int):Bool:=
 if o.party<0∨1<o.party∨(o.party=1∧o.kind≠1∧o.kind≠15∧o.kind≠16) then false
 else if o.c≠0∧o.kind≠2∧o.kind≠5∧o.kind≠8∧o.kind≠10∧o.kind≠17 then false
 else if o.kind=1 then decide (0≤o.k)&&decide (o.k<if o.party=0 then a else b)
 else if o.kind=11∨o.kind=12∨o.kind=13∨o.kind=16 then decide (0≤o.k)&&decide (o.k<64)
 else if o.kind=17∨o.kind=18∨o.kind=19 then true else o.k==0
abbrev QW (d a b k c e f g:Int)(w:World)(r:Bool):Prop:=Calls prog 54 #[.agg #[.int .i64 d,.int .i64 a,.int .i64 b,.int .i64 k,.int .u64 c,.int .i64 e],.agg #[.int .i64 f,.int .i64 g]] w (qM (.bool r) w)
theorem Yl (kind a b k c party e0 e1:Int)(w:World)(r:Bool)(h:QW kind a b k c party e0 e1 w r:=by (
 dsimp only [QW];go_enter func54,ntmps54;go_wp2_with fail
 first | (go_quiet (fail)) | skip
 go_wp2_with fail;go_ret;exact ⟨by first | rfl | simp,by first | exact qm _ _ _ | exact (qm _ _ _).drew | exact qC (qm _ _ _) _⟩)):QW kind a b k c party e0 e1 w r:=h
theorem zlo (e:Int)(d:Int)(c:Nat)(a b k f g:Int)(w:World)(h:decide (d<0)=true):QW e a b k c d f g w false:=Yl _ _ _ _ _ _ _ _ _ _
theorem zlp (e:Int)(d:Int)(c:Nat)(a b k f g:Int)(w:World)(h:decide (d<0)=false)(i:decide (1<d)=true):QW e a b k c d f g w false:=Yl _ _ _ _ _ _ _ _ _ _
theorem zlq (d:Int)(c:Nat)(a b k e f:Int)(w:World)(g:(d==1)=false)(h:(d==15)=false)(i:(d==16)=false)(j:(d != 1)=true)(l:(d != 15)=true)(m:(d != 16)=true):QW d a b k c 1 e f w false:=Yl _ _ _ _ _ _ _ _ _ _
theorem zlr (d:Int)(c:Nat)(a b k e f:Int)(w:World)(g:((c:Int)==0)=false)(h:((c:Int) != 0)=true)(i:(d==2)=false)(j:(d==5)=false)(l:(d==8)=false)(m:(d==10)=false)(n:(d==17)=false)(o:(d != 2)=true)(p:(d != 5)=true)(q:(d != 8)=true)(r:(d != 10)=true)(s:(d != 17)=true):QW d a b k c 0 e f w false:=Yl _ _ _ _ _ _ _ _ _ _
theorem zls (c:Nat)(a b k d e:Int)(w:World)(f:((c:Int)==0)=false)(g:((c:Int) != 0)=true):QW 1 a b k c 1 d e w false:=Yl _ _ _ _ _ _ _ _ _ _
theorem zlt (c:Nat)(a b k d e:Int)(w:World)(f:((c:Int)==0)=false)(g:((c:Int) != 0)=true):QW 15 a b k c 1 d e w false:=Yl _ _ _ _ _ _ _ _ _ _
theorem zlu (c:Nat)(a b k d e:Int)(w:World)(f:((c:Int)==0)=false)(g:((c:Int) != 0)=true):QW 16 a b k c 1 d e w false:=Yl _ _ _ _ _ _ _ _ _ _
theorem zlv (a b k c d:Int)(w:World)(e:decide (0≤k)=true):QW 1 a b k 0 0 c d w ((decide (k<c))):=Yl _ _ _ _ _ _ _ _ _ _
theorem zlw (a b k c d:Int)(w:World)(e:decide (0≤k)=false):QW 1 a b k 0 0 c d w false:=Yl _ _ _ _ _ _ _ _ _ _
theorem zjm (a b k c d:Int)(w:World)(e:decide (0≤k)=true):QW 11 a b k 0 0 c d w ((decide (k<64))):=Yl _ _ _ _ _ _ _ _ _ _
theorem zjn (a b k c d:Int)(w:World)(e:decide (0≤k)=false):QW 11 a b k 0 0 c d w false:=Yl _ _ _ _ _ _ _ _ _ _
theorem zjo (a b k c d:Int)(w:World)(e:decide (0≤k)=true):QW 12 a b k 0 0 c d w ((decide (k<64))):=Yl _ _ _ _ _ _ _ _ _ _
theorem zjp (a b k c d:Int)(w:World)(e:decide (0≤k)=false):QW 12 a b k 0 0 c d w false:=Yl _ _ _ _ _ _ _ _ _ _
theorem zjq (a b k c d:Int)(w:World)(e:decide (0≤k)=true):QW 13 a b k 0 0 c d w ((decide (k<64))):=Yl _ _ _ _ _ _ _ _ _ _
theorem zjr (a b k c d:Int)(w:World)(e:decide (0≤k)=false):QW 13 a b k 0 0 c d w false:=Yl _ _ _ _ _ _ _ _ _ _
theorem zjs (a b k c d:Int)(w:World)(e:decide (0≤k)=true):QW 16 a b k 0 0 c d w ((decide (k<64))):=Yl _ _ _ _ _ _ _ _ _ _
theorem zjt (a b k c d:Int)(w:World)(e:decide (0≤k)=false):QW 16 a b k 0 0 c d w false:=Yl _ _ _ _ _ _ _ _ _ _
theorem zju (a b k c d:Int)(w:World):QW 17 a b k 0 0 c d w true:=Yl _ _ _ _ _ _ _ _ _ _
theorem zjv (a b k c d:Int)(w:World):QW 18 a b k 0 0 c d w true:=Yl _ _ _ _ _ _ _ _ _ _
theorem zjw (a b k c d:Int)(w:World):QW 19 a b k 0 0 c d w true:=Yl _ _ _ _ _ _ _ _ _ _
theorem zjx (c:Int)(a b k d e:Int)(w:World)(f:(c==1)=false)(g:(c==11)=false)(h:(c==12)=false)(i:(c==13)=false)(j:(c==16)=false)(l:(c==17)=false)(m:(c==18)=false)(n:(c==19)=false)(o:(c != 1)=true)(p:(c != 11)=true)(q:(c != 12)=true)(r:(c != 13)=true)(s:(c != 16)=true)(t:(c != 17)=true)(u:(c != 18)=true)(v:(c != 19)=true):QW c a b k 0 0 d e w ((k==0)):=Yl _ _ _ _ _ _ _ _ _ _
theorem zjy (c:Nat)(a b k d e:Int)(w:World)(f:((c:Int)==0)=false)(g:((c:Int) != 0)=true):QW 2 a b k c 0 d e w ((k==0)):=Yl _ _ _ _ _ _ _ _ _ _
theorem zjz (c:Nat)(a b k d e:Int)(w:World)(f:((c:Int)==0)=false)(g:((c:Int) != 0)=true):QW 5 a b k c 0 d e w ((k==0)):=Yl _ _ _ _ _ _ _ _ _ _
theorem zjA (c:Nat)(a b k d e:Int)(w:World)(f:((c:Int)==0)=false)(g:((c:Int) != 0)=true):QW 8 a b k c 0 d e w ((k==0)):=Yl _ _ _ _ _ _ _ _ _ _
theorem zjB (c:Nat)(a b k d e:Int)(w:World)(f:((c:Int)==0)=false)(g:((c:Int) != 0)=true):QW 10 a b k c 0 d e w ((k==0)):=Yl _ _ _ _ _ _ _ _ _ _
theorem zjC (c:Nat)(a b k d e:Int)(w:World)(f:((c:Int)==0)=false)(g:((c:Int) != 0)=true):QW 17 a b k c 0 d e w true:=Yl _ _ _ _ _ _ _ _ _ _
theorem zjD (a b k d c:Int)(w:World)(e:decide (0≤k)=true):QW 1 a b k 0 1 d c w ((decide (k<c))):=Yl _ _ _ _ _ _ _ _ _ _
theorem zjE (a b k c d:Int)(w:World)(e:decide (0≤k)=false):QW 1 a b k 0 1 c d w false:=Yl _ _ _ _ _ _ _ _ _ _
theorem zjF (a b k c d:Int)(w:World):QW 15 a b k 0 1 c d w ((k==0)):=Yl _ _ _ _ _ _ _ _ _ _
theorem zjG (a b k c d:Int)(w:World)(e:decide (0≤k)=true):QW 16 a b k 0 1 c d w ((decide (k<64))):=Yl _ _ _ _ _ _ _ _ _ _
theorem zjH (a b k c d:Int)(w:World)(e:decide (0≤k)=false):QW 16 a b k 0 1 c d w false:=Yl _ _ _ _ _ _ _ _ _ _
theorem zdB (o:MOp)(b c:Int)(w:World):Calls prog 54 #[.agg o.arr,.agg #[.int .i64 b,.int .i64 c]] w (qM (.bool (qi o b c)) w):=by
 obtain ⟨h,d,e,a,g,k⟩:=o;simp only [MOp.arr]
 by_cases m:k<0
 ·rw [show qi ⟨h,d,e,a,g,k⟩ b c=false by simp [qi,m]]
  exact zlo h k g d e a b c w (by simpa using m)
 by_cases n:1<k
 ·rw [show qi ⟨h,d,e,a,g,k⟩ b c=false by simp [qi,n]]
  exact zlp h k g d e a b c w (by simpa using m) (by simpa using n)
 rcases (show k=0∨k=1 by omega) with rfl | rfl
 ·by_cases l:g=0
  ·subst l
   by_cases k1:h=1
   ·subst k1
    by_cases f:0≤a
    ·rw [show qi ⟨1,d,e,a,0,0⟩ b c=decide (a<b) by simp [qi,f]];exact zlv d e a b c w (by simpa using f)
    ·rw [show qi ⟨1,d,e,a,0,0⟩ b c=false by simp [qi,f]];exact zlw d e a b c w (by simpa using f)
   by_cases k11:h=11
   ·subst k11
    by_cases f:0≤a
    ·rw [show qi ⟨11,d,e,a,0,0⟩ b c=decide (a<64) by simp [qi,f]];exact zjm d e a b c w (by simpa using f)
    ·rw [show qi ⟨11,d,e,a,0,0⟩ b c=false by simp [qi,f]];exact zjn d e a b c w (by simpa using f)
   by_cases k12:h=12
   ·subst k12
    by_cases f:0≤a
    ·rw [show qi ⟨12,d,e,a,0,0⟩ b c=decide (a<64) by simp [qi,f]];exact zjo d e a b c w (by simpa using f)
    ·rw [show qi ⟨12,d,e,a,0,0⟩ b c=false by simp [qi,f]];exact zjp d e a b c w (by simpa using f)
   by_cases k13:h=13
   ·subst k13
    by_cases f:0≤a
    ·rw [show qi ⟨13,d,e,a,0,0⟩ b c=decide (a<64) by simp [qi,f]];exact zjq d e a b c w (by simpa using f)
    ·rw [show qi ⟨13,d,e,a,0,0⟩ b c=false by simp [qi,f]];exact zjr d e a b c w (by simpa using f)
   by_cases k16:h=16
   ·subst k16
    by_cases f:0≤a
    ·rw [show qi ⟨16,d,e,a,0,0⟩ b c=decide (a<64) by simp [qi,f]];exact zjs d e a b c w (by simpa using f)
    ·rw [show qi ⟨16,d,e,a,0,0⟩ b c=false by simp [qi,f]];exact zjt d e a b c w (by simpa using f)
   by_cases k17:h=17
   ·subst k17
    rw [show qi ⟨17,d,e,a,0,0⟩ b c=true by simp [qi]];exact zju d e a b c w
   by_cases k18:h=18
   ·subst k18
    rw [show qi ⟨18,d,e,a,0,0⟩ b c=true by simp [qi]];exact zjv d e a b c w
   by_cases k19:h=19
   ·subst k19
    rw [show qi ⟨19,d,e,a,0,0⟩ b c=true by simp [qi]];exact zjw d e a b c w
   rw [show qi ⟨h,d,e,a,0,0⟩ b c=(a==0) by simp [qi,k1,k11,k12,k13,k16,k17,k18,k19]];exact zjx h d e a b c w (by simpa using k1) (by simpa using k11) (by simpa using k12) (by simpa using k13) (by simpa using k16) (by simpa using k17) (by simpa using k18) (by simpa using k19) (by simpa using k1) (by simpa using k11) (by simpa using k12) (by simpa using k13) (by simpa using k16) (by simpa using k17) (by simpa using k18) (by simpa using k19)
  ·have i:((g:Int)==0)=false:=by simp;omega
   have j:((g:Int) != 0)=true:=by simp;omega
   by_cases k2:h=2
   ·subst k2
    rw [show qi ⟨2,d,e,a,g,0⟩ b c=(a==0) by simp [qi]];exact zjy g d e a b c w i j
   by_cases k5:h=5
   ·subst k5
    rw [show qi ⟨5,d,e,a,g,0⟩ b c=(a==0) by simp [qi]];exact zjz g d e a b c w i j
   by_cases k8:h=8
   ·subst k8
    rw [show qi ⟨8,d,e,a,g,0⟩ b c=(a==0) by simp [qi]];exact zjA g d e a b c w i j
   by_cases k10:h=10
   ·subst k10
    rw [show qi ⟨10,d,e,a,g,0⟩ b c=(a==0) by simp [qi]];exact zjB g d e a b c w i j
   by_cases k17:h=17
   ·subst k17
    rw [show qi ⟨17,d,e,a,g,0⟩ b c=true by simp [qi]];exact zjC g d e a b c w i j
   rw [show qi ⟨h,d,e,a,g,0⟩ b c=false by simp [qi,l,k2,k5,k8,k10,k17]];exact zlr h g d e a b c w i j (by simpa using k2) (by simpa using k5) (by simpa using k8) (by simpa using k10) (by simpa using k17) (by simpa using k2) (by simpa using k5) (by simpa using k8) (by simpa using k10) (by simpa using k17)
 ·by_cases f:h=1∨h=15∨h=16
  ·by_cases l:g=0
   ·subst l
    rcases f with rfl | rfl | rfl
    ·by_cases f:0≤a
     ·rw [show qi ⟨1,d,e,a,0,1⟩ b c=decide (a<c) by simp [qi,f]];exact zjD d e a b c w (by simpa using f)
     ·rw [show qi ⟨1,d,e,a,0,1⟩ b c=false by simp [qi,f]];exact zjE d e a b c w (by simpa using f)
    ·rw [show qi ⟨15,d,e,a,0,1⟩ b c=(a==0) by simp [qi]];exact zjF d e a b c w
    ·by_cases f:0≤a
     ·rw [show qi ⟨16,d,e,a,0,1⟩ b c=decide (a<64) by simp [qi,f]];exact zjG d e a b c w (by simpa using f)
     ·rw [show qi ⟨16,d,e,a,0,1⟩ b c=false by simp [qi,f]];exact zjH d e a b c w (by simpa using f)
   ·have i:((g:Int)==0)=false:=by simp;omega
    have j:((g:Int) != 0)=true:=by simp;omega
    rcases f with rfl | rfl | rfl
    ·rw [show qi ⟨1,d,e,a,g,1⟩ b c=false by simp [qi,l]];exact zls g d e a b c w i j
    ·rw [show qi ⟨15,d,e,a,g,1⟩ b c=false by simp [qi,l]];exact zlt g d e a b c w i j
    ·rw [show qi ⟨16,d,e,a,g,1⟩ b c=false by simp [qi,l]];exact zlu g d e a b c w i j
  ·simp only [not_or] at f
   obtain ⟨k1,k15,k16⟩:=f;rw [show qi ⟨h,d,e,a,g,1⟩ b c=false by simp [qi,k1,k15,k16]];exact zlq h g d e a b c w (by simpa using k1) (by simpa using k15) (by simpa using k16) (by simpa using k1) (by simpa using k15) (by simpa using k16)
theorem QS (l:Value)(a:List Int)(e m:Int)(w:World)(n:Arr w.heap.size w 1 l a.length (ints a)):
  Calls prog 53 #[l,.int .i64 e,.int .i64 m] w fun r s=>r= .returned (.bool (qG a e m))∧s=w:=by
 obtain ⟨B,C,rfl,D,t,u,o⟩:=n.open;have v:=Z o;unfold maxLen at t;clear o u n
 by_cases d:m=0
 ·subst d
  have c:qG a e 0=(e==0):=by unfold qG;rw [if_pos rfl]
  rw [c];go_enter func53,ntmps53;go_wp2_with fail;go_ret;exact ⟨rfl,rfl⟩
 ·have E:(m==0)=false:=by simpa using d
  by_cases h:0≤e
  ·obtain ⟨b,rfl⟩:=Int.eq_ofNat_of_zero_le h
   by_cases i:b<a.length
   ·obtain ⟨x,y,rfl,F,p⟩:=v.out (by omega)
    have z:w.cell? ⟨x,y+b,none⟩=some (.int .i64 a[b]):=by rw [p b (by omega),yY a b i]
    have c:qG a (b:Int) m=(a[b]==m||a[b]==3):=by
     unfold qG zfM;rw [if_neg d];have A:(m != 0)=true:=by simpa using d
     simp [List.getD,i,A]
    have f:decide ((0:Int)≤(b:Int))=true:=by simp
    have q:decide ((b:Int)<(a.length:Int))=true:=by simp;omega
    have G:(b:Int)<(a.length:Int):=by omega
    have H:(0:Int)≤(b:Int):=by omega
    rw [c];clear p c d;generalize a[b]=j at z
    by_cases g:j=m
    ·have k:(j==m)=true:=by simpa using g
     clear g;rw [k];go_enter func53,ntmps53;go_wp2_with fail
     first | (go_quiet (fail)) | skip
     go_wp2_with fail;go_ret;exact ⟨rfl,rfl⟩
    ·have k:(j==m)=false:=by simpa using g
     clear g;rw [k];go_enter func53,ntmps53;go_wp2_with fail
     first | (go_quiet (fail)) | skip
     go_wp2_with fail;go_ret;exact ⟨by first | rfl | simp,rfl⟩
   ·have f:decide ((0:Int)≤(b:Int))=true:=by simp
    have q:decide ((b:Int)<(a.length:Int))=false:=by simp;omega
    have c:qG a (b:Int) m=false:=by unfold qG;rw [if_neg d,q];simp
    rw [c];have I:¬((b:Int)<(a.length:Int)):=by omega
    clear c d i f;go_enter func53,ntmps53;go_wp2_with fail
    all_goals first | (go_ret;exact ⟨rfl,rfl⟩) | (exfalso;omega)
  ·have f:decide ((0:Int)≤e)=false:=by simpa using h
   have c:qG a e m=false:=by unfold qG;rw [if_neg d,f];simp
   rw [c];clear c d h;go_enter func53,ntmps53;go_wp2_with fail
   first | (go_quiet (fail)) | skip
   go_wp2_with fail;go_ret;exact ⟨rfl,rfl⟩
def qJ (b c:Int)(a:List Int)(o:MOp):Bool:=decide (0≤(qE o).2.2.2)&&qG a o.a (qE o).1&&qG a o.b (qE o).2.1&&qi o b c
def yb (a b:Int):List MOp→List Int→Bool
 |[],_=>true
 |c::e,d=>if qJ a b d c then yb a b e (d++[(qE c).2.2.1]) else false
def Qr (ops:List MOp)(a b:Int):Bool:=decide (ops.length≤16384)&&decide (0≤a)&&decide (a≤65536)&&decide (0≤b)&&decide (b≤65536)&&YN ops&&yb a b ops []
structure MdSt (w:World)(e0 e1:Int)(x:Value)(m:List Int)(W:World):Prop where
 box:W.heap[w.heap.size]? =some (.cells #[.int .i64 e0,.int .i64 e1] 23 (0,0))
 own:W.ownsRow (w.heap.size+1) 3 1 x m.length (ints m)
 below:Below w.heap.size w W
theorem MdSt.start (w:World)(a b:Int):MdSt w a b (.slice none 0 0) [] (w.alloc (.cells #[.int .i64 a,.int .i64 b] 23)):=⟨heap_alloc_new _ _,World.ownsRow_nil _ _ _ _,(Below.refl _ _).alloc (Nat.le_refl _) _⟩
theorem MdSt.later (a:MdSt w h A x m W)(b:Below W.heap.size W D):MdSt w h A x m D:=
 ⟨(b.block _ (lt_of_block a.box)).trans a.box,Below.owns a.own b,a.below.trans (b.mono a.below.size)⟩
theorem MdSt.add {y:Value}{z:Int}(a:MdSt w h A x m W)(b:W.grownBy D x.ownBlock)(c:D.ownsRow (w.heap.size+1) 3 1 y (m.length+1) (ints m++[.int .i64 z])):MdSt w h A y (m++[z]) D:=
 ⟨(b.block _ (lt_of_block a.box) fun d=>Zn a.own a.box (by decide) d.symm).trans a.box,by rw [List.length_append];simpa [ints] using c,a.below.grown b a.below.size fun e f=>by have:=(a.own.lt e f).1;omega⟩
theorem MdSt.cells (a:MdSt w h A x m W):W.cell? ⟨w.heap.size,0,none⟩=some (.int .i64 h)∧W.cell? ⟨w.heap.size,1,none⟩=some (.int .i64 A):=by
 have:=a.box;refine ⟨?_,?_⟩<;>simp [World.cell?,this]
structure MoSt (w:World)(e0 e1:Int)(x:Value)(m:List Int)(B:Nat)(o:MOp)(W:World):Prop where
 st:MdSt w e0 e1 x m W
 op:W.heap[B]? =some (.cells o.arr 61 (0,0))
theorem MoSt.later (a:MoSt w h A x m B o W)(b:Below W.heap.size W D):MoSt w h A x m B o D:=⟨a.st.later b,(b.block _ (lt_of_block a.op)).trans a.op⟩
theorem MoSt.start (a:MdSt w h A x m W)(o:MOp):MoSt w h A x m W.heap.size o (W.alloc (.cells o.arr 61)):=⟨a.later ((Below.refl _ _).alloc (Nat.le_refl _) _),heap_alloc_new _ _⟩
theorem MoSt.cells (a:MoSt w h A x m B o W):
  (W.cell? ⟨B,0,none⟩=some (.int .i64 o.kind)∧W.cell? ⟨B,1,none⟩=some (.int .i64 o.a)∧W.cell? ⟨B,2,none⟩=some (.int .i64 o.b)∧W.cell? ⟨B,3,none⟩=some (.int .i64 o.k)∧W.cell? ⟨B,4,none⟩=some (.int .u64 o.c)∧W.cell? ⟨B,5,none⟩=some (.int .i64 o.party))∧
  W.cell? ⟨w.heap.size,0,none⟩=some (.int .i64 h)∧W.cell? ⟨w.heap.size,1,none⟩=some (.int .i64 A):=⟨Yw a.op,a.st.cells⟩
def Yf (w:World)(b:Bool)(e:Ending)(a:World):Prop:=∃c,e= .returned (.tuple #[c,.bool b])∧Below w.heap.size w a
theorem zg4 (v:Value)(ops:List MOp)(d e:Int)(w:World)(E:Arr w.heap.size w 6 v ops.length (qz ops))(az:ops.length≤16384)(ae:0≤d∧d≤65536)(af:0≤e∧e≤65536)(Q:YN ops=true)(q:Bool)(R:yb d e ops []=q):
  Calls prog 24 #[v,.agg #[.int .i64 d,.int .i64 e]] w (Yf w q):=by
 obtain ⟨aA,aB,rfl,aC,ag,ah,S⟩:=E.open;have ai:=Z S;have aj:=Z E;have ak:=Z Q;have al:=Z R;have aD:decide ((16384:Int)<(ops.length:Int))=false:=by simp;omega
 have aE:decide (d<0)=false:=by simp;omega
 have aF:decide (65536<d)=false:=by simp;omega
 have aG:decide (e<0)=false:=by simp;omega
 have aH:decide (65536<e)=false:=by simp;omega
 have y:=Z (MdSt.start w d e);clear E ah S ag Q R ae af;go_enter func24,ntmps24;go_upto_region 1 with fail;generalize w.alloc _=aI at y ⊢;obtain ⟨r,s⟩:=y.cells;go_upto_region 6 with (go_at_call 51;go_must (refine (zdL _ ops _ (aj.later y.below y.below.size) (by omega)).mono ?_;rw [ak.out];rintro h t ⟨rfl,rfl⟩));clear r s;go_wp2_with fail;go_loopg [6,7] ops.length (fun am F an wr=>∃(c:Nat) (b:List Int),c≤ops.length∧am=ops.length-c∧an= .int .i64 c∧b.length=c∧Hid (MdSt w d e F b wr)∧Hid (yb d e (ops.drop c) b=q))
 case atStart=>exact ⟨0, [],Nat.zero_le _,rfl,rfl,rfl,y,Z al⟩
 case round=>
  obtain ⟨c,b,aJ,aK,rfl,T,G,U⟩:=hrel;have H:=Z T;clear T
  by_cases V:c<ops.length
  ·obtain ⟨aL,aM,rfl,ao,W⟩:=ai.out (by omega)
   obtain ⟨j,k,l,m,n,o⟩:=y8 W G.below ao rfl c V;have i:=U.out;rw [List.drop_eq_getElem_cons V,yb] at i;generalize ops[c]=a at j k l m n o i;clear W;have aN:(0:Int)≤(c:Int):=by omega
   have aO:(c:Int)<(ops.length:Int):=by omega
   obtain ⟨⟨ap,aq,mk,B⟩,I⟩:∃F,qE a=F:=⟨_,rfl⟩;obtain ⟨J,K⟩:∃J,qG b a.a ap=J:=⟨_,rfl⟩;obtain ⟨L,M⟩:∃L,qG b a.b aq=L:=⟨_,rfl⟩;obtain ⟨N,O⟩:∃N,qi a d e=N:=⟨_,rfl⟩;rw [qJ,I,K,M,O] at i;simp only at i;have ar:=Z I;have C:=Z K;have P:=Z M;have X:=Z O;have z:=Z i;clear I K M O i;have D:=Z (show MoSt w d e _ b wr.heap.size a (wr.alloc (.cells #[.int .i64 a.kind,.int .i64 a.a,.int .i64 a.b,.int .i64 a.k,.int .u64 a.c,.int .i64 a.party] 61)) from MoSt.start G a);go_upto_region 10 with fail;generalize wr.alloc (.cells #[.int .i64 a.kind,.int .i64 a.a,.int .i64 a.b,.int .i64 a.k,.int .u64 a.c,.int .i64 a.party] 61)=aP at D ⊢;generalize au:wr.heap.size=aQ at D ⊢;clear j k l m n o au;obtain ⟨⟨j,k,l,m,n,o⟩,r,s⟩:=D.cells;go_upto_region 11 with (go_at_call 52;go_must (refine (zaF a _).mono ?_;rw [ar.out];unfold rWv;rintro h aR ⟨rfl,Y⟩;have f:=Z (D.later Y);clear Y j k l m n o r s;obtain ⟨⟨j,k,l,m,n,o⟩,r,s⟩:=f.cells))
   by_cases u:B<0
   ·have av:decide (B<0)=true:=by simpa using u
    have g:q=false:=by rw [←z.out];simp;omega
    have p:=Z g;clear u g;go_wp2_with fail;go_ret2;exact ⟨_,by rw [p.out];rfl,f.st.below⟩
   ·have av:decide (B<0)=false:=by simpa using u
    cases J with
    |false=>
     have g:q=false:=by rw [←z.out];simp
     have p:=Z g;clear u g;go_wp2_with ((with_reducible show Calls _ _ #[_,.int .i64 a.a,_] _ _);go_at_call 53;go_must (refine (QS _ b _ _ _ (Arr.of_owns f.st.own)).mono ?_;rw [C.out];rintro h t ⟨rfl,rfl⟩));go_ret2;exact ⟨_,by rw [p.out];rfl,f.st.below⟩
    |true=>
     cases L with
     |false=>
      have g:q=false:=by rw [←z.out];simp
      have p:=Z g;clear u g;go_wp2_with (first | ((with_reducible show Calls _ _ #[_,.int .i64 a.a,_] _ _);go_at_call 53;go_must (refine (QS _ b _ _ _ (Arr.of_owns f.st.own)).mono ?_;rw [C.out];rintro h t ⟨rfl,rfl⟩)) | ((with_reducible show Calls _ _ #[_,.int .i64 a.b,_] _ _);go_at_call 53;go_must (refine (QS _ b _ _ _ (Arr.of_owns f.st.own)).mono ?_;rw [P.out];rintro h t ⟨rfl,rfl⟩)));go_ret2;exact ⟨_,by rw [p.out];rfl,f.st.below⟩
     |true=>
      cases N with
      |false=>
       have g:q=false:=by rw [←z.out];simp
       have p:=Z g;clear u g;go_wp2_with (first | ((with_reducible show Calls _ _ #[_,.int .i64 a.a,_] _ _);go_at_call 53;go_must (refine (QS _ b _ _ _ (Arr.of_owns f.st.own)).mono ?_;rw [C.out];rintro h t ⟨rfl,rfl⟩)) | ((with_reducible show Calls _ _ #[_,.int .i64 a.b,_] _ _);go_at_call 53;go_must (refine (QS _ b _ _ _ (Arr.of_owns f.st.own)).mono ?_;rw [P.out];rintro h t ⟨rfl,rfl⟩)) | (go_at_call 54;go_must (refine (zdB a d e _).mono ?_;rw [X.out];unfold qM;rintro h aw ⟨rfl,A⟩;have x:=Z (f.later A);clear A j k l m n o r s;obtain ⟨⟨j,k,l,m,n,o⟩,r,s⟩:=x.cells)));go_ret2;exact ⟨_,by rw [p.out];rfl,x.st.below⟩
      |true=>
       have aa:yb d e (ops.drop (c+1)) (b++[mk])=q:=by rw [←z.out];simp [show 0≤B by omega]
       have ax:=Z aa;clear u aa;go_wp2_with (first | ((with_reducible show Calls _ _ #[_,.int .i64 a.a,_] _ _);go_at_call 53;go_must (refine (QS _ b _ _ _ (Arr.of_owns f.st.own)).mono ?_;rw [C.out];rintro h t ⟨rfl,rfl⟩)) | ((with_reducible show Calls _ _ #[_,.int .i64 a.b,_] _ _);go_at_call 53;go_must (refine (QS _ b _ _ _ (Arr.of_owns f.st.own)).mono ?_;rw [P.out];rintro h t ⟨rfl,rfl⟩)) | (go_at_call 54;go_must (refine (zdB a d e _).mono ?_;rw [X.out];unfold qM;rintro h aw ⟨rfl,A⟩;have x:=Z (f.later A);clear A j k l m n o r s;obtain ⟨⟨j,k,l,m,n,o⟩,r,s⟩:=x.cells)) | (at_builtin;refine yS rfl _ _ 24 rfl 3 _ 1 8 underlying24 qD rfl (by decide) #[_] _ _ _ _ x.st.own rfl rfl rfl (by intro aS ab;simp at ab;subst ab;rfl) (by have:=lt_of_block x.st.box;omega) (by have:=H.out;omega) (by have:=H.out;unfold maxLen;omega) ?_;intro aT aU ac ad _;go_must (have ay:=Z (x.st.add ad ac);clear ac ad)));go_roundg (ops.length-(c+1))
       case measure=>omega
       case rel=>exact ⟨c+1,b++[mk],by omega,rfl,by go_num,by rw [List.length_append,H.out];rfl,ay,ax⟩
  ·obtain rfl:c=ops.length:=by omega
   have i:=U.out;rw [List.drop_length,yb] at i;have p:=Z i;clear i;go_wp2_with fail;go_ret2;exact ⟨_,by rw [←p.out];rfl,G.below⟩
theorem zlL (a:Option Addr)(n b:Nat)(c d:Int)(w:World)(e:decide ((16384:Int)<(n:Int))=true):Calls prog 24 #[.slice a n b,.agg #[.int .i64 c,.int .i64 d]] w (Yf w false):=by
 go_enter func24,ntmps24;go_wp2_with fail;go_ret2;exact ⟨_,rfl,(Below.refl _ _).alloc (Nat.le_refl _) _⟩
theorem zlM (b:Option Addr)(n c:Nat)(a d:Int)(w:World)(e:decide ((16384:Int)<(n:Int))=false)(f:decide (a<0)=true):Calls prog 24 #[.slice b n c,.agg #[.int .i64 a,.int .i64 d]] w (Yf w false):=by
 go_enter func24,ntmps24;go_wp2_with fail;go_ret2;exact ⟨_,rfl,(Below.refl _ _).alloc (Nat.le_refl _) _⟩
theorem zlN (b:Option Addr)(n c:Nat)(a d:Int)(w:World)(e:decide ((16384:Int)<(n:Int))=false)(f:decide (a<0)=false)(g:decide (65536<a)=true):Calls prog 24 #[.slice b n c,.agg #[.int .i64 a,.int .i64 d]] w (Yf w false):=by
 go_enter func24,ntmps24;go_wp2_with fail;go_ret2;exact ⟨_,rfl,(Below.refl _ _).alloc (Nat.le_refl _) _⟩
theorem zlO (c:Option Addr)(n d:Nat)(a b:Int)(w:World)(e:decide ((16384:Int)<(n:Int))=false)(f:decide (a<0)=false)(g:decide (65536<a)=false)(h:decide (b<0)=true):Calls prog 24 #[.slice c n d,.agg #[.int .i64 a,.int .i64 b]] w (Yf w false):=by
 go_enter func24,ntmps24;go_wp2_with fail;go_ret2;exact ⟨_,rfl,(Below.refl _ _).alloc (Nat.le_refl _) _⟩
theorem zlP (c:Option Addr)(n d:Nat)(a b:Int)(w:World)(e:decide ((16384:Int)<(n:Int))=false)(f:decide (a<0)=false)(g:decide (65536<a)=false)(h:decide (b<0)=false)(i:decide (65536<b)=true):Calls prog 24 #[.slice c n d,.agg #[.int .i64 a,.int .i64 b]] w (Yf w false):=by
 go_enter func24,ntmps24;go_wp2_with fail;go_ret2;exact ⟨_,rfl,(Below.refl _ _).alloc (Nat.le_refl _) _⟩
theorem zlQ (v:Value)(ops:List MOp)(a b:Int)(w:World)(c:Arr w.heap.size w 6 v ops.length (qz ops))(m:ops.length≤16384)(f:0≤a∧a≤65536)(g:0≤b∧b≤65536)(e:YN ops=false):
  Calls prog 24 #[v,.agg #[.int .i64 a,.int .i64 b]] w (Yf w false):=by
 obtain ⟨n,o,rfl,p,h,i,j⟩:=c.open;have k:=Z c;have l:=Z e;have q:decide ((16384:Int)<(ops.length:Int))=false:=by simp;omega
 have r:decide (a<0)=false:=by simp;omega
 have s:decide (65536<a)=false:=by simp;omega
 have t:decide (b<0)=false:=by simp;omega
 have u:decide (65536<b)=false:=by simp;omega
 have d:=Z ((Below.refl w.heap.size w).alloc (Nat.le_refl _) (.cells #[.int .i64 a,.int .i64 b] 23));clear c i j h e f g;go_enter func24,ntmps24;go_wp2_with (go_at_call 51;go_must (refine (zdL _ ops _ (k.later d d.size) (by omega)).mono ?_;rw [l.out];rintro x y ⟨rfl,rfl⟩));go_ret2;exact ⟨_,rfl,d⟩
theorem zdH (v:Value)(ops:List MOp)(a b:Int)(w:World)(h:Arr w.heap.size w 6 v ops.length (qz ops))(l:ops.length≤1000000):
  Calls prog 24 #[v,.agg #[.int .i64 a,.int .i64 b]] w (Yf w (Qr ops a b)):=by
 obtain ⟨c,d,e,_⟩:=h.open
 by_cases m:16384<ops.length
 ·rw [show Qr ops a b=false by simp [Qr];omega,e]
  exact zlL c _ d a b w (by simp;omega)
 by_cases f:a<0
 ·rw [show Qr ops a b=false by simp [Qr];omega,e]
  exact zlM c _ d a b w (by simp;omega) (by simpa using f)
 by_cases i:65536<a
 ·rw [show Qr ops a b=false by simp [Qr];omega,e]
  exact zlN c _ d a b w (by simp;omega) (by simpa using f) (by simpa using i)
 by_cases j:b<0
 ·rw [show Qr ops a b=false by simp [Qr];omega,e]
  exact zlO c _ d a b w (by simp;omega) (by simpa using f) (by simpa using i) (by simpa using j)
 by_cases k:65536<b
 ·rw [show Qr ops a b=false by simp [Qr];omega,e]
  exact zlP c _ d a b w (by simp;omega) (by simpa using f) (by simpa using i) (by simpa using j) (by simpa using k)
 by_cases g:YN ops=true
 ·rw [show Qr ops a b=yb a b ops [] by simp [Qr,g,show ops.length≤16384 by omega,show 0≤a by omega,show a≤65536 by omega,show 0≤b by omega,show b≤65536 by omega]]
  exact zg4 v ops a b w h (by omega) ⟨by omega,by omega⟩ ⟨by omega,by omega⟩ g _ rfl
 ·rw [show Qr ops a b=false by simp [Qr,g]]
  exact zlQ v ops a b w h (by omega) ⟨by omega,by omega⟩ ⟨by omega,by omega⟩ (by simpa using g)
end Go.Proofs.YtklofgfkaaoipaaGreatDoor
namespace Go.Proofs.YtklofgfkaaoipaaGreatDoor
open Go.Proofs.Tryz
variable {o:MOp}{f:Nat→Nat}
def yr (n:Nat)(a:List Int)(o:MOp):Bool:= !qI o||(decide (0≤o.k)&&decide (o.k<n)&&(a.getD o.k.toNat 0==0))
theorem zoU (n:Nat)(j e:List Int)(f g a b k d:Int)(c:Nat)(q:f≤65536)(r:g≤65536):zl n j e ⟨1,a,b,k,c,d⟩ (qq ⟨1,a,b,k,c,d⟩ f g)=(yr n j ⟨1,a,b,k,c,d⟩&&qJ f g e ⟨1,a,b,k,c,d⟩):=by
 have o:qq ⟨1,a,b,k,c,d⟩ f g=zI d f g:=rfl;have p:qE ⟨1,a,b,k,c,d⟩=(0,0,1,1):=rfl;rw [o];simp only [qJ,p];rw [Bool.eq_iff_iff]
 by_cases l:d=0
 ·subst l
  simp [zl,yH,zX,opK,yr,qi,qI,zI]
  by_cases h:qG e a 0=true<;>by_cases i:qG e b 0=true<;>simp [h,i]<;>omega
 ·by_cases m:d=1
  ·subst m
   simp [zl,yH,zX,opK,yr,qi,qI,zI]
   by_cases h:qG e a 0=true<;>by_cases i:qG e b 0=true<;>simp [h,i]<;>omega
  ·simp [zl,yH,zX,opK,yr,qi,qI,zI,l,m,Yz]
   omega
theorem zl3 (n:Nat)(l f:List Int)(g h a b k d:Int)(c:Nat):zl n l f ⟨17,a,b,k,c,d⟩ (qq ⟨17,a,b,k,c,d⟩ g h)=(yr n l ⟨17,a,b,k,c,d⟩&&qJ g h f ⟨17,a,b,k,c,d⟩):=by
 have o:qq ⟨17,a,b,k,c,d⟩ g h=ye k c:=rfl;rw [o]
 by_cases e:yN k c=true
 ·have i:qE ⟨17,a,b,k,c,d⟩=zg1 k c:=by simp [qE,e]
  have j:ye k c=(⟨yX c,if k=1 then 0 else yX (c / 2),2,4,true,false,2⟩,true):=by simp [ye,e]
  rw [j];simp only [qJ,i,zg1];have v:0<k∧k<4:=by rcases YC e with ⟨m,_⟩ | ⟨m | m,_⟩<;>omega
  have p:yX c=1+(c:Int)%2:=by unfold yX;split<;>omega
  have q:yX (c / 2)=1+(c:Int) / 2%2:=by unfold yX;split<;>omega
  rw [p,q];generalize (1+(c:Int)%2)=r;generalize (if k=1 then 0 else 1+(c:Int) / 2%2)=s;rw [Bool.eq_iff_iff];simp [zl,yH,zX,opK,yr,qi,qI]
  by_cases t:qG f a r=true<;>by_cases u:qG f b s=true<;>simp [t,u]<;>omega
 ·have i:qE ⟨17,a,b,k,c,d⟩=(0,0,0,-1):=by simp [qE,e]
  have j:ye k c=(Yz,false):=by simp [ye,e]
  rw [j];simp [qJ,i,zl,yH]
theorem zpF (n:Nat)(f e:List Int)(g h a b k d:Int)(c:Nat):zl n f e ⟨2,a,b,k,c,d⟩ (qq ⟨2,a,b,k,c,d⟩ g h)=(yr n f ⟨2,a,b,k,c,d⟩&&qJ g h e ⟨2,a,b,k,c,d⟩):=by
 have i:qq ⟨2,a,b,k,c,d⟩ g h=(⟨0,0,3,0,true,false,0⟩,true):=rfl;have j:qE ⟨2,a,b,k,c,d⟩=(0,0,3,0):=rfl;rw [i];simp only [qJ,j];rw [Bool.eq_iff_iff];generalize l:f.getD k.toNat 0=p;simp [zl,yH,zX,opK,yr,qi,qI,l]
 by_cases m:qG e a 0=true<;>by_cases o:qG e b 0=true<;>simp [m,o]<;>omega
theorem zpG (n:Nat)(f e:List Int)(g h a b k d:Int)(c:Nat):zl n f e ⟨3,a,b,k,c,d⟩ (qq ⟨3,a,b,k,c,d⟩ g h)=(yr n f ⟨3,a,b,k,c,d⟩&&qJ g h e ⟨3,a,b,k,c,d⟩):=by
 have i:qq ⟨3,a,b,k,c,d⟩ g h=(⟨1,1,1,0,false,false,0⟩,true):=rfl;have j:qE ⟨3,a,b,k,c,d⟩=(1,1,1,0):=rfl;rw [i];simp only [qJ,j];rw [Bool.eq_iff_iff];generalize l:f.getD k.toNat 0=p;simp [zl,yH,zX,opK,yr,qi,qI,l]
 by_cases m:qG e a 1=true<;>by_cases o:qG e b 1=true<;>simp [m,o]<;>omega
theorem zpH (n:Nat)(f e:List Int)(g h a b k d:Int)(c:Nat):zl n f e ⟨4,a,b,k,c,d⟩ (qq ⟨4,a,b,k,c,d⟩ g h)=(yr n f ⟨4,a,b,k,c,d⟩&&qJ g h e ⟨4,a,b,k,c,d⟩):=by
 have i:qq ⟨4,a,b,k,c,d⟩ g h=(⟨1,1,1,0,false,false,0⟩,true):=rfl;have j:qE ⟨4,a,b,k,c,d⟩=(1,1,1,0):=rfl;rw [i];simp only [qJ,j];rw [Bool.eq_iff_iff];generalize l:f.getD k.toNat 0=p;simp [zl,yH,zX,opK,yr,qi,qI,l]
 by_cases m:qG e a 1=true<;>by_cases o:qG e b 1=true<;>simp [m,o]<;>omega
theorem zpI (n:Nat)(f e:List Int)(g h a b k d:Int)(c:Nat):zl n f e ⟨5,a,b,k,c,d⟩ (qq ⟨5,a,b,k,c,d⟩ g h)=(yr n f ⟨5,a,b,k,c,d⟩&&qJ g h e ⟨5,a,b,k,c,d⟩):=by
 have i:qq ⟨5,a,b,k,c,d⟩ g h=(⟨1,0,1,0,true,false,0⟩,true):=rfl;have j:qE ⟨5,a,b,k,c,d⟩=(1,0,1,0):=rfl;rw [i];simp only [qJ,j];rw [Bool.eq_iff_iff];generalize l:f.getD k.toNat 0=p;simp [zl,yH,zX,opK,yr,qi,qI,l]
 by_cases m:qG e a 1=true<;>by_cases o:qG e b 0=true<;>simp [m,o]<;>omega
theorem zpJ (n:Nat)(f e:List Int)(g h a b k d:Int)(c:Nat):zl n f e ⟨6,a,b,k,c,d⟩ (qq ⟨6,a,b,k,c,d⟩ g h)=(yr n f ⟨6,a,b,k,c,d⟩&&qJ g h e ⟨6,a,b,k,c,d⟩):=by
 have i:qq ⟨6,a,b,k,c,d⟩ g h=(⟨1,1,1,0,false,false,1⟩,true):=rfl;have j:qE ⟨6,a,b,k,c,d⟩=(1,1,1,1):=rfl;rw [i];simp only [qJ,j];rw [Bool.eq_iff_iff];generalize l:f.getD k.toNat 0=p;simp [zl,yH,zX,opK,yr,qi,qI,l]
 by_cases m:qG e a 1=true<;>by_cases o:qG e b 1=true<;>simp [m,o]<;>omega
theorem zpK (n:Nat)(f e:List Int)(g h a b k d:Int)(c:Nat):zl n f e ⟨7,a,b,k,c,d⟩ (qq ⟨7,a,b,k,c,d⟩ g h)=(yr n f ⟨7,a,b,k,c,d⟩&&qJ g h e ⟨7,a,b,k,c,d⟩):=by
 have i:qq ⟨7,a,b,k,c,d⟩ g h=(⟨2,2,2,0,false,false,0⟩,true):=rfl;have j:qE ⟨7,a,b,k,c,d⟩=(2,2,2,0):=rfl;rw [i];simp only [qJ,j];rw [Bool.eq_iff_iff];generalize l:f.getD k.toNat 0=p;simp [zl,yH,zX,opK,yr,qi,qI,l]
 by_cases m:qG e a 2=true<;>by_cases o:qG e b 2=true<;>simp [m,o]<;>omega
theorem zpL (n:Nat)(f e:List Int)(g h a b k d:Int)(c:Nat):zl n f e ⟨8,a,b,k,c,d⟩ (qq ⟨8,a,b,k,c,d⟩ g h)=(yr n f ⟨8,a,b,k,c,d⟩&&qJ g h e ⟨8,a,b,k,c,d⟩):=by
 have i:qq ⟨8,a,b,k,c,d⟩ g h=(⟨2,0,2,0,true,false,0⟩,true):=rfl;have j:qE ⟨8,a,b,k,c,d⟩=(2,0,2,0):=rfl;rw [i];simp only [qJ,j];rw [Bool.eq_iff_iff];generalize l:f.getD k.toNat 0=p;simp [zl,yH,zX,opK,yr,qi,qI,l]
 by_cases m:qG e a 2=true<;>by_cases o:qG e b 0=true<;>simp [m,o]<;>omega
theorem zpM (n:Nat)(f e:List Int)(g h a b k d:Int)(c:Nat):zl n f e ⟨9,a,b,k,c,d⟩ (qq ⟨9,a,b,k,c,d⟩ g h)=(yr n f ⟨9,a,b,k,c,d⟩&&qJ g h e ⟨9,a,b,k,c,d⟩):=by
 have i:qq ⟨9,a,b,k,c,d⟩ g h=(⟨2,2,2,0,false,false,1⟩,true):=rfl;have j:qE ⟨9,a,b,k,c,d⟩=(2,2,2,1):=rfl;rw [i];simp only [qJ,j];rw [Bool.eq_iff_iff];generalize l:f.getD k.toNat 0=p;simp [zl,yH,zX,opK,yr,qi,qI,l]
 by_cases m:qG e a 2=true<;>by_cases o:qG e b 2=true<;>simp [m,o]<;>omega
theorem zoL (n:Nat)(f e:List Int)(g h a b k d:Int)(c:Nat):zl n f e ⟨10,a,b,k,c,d⟩ (qq ⟨10,a,b,k,c,d⟩ g h)=(yr n f ⟨10,a,b,k,c,d⟩&&qJ g h e ⟨10,a,b,k,c,d⟩):=by
 have i:qq ⟨10,a,b,k,c,d⟩ g h=(⟨2,0,2,0,true,false,0⟩,true):=rfl;have j:qE ⟨10,a,b,k,c,d⟩=(2,0,2,0):=rfl;rw [i];simp only [qJ,j];rw [Bool.eq_iff_iff];generalize l:f.getD k.toNat 0=p;simp [zl,yH,zX,opK,yr,qi,qI,l]
 by_cases m:qG e a 2=true<;>by_cases o:qG e b 0=true<;>simp [m,o]<;>omega
theorem zoM (n:Nat)(f e:List Int)(g h a b k d:Int)(c:Nat):zl n f e ⟨11,a,b,k,c,d⟩ (qq ⟨11,a,b,k,c,d⟩ g h)=(yr n f ⟨11,a,b,k,c,d⟩&&qJ g h e ⟨11,a,b,k,c,d⟩):=by
 have i:qq ⟨11,a,b,k,c,d⟩ g h=(⟨2,0,2,64,false,false,0⟩,true):=rfl;have j:qE ⟨11,a,b,k,c,d⟩=(2,0,2,0):=rfl;rw [i];simp only [qJ,j];rw [Bool.eq_iff_iff];generalize l:f.getD k.toNat 0=p;simp [zl,yH,zX,opK,yr,qi,qI,l]
 by_cases m:qG e a 2=true<;>by_cases o:qG e b 0=true<;>simp [m,o]<;>omega
theorem zoN (n:Nat)(f e:List Int)(g h a b k d:Int)(c:Nat):zl n f e ⟨12,a,b,k,c,d⟩ (qq ⟨12,a,b,k,c,d⟩ g h)=(yr n f ⟨12,a,b,k,c,d⟩&&qJ g h e ⟨12,a,b,k,c,d⟩):=by
 have i:qq ⟨12,a,b,k,c,d⟩ g h=(⟨2,0,2,64,false,false,0⟩,true):=rfl;have j:qE ⟨12,a,b,k,c,d⟩=(2,0,2,0):=rfl;rw [i];simp only [qJ,j];rw [Bool.eq_iff_iff];generalize l:f.getD k.toNat 0=p;simp [zl,yH,zX,opK,yr,qi,qI,l]
 by_cases m:qG e a 2=true<;>by_cases o:qG e b 0=true<;>simp [m,o]<;>omega
theorem zoO (n:Nat)(f e:List Int)(g h a b k d:Int)(c:Nat):zl n f e ⟨13,a,b,k,c,d⟩ (qq ⟨13,a,b,k,c,d⟩ g h)=(yr n f ⟨13,a,b,k,c,d⟩&&qJ g h e ⟨13,a,b,k,c,d⟩):=by
 have i:qq ⟨13,a,b,k,c,d⟩ g h=(⟨2,0,2,64,false,false,0⟩,true):=rfl;have j:qE ⟨13,a,b,k,c,d⟩=(2,0,2,0):=rfl;rw [i];simp only [qJ,j];rw [Bool.eq_iff_iff];generalize l:f.getD k.toNat 0=p;simp [zl,yH,zX,opK,yr,qi,qI,l]
 by_cases m:qG e a 2=true<;>by_cases o:qG e b 0=true<;>simp [m,o]<;>omega
theorem zoP (n:Nat)(f e:List Int)(g h a b k d:Int)(c:Nat):zl n f e ⟨14,a,b,k,c,d⟩ (qq ⟨14,a,b,k,c,d⟩ g h)=(yr n f ⟨14,a,b,k,c,d⟩&&qJ g h e ⟨14,a,b,k,c,d⟩):=by
 have i:qq ⟨14,a,b,k,c,d⟩ g h=(⟨2,0,2,0,false,false,0⟩,true):=rfl;have j:qE ⟨14,a,b,k,c,d⟩=(2,0,2,0):=rfl;rw [i];simp only [qJ,j];rw [Bool.eq_iff_iff];generalize l:f.getD k.toNat 0=p;simp [zl,yH,zX,opK,yr,qi,qI,l]
 by_cases m:qG e a 2=true<;>by_cases o:qG e b 0=true<;>simp [m,o]<;>omega
theorem zoQ (n:Nat)(f e:List Int)(g h a b k d:Int)(c:Nat):zl n f e ⟨15,a,b,k,c,d⟩ (qq ⟨15,a,b,k,c,d⟩ g h)=(yr n f ⟨15,a,b,k,c,d⟩&&qJ g h e ⟨15,a,b,k,c,d⟩):=by
 have i:qq ⟨15,a,b,k,c,d⟩ g h=(⟨1,0,2,0,false,true,0⟩,true):=rfl;have j:qE ⟨15,a,b,k,c,d⟩=(1,0,2,0):=rfl;rw [i];simp only [qJ,j];rw [Bool.eq_iff_iff];generalize l:f.getD k.toNat 0=p;simp [zl,yH,zX,opK,yr,qi,qI,l]
 by_cases m:qG e a 1=true<;>by_cases o:qG e b 0=true<;>simp [m,o]<;>omega
theorem zoR (n:Nat)(f e:List Int)(g h a b k d:Int)(c:Nat):zl n f e ⟨16,a,b,k,c,d⟩ (qq ⟨16,a,b,k,c,d⟩ g h)=(yr n f ⟨16,a,b,k,c,d⟩&&qJ g h e ⟨16,a,b,k,c,d⟩):=by
 have i:qq ⟨16,a,b,k,c,d⟩ g h=(⟨2,0,1,64,false,true,0⟩,true):=rfl;have j:qE ⟨16,a,b,k,c,d⟩=(2,0,1,0):=rfl;rw [i];simp only [qJ,j];rw [Bool.eq_iff_iff];generalize l:f.getD k.toNat 0=p;simp [zl,yH,zX,opK,yr,qi,qI,l]
 by_cases m:qG e a 2=true<;>by_cases o:qG e b 0=true<;>simp [m,o]<;>omega
theorem zoS (n:Nat)(f e:List Int)(g h a b k d:Int)(c:Nat):zl n f e ⟨18,a,b,k,c,d⟩ (qq ⟨18,a,b,k,c,d⟩ g h)=(yr n f ⟨18,a,b,k,c,d⟩&&qJ g h e ⟨18,a,b,k,c,d⟩):=by
 have i:qq ⟨18,a,b,k,c,d⟩ g h=(⟨1,0,0,0,false,false,1⟩,true):=rfl;have j:qE ⟨18,a,b,k,c,d⟩=(1,0,0,1):=rfl;rw [i];simp only [qJ,j];rw [Bool.eq_iff_iff];generalize l:f.getD k.toNat 0=p;simp [zl,yH,zX,opK,yr,qi,qI,l]
 by_cases m:qG e a 1=true<;>by_cases o:qG e b 0=true<;>simp [m,o]<;>omega
theorem zoT (n:Nat)(f e:List Int)(g h a b k d:Int)(c:Nat):zl n f e ⟨19,a,b,k,c,d⟩ (qq ⟨19,a,b,k,c,d⟩ g h)=(yr n f ⟨19,a,b,k,c,d⟩&&qJ g h e ⟨19,a,b,k,c,d⟩):=by
 have i:qq ⟨19,a,b,k,c,d⟩ g h=(⟨2,0,0,0,false,false,1⟩,true):=rfl;have j:qE ⟨19,a,b,k,c,d⟩=(2,0,0,1):=rfl;rw [i];simp only [qJ,j];rw [Bool.eq_iff_iff];generalize l:f.getD k.toNat 0=p;simp [zl,yH,zX,opK,yr,qi,qI,l]
 by_cases m:qG e a 2=true<;>by_cases o:qG e b 0=true<;>simp [m,o]<;>omega
theorem znB (n:Nat)(e f:List Int)(b c:Int)(o:MOp)(m:b≤65536)(p:c≤65536):zl n e f o (qq o b c)=(yr n e o&&qJ b c f o):=by
 obtain ⟨d,g,h,i,j,k⟩:=o
 by_cases a:d=1
 ·subst a;exact zoU n e f b c g h i k j m p
 by_cases a:d=17
 ·subst a;exact zl3 n e f b c g h i k j
 by_cases l:(qu d).2=true
 ·rcases zS _ l with a | a | a | a | a | a | a | a | a | a | a | a | a | a | a | a | a<;>subst a
  ·exact zpF ..
  ·exact zpG ..
  ·exact zpH ..
  ·exact zpI ..
  ·exact zpJ ..
  ·exact zpK ..
  ·exact zpL ..
  ·exact zpM ..
  ·exact zoL ..
  ·exact zoM ..
  ·exact zoN ..
  ·exact zoO ..
  ·exact zoP ..
  ·exact zoQ ..
  ·exact zoR ..
  ·exact zoS ..
  ·exact zoT ..
 ·have q:qq ⟨d,g,h,i,j,k⟩ b c=(Yz,false):=by
   simp only [qq];rw [if_neg (by assumption),if_neg (by assumption)];exact Zu _ (by simpa using l)
  have r:qE ⟨d,g,h,i,j,k⟩=(0,0,0,-1):=by
   simp only [qE,rW];rw [if_neg (by assumption),if_neg (by assumption),if_neg l]
  rw [q];simp [zl,yH,qJ,r]
theorem zaK {c d:Int}(b:(qq o c d).2=true):qE o=((qq o c d).1.a,(qq o c d).1.b,(qq o c d).1.makes,(qq o c d).1.rounds):=by
 obtain ⟨e,h,i,f,a,g⟩:=o
 by_cases k:e=1
 ·subst k
  have j:qq ⟨1,h,i,f,a,g⟩ c d=zI g c d:=rfl;rw [j] at b ⊢;have p:qE ⟨1,h,i,f,a,g⟩=(0,0,1,1):=rfl;rw [p];unfold zI at b ⊢
  split at b
  ·rw [if_pos (by assumption)]
  ·rw [if_neg (by assumption)]
   split at b
   ·rw [if_pos (by assumption)]
   ·simp at b
 by_cases l:e=17
 ·subst l
  have j:qq ⟨17,h,i,f,a,g⟩ c d=ye f a:=rfl;rw [j] at b ⊢;unfold ye at b ⊢
  split at b
  ·rename_i m
   rw [if_pos m];have n:∀a,yX a=1+(a:Int)%2:=by intro a;unfold yX;split<;>omega
   have q:yX (a / 2)=1+(a:Int) / 2%2:=by rw [n];omega
   simp [qE,m,zg1,n,q]
  ·simp at b
 ·have j:qq ⟨e,h,i,f,a,g⟩ c d=qu e:=by simp [qq,k,l]
  rw [j] at b ⊢;have:qE ⟨e,h,i,f,a,g⟩=rW e:=by simp [qE,l]
  rw [this,rW,if_neg k,if_pos b]
def zdk (n:Nat):List MOp→List Int→Bool
 |[],_=>true
 |a::c,b=>if yr n b a then zdk n c (if qI a then b.set a.k.toNat 1 else b) else false
theorem zpC {n:Nat}{a c:List Int}{r:Rule×Bool}(b:zl n a c o r=true):yH n a o r=true:=by
 simp only [zl,Bool.and_eq_true] at b;exact b.1.1
theorem zdu (a b:Int)(n:Nat)(k:a≤65536)(l:b≤65536):∀(f:List MOp) (c d:List Int),(zZ a b n f c d).isSome=(zdk n f c&&yb a b f d)
 |[],c,d=>rfl
 |h::f,c,d=>by
  rw [zZ,zdk,yb];have i:=znB n c d a b h k l
  by_cases g:zl n c d h (qq h a b)=true
  ·rw [if_pos g]
   rw [g] at i;have e:=i.symm;rw [Bool.and_eq_true] at e;rw [if_pos e.1,if_pos e.2,zdu a b n k l f];have j:=zpC g;have o:(qq h a b).2=true:=by simp only [yH,Bool.and_eq_true] at j;exact j.1
   rw [j,zaK o];simp [YT]
  ·rw [if_neg g]
   rw [Bool.eq_false_iff.2 g] at i;have e:=i.symm;rw [Bool.and_eq_false_iff] at e;rcases e with m | m<;>simp [m]
def zgc (n:Nat):List Int→List Int→Bool
 |[],_=>true
 |a::c,b=>if decide (0≤a)&&decide (a<n)&&(b.getD a.toNat 0==0) then zgc n c (b.set a.toNat 1) else false
def zcn (l:List MOp):List Int:=(l.filter qI).map (·.k)
theorem zgb (n:Nat):∀(a:List MOp) (d:List Int),zdk n a d=zgc n (zcn a) d
 |[],_=>rfl
 |b::a,d=>by
  rw [zdk,zgb n a]
  by_cases c:qI b=true
  ·have:zcn (b::a)=b.k::zcn a:=by simp [zcn,c]
   rw [this,zgc];simp [yr,c]
  ·have:zcn (b::a)=zcn a:=by simp [zcn,c]
   rw [this];simp [yr,c]
theorem zgd (n:Nat):∀(f d:List Int),d.length=n→(zgc n f d=true↔(∀b∈f,0≤b∧b<n)∧f.Nodup∧∀b∈f,d.getD b.toNat 0=0)
 |[],d,_=>by simp [zgc]
 |b::f,d,m=>by
  rw [zgc]
  by_cases i:(decide (0≤b)&&decide (b<n)&&(d.getD b.toNat 0==0))=true
  ·rw [if_pos i,zgd n f _ (by simpa using m)]
   simp only [Bool.and_eq_true,decide_eq_true_eq,beq_iff_eq] at i;obtain ⟨⟨k,o⟩,p⟩:=i;have j:∀a:Int,0≤a→((d.set b.toNat 1).getD a.toNat 0=0↔a≠b∧d.getD a.toNat 0=0):=by
    intro a c
    by_cases l:a=b
    ·subst l
     simp [List.getD,List.getElem?_set,show a.toNat<d.length by omega]
    ·have:b.toNat≠a.toNat:=by omega
     simp [List.getD,List.getElem?_set,this,l]
   constructor
   ·rintro ⟨e,g,h⟩
    refine ⟨?_,?_,?_⟩
    ·intro a c
     rcases List.mem_cons.1 c with rfl | c
     ·exact ⟨k,o⟩
     ·exact e a c
    ·rw [List.nodup_cons]
     refine ⟨fun q=> ?_,g⟩;exact ((j b k).1 (h b q)).1 rfl
    ·intro a c
     rcases List.mem_cons.1 c with rfl | c
     ·exact p
     ·exact ((j a (e a c).1).1 (h a c)).2
   ·rintro ⟨e,g,h⟩
    rw [List.nodup_cons] at g;refine ⟨fun a c=>e a (by simp [c]),g.2,fun a c=>(j a (e a (by simp [c])).1).2 ⟨fun r=>g.1 (r▸c),h a (by simp [c])⟩⟩
  ·rw [if_neg i]
   constructor
   ·intro s;cases s
   ·rintro ⟨e,g,h⟩
    exfalso;apply i
    have:=e b (by simp);have:=h b (by simp);simp only [Bool.and_eq_true,decide_eq_true_eq,beq_iff_eq];omega
def Qa (f:Nat→Nat):Nat→Nat
 |0=>0
 |a+1=>Qa f a+f a
theorem zbx (f g:Nat→Nat):∀a,Qa (fun b=>f b+g b) a=Qa f a+Qa g a
 |0=>rfl
 |a+1=>by simp only [Qa,zbx f g a];omega
theorem Qs {g:Nat→Nat}:∀a,(∀b,b<a→f b=g b)→Qa f a=Qa g a
 |0,_=>rfl
 |a+1,c=>by simp only [Qa];rw [Qs a fun b d=>c b (by omega),c a (by omega)]
theorem zf8:∀a,Qa (fun _=>1) a=a
 |0=>rfl
 |a+1=>by simp only [Qa,zf8 a]
theorem zcc:∀a,Qa (fun _=>0) a=0
 |0=>rfl
 |a+1=>by simp only [Qa,zcc a]
theorem zdQ (x:Int):∀a,Qa (fun b=>if x=(b:Int) then 1 else 0) a=if 0≤x∧x<a then 1 else 0
 |0=>by simp [Qa];try omega
 |a+1=>by
  simp only [Qa,zdQ x a]
  repeat' split
  all_goals omega
theorem ziB :∀a,(∀b,b<a→f b≤1)→Qa f a≤a
 |0,_=>Nat.le_refl _
 |a+1,c=>by simp only [Qa];have:=ziB a fun b d=>c b (by omega);have:=c a (by omega);omega
theorem ze7 :∀b,(∀a,a<b→f a≤1)→Qa f b=b→∀a,a<b→f a=1
 |0,_,_,a,c=>by omega
 |b+1,d,e,a,c=>by
  simp only [Qa] at e;have h:=ziB b fun a c=>d a (by omega)
  have i:=d b (by omega)
  by_cases g:a=b
  ·subst g;omega
  ·exact ze7 b (fun a c=>d a (by omega)) (by omega) a (by omega)
theorem zcY (n:Nat):∀c:List Int,Qa (fun a=>c.count (a:Int)) n=(c.filter fun (b:Int)=>decide (0≤b∧b<(n:Int))).length
 |[]=>by simp [zcc]
 |b::c=>by
  have e:∀a:Nat,(b::c).count (a:Int)=c.count (a:Int)+if b=(a:Int) then 1 else 0:=by
   intro a;rw [List.count_cons];simp
  rw [Qs n (fun a _=>e a),zbx,zcY n c,zdQ b n,List.filter_cons]
  by_cases d:0≤b∧b<n
  ·simp [d]
  ·simp [d]
theorem zdA:∀{b:List Int},b.Nodup→∀a,b.count a≤1
 |[],_,a=>by simp
 |e::b,c,a=>by
  rw [List.nodup_cons] at c;rw [List.count_cons];have:=zdA c.2 a
  by_cases d:e=a
  ·subst d
   have:=List.count_eq_zero.2 c.1;simp [this]
  ·simp [d];exact this
theorem zdt:∀{a:List Int},(∀b,a.count b≤1)→a.Nodup
 |[],_=>List.nodup_nil
 |d::a,c=>by
  rw [List.nodup_cons]
  constructor
  ·intro e
   have:=c d;rw [List.count_cons] at this;have f:=List.count_pos_iff.2 e;simp at this;omega
  ·refine zdt fun b=> ?_
   have:=c b;rw [List.count_cons] at this;omega
theorem zoH (l:List Int):((∀a∈l,0≤a∧a<l.length)∧l.Nodup)↔∀b,b<l.length→l.count (b:Int)=1:=by
 have d:=zcY l.length l
 constructor
 ·rintro ⟨h,i⟩ b j
  refine ze7 (f:=fun b=>l.count (b:Int)) l.length (fun b _=>zdA i _) ?_ b j;rw [d,List.filter_eq_self.2 (fun a c=>by simpa using h a c)]
 ·intro e
  rw [Qs l.length e,zf8] at d;have g:∀a∈l,0≤a∧a<l.length:=by
   intro a c;have:=List.length_filter_eq_length_iff.1 d.symm a c;simpa using this
  refine ⟨g,zdt fun a=> ?_⟩
  by_cases c:a∈l
  ·obtain ⟨k,m⟩:=g a c
   have:=e a.toNat (by omega);rw [show ((a.toNat:Nat):Int)=a by omega] at this;omega
  ·rw [List.count_eq_zero.2 c];omega
theorem zeg (l:List MOp)(k:Int):zdX l k=(zcn l).count k:=by
 unfold zdX zcn;rw [List.count_eq_length_filter,List.filter_map,List.length_map,List.filter_filter]
 congr 2
 funext a
 simp only [Function.comp];rw [Bool.and_comm]
theorem zmQ (l:List MOp):(zcn l).length=Ql l:=by simp [zcn,Ql]
theorem znK (l:List MOp):zdk (Ql l) l (List.replicate (Ql l) 0)=YN l:=by
 rw [zgb,Bool.eq_iff_iff,zgd _ _ _ (by simp)];have f:∀e∈zcn l,(List.replicate (Ql l) (0:Int)).getD e.toNat 0=0:=by
  intro e _;simp only [List.getD,List.getElem?_replicate]
  split<;>rfl
 have b:=zoH (zcn l);rw [zmQ] at b
 constructor
 ·rintro ⟨c,d,_⟩
  exact zf4 fun g h=>by rw [zeg];exact b.1 ⟨c,d⟩ g h
 ·intro i
  have j:∀a,a<Ql l→(zcn l).count (a:Int)=1:=by
   intro a k;have:=List.all_eq_true.1 i a (List.mem_range.2 k);rw [←zeg];simpa using this
  obtain ⟨c,d⟩:=b.2 j;exact ⟨c,d,f⟩
theorem zeW (ops:List MOp)(a b:Int):Qr ops a b=qK ops a b:=by
 unfold Qr qK zaA
 by_cases j:a≤65536
 ·by_cases k:b≤65536
  ·rw [zdu a b _ j k,znK]
   rw [Bool.eq_iff_iff];simp only [Bool.and_eq_true,decide_eq_true_eq]
   constructor
   ·rintro ⟨⟨⟨⟨⟨⟨c,d⟩,e⟩,f⟩,g⟩,h⟩,i⟩;exact ⟨⟨⟨⟨⟨d,e⟩,f⟩,g⟩,c⟩,h,i⟩
   ·rintro ⟨⟨⟨⟨⟨d,e⟩,f⟩,g⟩,c⟩,h,i⟩;exact ⟨⟨⟨⟨⟨⟨c,d⟩,e⟩,f⟩,g⟩,h⟩,i⟩
  ·simp [k]
 ·simp [j]
end Go.Proofs.YtklofgfkaaoipaaGreatDoor
namespace Go.Proofs.YtklofgfkaaoipaaGreatDoor
open Go.RowKit Go.Proofs.Tryz
variable {w W h:World}{y:Value}{m:List Int}
theorem zkw (o:MOp)(c d:Int)(b:(qq o c d).1.b≠0):(qq o c d).1.a≠0:=by
 unfold qq at b ⊢
 split at b
 ·rw [if_pos (by assumption)]
  exfalso;apply b;unfold zI;split
  ·rfl
  ·split<;>rfl
 ·rw [if_neg (by assumption)]
  split at b
  ·rw [if_pos (by assumption)]
   unfold ye at b ⊢
   split
   ·simp only;unfold yX;split<;>decide
   ·exfalso;rw [if_neg (by assumption)] at b;exact b rfl
  ·rw [if_neg (by assumption)]
   by_cases e:(qu o.kind).2=true
   ·rcases zS _ e with a | a | a | a | a | a | a | a | a | a | a | a | a | a | a | a | a<;>rw [a] at b ⊢<;>first | decide | (exfalso;revert b;decide)
   ·rw [Zu _ (by simpa using e)] at b;exact absurd rfl b
structure RdSt (w:World)(y:Value)(m:List Int)(W:World):Prop where
 own:W.ownsRow w.heap.size 3 1 y m.length (ints m)
 below:Below w.heap.size w W
theorem RdSt.later (a:RdSt w y m W)(b:Below W.heap.size W h):RdSt w y m h:=⟨Below.owns a.own b,a.below.trans (b.mono a.below.size)⟩
theorem RdSt.add {x:Value}{z:Int}(a:RdSt w x m W)(b:W.grownBy h x.ownBlock)(c:h.ownsRow w.heap.size 3 1 y (m.length+1) (ints m++[.int .i64 z])):RdSt w y (m++[z]) h:=
 ⟨by rw [List.length_append];simpa [ints] using c,a.below.grown b a.below.size fun d e=>(a.own.lt d e).1⟩
theorem Q3 {base g n c:Nat}(a:W.ownsRow base 3 1 (.slice (some ⟨g,0,none⟩) n c) n (ints m))(j:Nat)(b:j<n):W.cell? ⟨g,j,none⟩=some (.int .i64 (m.getD j 0)):=by
 have d:m.length=n:=by have:=a.1;simpa [ints] using this
 have:=a.cellAt j (by omega);simp only [ints,List.getElem?_map,List.getElem?_eq_getElem (show j<m.length by omega),Option.map_some] at this;simpa [List.getD,show j<m.length by omega] using this
theorem zbJ (v:Value)(ops:List MOp)(w:World)(p:qK ops 65536 65536=true)(ad:Arr w.heap.size w 6 v ops.length (qz ops)):
  Calls prog 25 #[v] w (qY (qw ops) w):=by
 have aW:ops.length≤16384:=by simp only [qK,Bool.and_eq_true,decide_eq_true_eq] at p;exact p.1.2
 have ae:qw ops=yM ops []:=by unfold qw;rw [if_pos p]
 rw [ae];obtain ⟨K,L⟩:∃K,yM ops []=K:=⟨_,rfl⟩;rw [L];obtain ⟨aX,aY,rfl,aZ,ay,M,af⟩:=ad.open;have az:=Z af;have aA:=Z L;have aB:=Z (fun N O=>zaq p N O);have aC:=Z (fun N O=>zQ p N O);clear ad M af ay ae L p;go_enter func25,ntmps25;go_wp2_with fail;go_loopg [3,4] ops.length (fun aD ag aE wr=>∃(a:Nat) (b:List Int),a≤ops.length∧aD=ops.length-a∧aE= .int .i64 a∧b.length=a∧Hid (zaM (2 * a:Nat) b)∧Hid (RdSt w ag b wr)∧Hid (yM (ops.drop a) b=K))
 case atStart=>exact ⟨0, [],Nat.zero_le _,rfl,rfl,rfl,Z (by intro ag M;cases M),Z ⟨World.ownsRow_nil _ _ _ _,Below.refl _ _⟩,aA⟩
 case round=>
  obtain ⟨a,b,a0,a1,rfl,ah,q,z,ai⟩:=hrel;have d:=Z ah;clear ah
  by_cases A:a<ops.length
  ·obtain ⟨a2,a3,rfl,aF,aj⟩:=az.out (by omega)
   have B:=fun (aG:World) (i:Below w.heap.size w aG)=>y8 aj i aF rfl a A
   have j:=ai.out;rw [List.drop_eq_getElem_cons A,yM] at j;have r:=aB.out a A;have P:=aC.out a A;generalize ops[a]=C at B j r P;have D:=zaK P;have E:=zkw C 65536 65536;have ak:=Zp C 65536 65536;generalize (qq C 65536 65536).1=aH at j r D E ak;obtain ⟨u,x,Q,R,S,T,n⟩:=aH;simp only at j r D E ak;obtain ⟨F,al,U,G,H,I⟩:=C;simp only at B r;have am:=Z B;have aI:=Z D;have J:=Z j;have an:=Z r;have aJ:=Z E;clear B D j r E P aj;obtain ⟨ao,ap,aq,ar,au,av⟩:=am.out wr z.below;have a4:(0:Int)≤(a:Int):=by omega
   have a5:(a:Int)<(ops.length:Int):=by omega
   go_upto_region 6 with (go_at_call 52;go_must (refine (zaF ⟨F,al,U,G,H,I⟩ _).mono ?_;rw [aI.out];unfold rWv;rintro a6 aK ⟨rfl,V⟩;have c:=Z (z.later V);clear V ao ap aq ar au av;obtain ⟨ao,ap,aq,ar,au,av⟩:=am.out aK c.below))
   by_cases l:u=0
   ·have i:x=0:=Classical.byContradiction fun aL=>aJ.out aL l
    subst l;subst i;have s:=Z (show Qf b ⟨F,al,U,G,H,I⟩ ⟨0,0,Q,R,S,T,n⟩=0 by simp [Qf]);go_wp2_with (at_builtin;refine yS rfl _ _ 24 rfl 3 _ 1 8 underlying24 qD rfl (by decide) #[_] _ _ _ _ c.own rfl rfl rfl (by intro W f;simp at f;subst f;rfl) c.below.size (by have:=d.out;omega) (by have:=d.out;unfold maxLen;omega) ?_;intro X Y g h _;go_must (have m:=Z (c.add h g);clear g h));go_roundg (ops.length-(a+1))
    case measure=>omega
    case rel=>exact ⟨a+1,b++[0+n],by omega,rfl,by go_num,by rw [List.length_append,d.out];rfl,Z (q.snoc (by omega) (by omega) (by omega)),(by first | exact m | (simpa using m)),Z (by have:=J.out;rw [s.out] at this;exact this)⟩
   ·have a7:(u==0)=false:=by simpa using l
    have a8:(u != 0)=true:=by simp [l]
    obtain ⟨aM,a9⟩:=an.1 l;obtain ⟨o,rfl⟩:=Int.eq_ofNat_of_zero_le aM;have y:=c.own;rw [d.out] at y;obtain ⟨ba,bb,rfl,bc,bd⟩:=y.form (by omega);have aN:=q.getD (by omega) o;have aO:=Q3 y o (by omega);obtain ⟨e,aa⟩:∃e,b.getD o 0=e:=⟨_,rfl⟩;rw [aa] at aO aN;have aw:=Z aa;have aP:=Z y;clear aa y;have be:(0:Int)≤(o:Int):=by omega
    have bf:(o:Int)<(a:Int):=by omega
    by_cases i:x=0
    ·subst i
     have s:=Z (show Qf b ⟨F,o,U,G,H,I⟩ ⟨u,0,Q,R,S,T,n⟩=e by simp only [Qf,if_true,if_neg l];exact aw);clear l;go_wp2_with (at_builtin;refine yS rfl _ _ 24 rfl 3 _ 1 8 underlying24 qD rfl (by decide) #[_] _ _ _ _ c.own rfl rfl rfl (by intro W f;simp at f;subst f;rfl) c.below.size (by have:=d.out;omega) (by have:=d.out;unfold maxLen;omega) ?_;intro X Y g h _;go_must (have m:=Z (c.add h g);clear g h));go_roundg (ops.length-(a+1))
     case measure=>omega
     case rel=>exact ⟨a+1,b++[e+n],by omega,rfl,by go_num,by rw [List.length_append,d.out];rfl,Z (q.snoc (by omega) (by omega) (by omega)),m,Z (by have:=J.out;rw [s.out] at this;exact this)⟩
    ·have bg:(x==0)=false:=by simpa using i
     have V:(x != 0)=true:=by simp [i]
     obtain ⟨aQ,bh⟩:=an.2 i;obtain ⟨t,rfl⟩:=Int.eq_ofNat_of_zero_le aQ;have aR:=q.getD (by omega) t;have aS:=Q3 aP t (by omega);obtain ⟨k,ab⟩:∃k,b.getD t 0=k:=⟨_,rfl⟩;rw [ab] at aS aR;have aT:=Z ab;clear ab;have bi:(0:Int)≤(t:Int):=by omega
     have bj:(t:Int)<(a:Int):=by omega
     have s:=Z (show Qf b ⟨F,o,t,G,H,I⟩ ⟨u,x,Q,R,S,T,n⟩=max e k by
      simp only [Qf,if_neg l,if_neg i];rw [←aw.out,←aT.out];rfl)
     clear l i
     by_cases ax:e<k
     ·have aU:decide (e<k)=true:=by simpa using ax
      have ac:=Z (show max e k=k by omega);go_wp2_with (at_builtin;refine yS rfl _ _ 24 rfl 3 _ 1 8 underlying24 qD rfl (by decide) #[_] _ _ _ _ c.own rfl rfl rfl (by intro W f;simp at f;subst f;rfl) c.below.size (by have:=d.out;omega) (by have:=d.out;unfold maxLen;omega) ?_;intro X Y g h _;go_must (have m:=Z (c.add h g);clear g h));go_roundg (ops.length-(a+1))
      case measure=>omega
      case rel=>exact ⟨a+1,b++[k+n],by omega,rfl,by go_num,by rw [List.length_append,d.out];rfl,Z (q.snoc (by omega) (by omega) (by omega)),m,Z (by have:=J.out;rw [s.out,ac.out] at this;exact this)⟩
     ·have aU:decide (e<k)=false:=by simpa using ax
      have ac:=Z (show max e k=e by omega);go_wp2_with (at_builtin;refine yS rfl _ _ 24 rfl 3 _ 1 8 underlying24 qD rfl (by decide) #[_] _ _ _ _ c.own rfl rfl rfl (by intro W f;simp at f;subst f;rfl) c.below.size (by have:=d.out;omega) (by have:=d.out;unfold maxLen;omega) ?_;intro X Y g h _;go_must (have m:=Z (c.add h g);clear g h));go_roundg (ops.length-(a+1))
      case measure=>omega
      case rel=>exact ⟨a+1,b++[e+n],by omega,rfl,by go_num,by rw [List.length_append,d.out];rfl,Z (q.snoc (by omega) (by omega) (by omega)),m,Z (by have:=J.out;rw [s.out,ac.out] at this;exact this)⟩
  ·obtain rfl:a=ops.length:=by omega
   have j:=ai.out;rw [List.drop_length,yM] at j;have aV:=Z j;clear j;go_wp2_with fail;go_ret;exact ⟨_,rfl,by rw [←aV.out];exact z.own,z.below⟩
end Go.Proofs.YtklofgfkaaoipaaGreatDoor
