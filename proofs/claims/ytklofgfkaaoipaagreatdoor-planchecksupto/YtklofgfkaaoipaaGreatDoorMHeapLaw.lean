/-
  PLAIN LAWS of the free slots' heap: what is pushed and popped, and that the root is least.
-/
import Derived.Test.YtklofgfkaaoipaaGreatDoorMRepeat
import Derived.Test.YtklofgfkaaoipaaGreatDoorMRefLast
import Derived.Test.YtklofgfkaaoipaaGreatDoorMLawOwn
import Derived.OpenShut
import Derived.Deep.Slices
set_option maxHeartbeats 16000000
set_option maxRecDepth 100000
set_option linter.unusedSimpArgs false
set_option linter.unusedVariables false
namespace Go.Proofs.YtklofgfkaaoipaaGreatDoor
open Go.Proofs.Tryz
variable {l:List Int}{i j k:Nat}{ops:List MOp}{x:Int}
theorem zao (c:i<l.length)(d:j<l.length)(k:Nat):(Qz l i j).getD k 0=if k=j then l.getD i 0 else if k=i then l.getD j 0 else l.getD k 0:=by
 simp only [Qz,List.getD,List.getElem?_set,List.length_set]
 by_cases a:k=j
 ·subst a;simp [d]
 ·rw [if_neg (Ne.symm a),if_neg a]
  by_cases b:k=i
  ·subst b;simp [c]
  ·rw [if_neg (Ne.symm b),if_neg b]
theorem zbS:∀(b:List Int) (c:Nat) (d a:Int),c<b.length→(b.set c d).count a+(if b.getD c 0=a then 1 else 0)=b.count a+(if d=a then 1 else 0)
 |[],c,d,a,e=>by simp at e
 |f::b,0,d,a,_=>by
  simp only [List.set_cons_zero,List.count_cons,List.getD_cons_zero,beq_iff_eq];omega
 |f::b,c+1,d,a,e=>by
  have:=zbS b c d a (by simpa using e);simp only [List.set_cons_succ,List.count_cons,List.getD_cons_succ,beq_iff_eq];omega
theorem zcd (a:i<l.length)(b:j<l.length)(x:Int):(Qz l i j).count x=l.count x:=by
 have f:=zbS l i (l.getD j 0) x a;have c:=zbS (l.set i (l.getD j 0)) j (l.getD i 0) x (by simpa using b);have d:(l.set i (l.getD j 0)).getD j 0=l.getD j 0:=by
  simp only [List.getD,List.getElem?_set]
  split
  ·rename_i e;subst e;simp [a]
  ·rfl
 rw [d] at c;unfold Qz;omega
def zbP (l:List Int)(n:Nat):Prop:=∀a,0<a→a<n→l.getD ((a-1) / 2) 0≤l.getD a 0
theorem zk1 {n:Nat}(a:zbP l n)(k:Nat)(b:k<n):l.getD 0 0≤l.getD k 0:=by
 induction k using Nat.strongRecOn with
 |_ k ih=>
  rcases Nat.eq_zero_or_pos k with rfl | c
  ·exact Int.le_refl _
  ·exact Int.le_trans (ih ((k-1) / 2) (by omega) (by omega)) (a k c b)
theorem zpO (l:List Int)(j:Nat):(fUp l j).length=l.length:=by
 induction j using Nat.strongRecOn generalizing l with
 |_ j ih=>
  rw [fUp]
  split
  ·rfl
  ·split
   ·rw [ih _ (by omega),qW]
   ·rfl
theorem znO (l:List Int)(j:Nat)(a:j<l.length)(x:Int):(fUp l j).count x=l.count x:=by
 induction j using Nat.strongRecOn generalizing l with
 |_ j ih=>
  rw [fUp]
  split
  ·rfl
  ·split
   ·rw [ih _ (by omega) _ (by rw [qW];omega),zcd (by omega) a]
   ·rfl
theorem zoW (n:Nat)(l:List Int)(j:Nat)(r:j<n)(k:n≤l.length)(e:∀a,0<a→a<n→a≠j→l.getD ((a-1) / 2) 0≤l.getD a 0)
  (m:0<j→∀a,0<a→a<n→(a-1) / 2=j→l.getD ((j-1) / 2) 0≤l.getD a 0):zbP (fUp l j) n:=by
 induction j using Nat.strongRecOn generalizing l with
 |_ j ih=>
  rw [fUp]
  split
  ·rename_i i;subst i
   exact fun a c d=>e a c d (by omega)
  ·rename_i i
   split
   ·rename_i s
    have h:=fun o=>zao (l:=l) (i:=(j-1) / 2) (j:=j) (by omega) (by omega) o
    refine ih _ (by omega) _ (by omega) (by rw [qW];exact k) ?_ ?_
    ·intro a c d p
     rw [h,h]
     by_cases b:a=j
     ·subst b
      rw [if_pos rfl,if_neg (by omega),if_pos rfl];omega
     ·rw [if_neg b,if_neg p]
      by_cases f:(a-1) / 2=j
      ·rw [if_pos f];exact m (by omega) a c d f
      ·rw [if_neg f]
       by_cases g:(a-1) / 2=(j-1) / 2
       ·rw [if_pos g]
        have:=e a c d b;rw [g] at this;omega
       ·rw [if_neg g];exact e a c d b
    ·intro g a c d f
     rw [h,h,if_neg (by omega),if_neg (by omega)];have q:=e ((j-1) / 2) g (by omega) (by omega)
     by_cases b:a=j
     ·rw [if_pos b];exact q
     ·rw [if_neg b,if_neg (by omega)]
      have:=e a c d b;rw [f] at this;omega
   ·rename_i t
    intro a c d
    by_cases b:a=j
    ·subst b;omega
    ·exact e a c d b
theorem zeU (l:List Int)(v x:Int):(ZD l v).count x=l.count x+if v=x then 1 else 0:=by
 unfold ZD;rw [znO _ _ (by simp)];simp [List.count_append,List.count_cons]
theorem zf1 (v:Int)(e:zbP l l.length):zbP (ZD l v) (ZD l v).length:=by
 have f:(ZD l v).length=l.length+1:=by unfold ZD;rw [zpO];simp
 rw [f];have b:∀a,a<l.length→(l++[v]).getD a 0=l.getD a 0:=fun a g=>by simp only [List.getD];rw [List.getElem?_append_left g]
 refine zoW _ _ _ (by omega) (by simp) ?_ ?_
 ·intro c d h i
  rw [b _ (by omega),b _ (by omega)];exact e c d (by omega)
 ·intro _ c d h j;omega
theorem zmq (l:List Int)(i n:Nat):zW l i n=2 * i+1∨zW l i n=2 * i+2:=by unfold zW;split<;>simp
theorem zed (l:List Int)(i n:Nat)(a:2 * i+1<n):zW l i n<n:=by unfold zW;split<;>omega
theorem zmp (l:List Int)(i n k:Nat)(d:0<k)(c:k<n)(e:(k-1) / 2=i):l.getD (zW l i n) 0≤l.getD k 0:=by
 have b:k=2 * i+1∨k=2 * i+2:=by omega
 unfold zW
 split
 ·rename_i a
  rcases b with rfl | rfl<;>omega
 ·rename_i a
  rcases b with rfl | rfl
  ·exact Int.le_refl _
  ·rw [not_and] at a;have:=a c;omega
theorem zhw (l:List Int)(i n:Nat):(zL l i n).length=l.length:=by
 obtain ⟨a,b⟩:∃a,n-i=a:=⟨_,rfl⟩
 induction a using Nat.strongRecOn generalizing l i with
 |_ a ih=>
  rw [zL]
  split
  ·split
   ·have:=Zy l i n
    rw [ih (n-zW l i n) (by omega) _ _ rfl,qW]
   ·rfl
  ·rfl
theorem zi2 (l:List Int)(i n:Nat)(b:n≤l.length)(x:Int):(zL l i n).count x=l.count x:=by
 obtain ⟨a,d⟩:∃a,n-i=a:=⟨_,rfl⟩
 induction a using Nat.strongRecOn generalizing l i with
 |_ a ih=>
  rw [zL]
  split
  ·rename_i c
   split
   ·have e:=Zy l i n
    have f:=zed l i n c;rw [ih (n-zW l i n) (by omega) _ _ (by rw [qW];exact b) rfl,zcd (by omega) (by omega)]
   ·rfl
  ·rfl
theorem zkT (l:List Int)(i n:Nat)(b:n≤l.length)(k:Nat)(d:n≤k):(zL l i n).getD k 0=l.getD k 0:=by
 obtain ⟨a,e⟩:∃a,n-i=a:=⟨_,rfl⟩
 induction a using Nat.strongRecOn generalizing l i with
 |_ a ih=>
  rw [zL]
  split
  ·rename_i c
   split
   ·have f:=Zy l i n
    have g:=zed l i n c;rw [ih (n-zW l i n) (by omega) _ _ (by rw [qW];exact b) rfl,zao (by omega) (by omega),if_neg (by omega),if_neg (by omega)]
   ·rfl
  ·rfl
theorem zkS (l:List Int)(i n:Nat)(r:n≤l.length)(f:∀a,0<a→a<n→(a-1) / 2≠i→l.getD ((a-1) / 2) 0≤l.getD a 0)
  (s:0<i→∀a,0<a→a<n→(a-1) / 2=i→l.getD ((i-1) / 2) 0≤l.getD a 0):zbP (zL l i n) n:=by
 obtain ⟨g,y⟩:∃g,n-i=g:=⟨_,rfl⟩
 induction g using Nat.strongRecOn generalizing l i with
 |_ g ih=>
  rw [zL]
  split
  ·rename_i o
   have t:=Zy l i n;have p:=zed l i n o;have u:=zmq l i n;have k:=fun a v w e=>zmp l i n a v w e
   generalize zW l i n=e at t p u k ⊢
   split
   ·rename_i z
    have h:=fun a=>zao (l:=l) (i:=i) (j:=e) (by omega) (by omega) a
    refine ih (n-e) (by omega) _ _ (by rw [qW];exact r) ?_ ?_ rfl
    ·intro a c d x
     rw [h,h,if_neg x]
     by_cases q:a=e
     ·rw [if_pos q,if_pos (by omega)];omega
     ·rw [if_neg q]
      by_cases b:(a-1) / 2=i
      ·rw [if_pos b,if_neg (by omega)];exact k a c d b
      ·rw [if_neg b]
       by_cases m:a=i
       ·rw [if_pos m]
        have:=s (by omega) e (by omega) p (by omega);rw [m];exact this
       ·rw [if_neg m];exact f a c d b
    ·intro _ a c d b
     rw [h,h,if_neg (by omega),if_pos (by omega),if_neg (by omega),if_neg (by omega)];have:=f a c d (by omega);rw [b] at this;exact this
   ·rename_i A
    intro a c d
    by_cases b:(a-1) / 2=i
    ·have:=k a c d b
     rw [b];omega
    ·exact f a c d b
  ·rename_i o
   intro a c d;exact f a c d (by omega)
theorem zfa:∀(b:List Int) (c:Nat) (a:Int),b.length=c+1→(b.take c).count a+(if b.getD c 0=a then 1 else 0)=b.count a
 |[],c,a,d=>by simp at d
 |[e],0,a,_=>by simp [List.count_cons]
 |e::f::b,0,a,d=>by simp at d
 |e::b,c+1,a,d=>by
  have:=zfa b c a (by simpa using d);simp only [List.take_succ_cons,List.count_cons,List.getD_cons_succ,beq_iff_eq];omega
theorem zlG (l:List Int)(x:Int)(c:0<l.length):(zat l).count x+(if l.getD 0 0=x then 1 else 0)=l.count x:=by
 unfold zat;have b:(zL (Qz l 0 (l.length-1)) 0 (l.length-1)).length=l.length:=by rw [zhw,qW]
 have a:=zfa (zL (Qz l 0 (l.length-1)) 0 (l.length-1)) (l.length-1) x (by rw [b];omega);rw [zkT _ _ _ (by rw [qW];omega) _ (Nat.le_refl _),zao (by omega) (by omega),if_pos rfl,zi2 _ _ _ (by rw [qW];omega),zcd (by omega) (by omega)] at a;exact a
theorem znr (f:zbP l l.length)(m:0<l.length):zbP (zat l) (zat l).length:=by
 have g:(zL (Qz l 0 (l.length-1)) 0 (l.length-1)).length=l.length:=by rw [zhw,qW]
 have h:(zat l).length=l.length-1:=by unfold zat;rw [List.length_take,g];omega
 rw [h];have i:zbP (zL (Qz l 0 (l.length-1)) 0 (l.length-1)) (l.length-1):=by
  refine zkS _ _ _ (by rw [qW];omega) ?_ (fun n=>by omega);intro b c d j;rw [zao (by omega) (by omega),zao (by omega) (by omega),if_neg (by omega),if_neg j,if_neg (by omega),if_neg (by omega)];exact f b c (by omega)
 intro b c d;have e:∀a,a<l.length-1→(zat l).getD a 0=(zL (Qz l 0 (l.length-1)) 0 (l.length-1)).getD a 0:=fun a k=>by
  unfold zat;simp only [List.getD];rw [List.getElem?_take_of_lt k]
 rw [e _ (by omega),e _ d];exact i b c d
theorem zhA (k:Int):∀(e:List Int) (a:List Int) (b:Nat),((e.foldl (fun a c=>a.set c.toNat k) a).getD b 0=k∧∃c∈e,c.toNat=b)∨(e.foldl (fun a c=>a.set c.toNat k) a).getD b 0=a.getD b 0
 |[],a,b=> .inr rfl
 |c::e,a,b=>by
  rw [List.foldl_cons];rcases zhA k e (a.set c.toNat k) b with ⟨h,i,j,d⟩ | f
  ·exact .inl ⟨h,i,by simp [j],d⟩
  ·by_cases d:c.toNat=b
   ·by_cases g:b<a.length
    ·refine .inl ⟨?_,c,by simp,d⟩
     rw [f];subst d;simp [List.getD,g]
    ·refine .inr ?_
     rw [f];simp [List.getD,List.getElem?_set,g,d,List.getElem?_eq_none (Nat.le_of_not_lt g)]
   ·refine .inr ?_
    rw [f];simp [List.getD,List.getElem?_set,d]
theorem zcu (a:List Int)(k:Nat)(o:MOp)(j:Nat)(c:j<a.length):((QO a k o).getD j 0=k∧(j=k∨∃d∈yt o,d.toNat=j))∨((QO a k o).getD j 0=a.getD j 0∧j≠k):=by
 unfold QO;rcases zhA k (yt o) (a.set k k) j with ⟨e,f⟩ | g
 ·exact .inl ⟨e,.inr f⟩
 ·rw [g]
  by_cases b:k=j
  ·subst b;exact .inl ⟨by simp [List.getD,c],.inl rfl⟩
  ·exact .inr ⟨by simp [List.getD,List.getElem?_set,b],Ne.symm b⟩
theorem zex:∀(d:List MOp) (b:Nat) (c:List Int) (a:Nat),a<c.length→(Q9 d b c).getD a 0=c.getD a 0∨∃(e:Nat) (h:e<d.length),(Q9 d b c).getD a 0=((b+e:Nat):Int)∧(a=b+e∨∃k∈yt d[e],k.toNat=a)
 |[],b,c,a,_=> .inl rfl
 |i::d,b,c,a,j=>by
  rw [Q9];rcases zex d (b+1) (QO c b i) a (by rw [zax];exact j) with h | ⟨e,l,m,f⟩
  ·rw [h]
   rcases zcu c b i a j with ⟨g,n⟩ | ⟨g,_⟩
   ·exact .inr ⟨0,by simp,by rw [g];rfl,by simpa using n⟩
   ·exact .inl g
  ·exact .inr ⟨e+1,by simpa using l,by rw [m];congr 1;omega,by rcases f with f | f;exact .inl (by omega);exact .inr (by simpa using f)⟩
theorem zfI:∀(d:List MOp) (b:Nat) (c:List Int) (a:Nat),a<c.length→(b≤a→a<b+d.length)→(a<b→(a:Int)≤c.getD a 0)→(a:Int)≤(Q9 d b c).getD a 0
 |[],b,c,a,e,f,g=>by
  rw [Q9]
  by_cases i:a<b
  ·exact g i
  ·have:=f (by omega);simp at this;omega
 |j::d,b,c,a,e,f,g=>by
  rw [Q9];refine zfI d (b+1) _ a (by rw [zax];exact e) (fun k=>by have:=f (by omega);simp at this;omega) fun k=> ?_
  rcases zcu c b j a e with ⟨h,_⟩ | ⟨h,l⟩
  ·rw [h];omega
  ·rw [h];exact g (by omega)
theorem zom (ops:List MOp)(j:Nat)(a:j<ops.length):(j:Int)≤(zx ops).getD j 0:=zfI ops 0 _ j (by simpa using a) (fun _=>by omega) (fun b=>by omega)
theorem zmX (g:qK ops 65536 65536=true)(j k:Nat)(i:j<k)(l:k<ops.length)(m:(zx ops).getD j 0=(k:Int)):(j:Int)∈yt ops[k]:=by
 rcases zex ops 0 (List.replicate ops.length 0) j (by simp;omega) with a | ⟨b,h,a,c⟩
 ·exfalso
  have d:(List.replicate ops.length (0:Int)).getD j 0=0:=by simp [List.getD,List.getElem?_replicate];split<;>rfl
  have n:(zx ops).getD j 0=0:=(show (zx ops).getD j 0=(List.replicate ops.length (0:Int)).getD j 0 from a).trans d;omega
 ·have d:(zx ops).getD j 0=((0+b:Nat):Int):=a
  obtain rfl:b=k:=by omega
  rcases c with c | ⟨e,f,o⟩
  ·omega
  ·have:=Zr g b h e f
   have:e=(j:Int):=by omega
   rw [←this];exact f
def zpo (b c:List Int)(k:Nat)(x:Int)(m:Nat):Nat:=Qa (fun a=>if b.getD a 0=(k:Int)∧c.getD a 0=x then 1 else 0) m
def zd9 (b c:List Int)(k:Nat)(x:Int)(m:Nat):Nat:=Qa (fun a=>if (k:Int)≤b.getD a 0∧c.getD a 0=x then 1 else 0) m
theorem zbf (b c:List Int)(i:Nat)(x:Int):∀a,(yq b c i a).count x=Qa (fun d=>if (i:Int)<b.getD d 0∧c.getD d 0=x then 1 else 0) a
 |0=>rfl
 |a+1=>by
  rw [yq,List.count_append,zbf b c i x a,Qa]
  congr 1
  generalize b.getD a 0=f;generalize c.getD a 0=g
  by_cases e:(i:Int)<f
  ·by_cases h:g=x<;>simp [e,h]
  ·simp [e]
theorem ziO (c d:List Int)(k:Nat)(x:Int)(m:Nat):zd9 c d k x m=(yq c d k m).count x+zpo c d k x m:=by
 rw [zbf,zd9,zpo,←zbx];refine Qs m fun f _=> ?_
 by_cases g:(k:Int)<c.getD f 0
 ·by_cases b:d.getD f 0=x
  ·rw [if_pos ⟨by omega,b⟩,if_pos ⟨g,b⟩,if_neg (by omega)]
  ·rw [if_neg (fun a=>b a.2),if_neg (fun a=>b a.2),if_neg (fun a=>b a.2)]
 ·by_cases b:c.getD f 0=(k:Int)
  ·by_cases e:d.getD f 0=x
   ·rw [if_pos ⟨by omega,e⟩,if_neg (by omega),if_pos ⟨b,e⟩]
   ·rw [if_neg (fun a=>e a.2),if_neg (fun a=>e a.2),if_neg (fun a=>e a.2)]
  ·rw [if_neg (by omega),if_neg (by omega),if_neg (fun a=>b a.1)]
theorem zfw (c b:List Int)(k:Nat)(t x:Int)(f:k<b.length):zd9 c (b.set k t) (k+1) x (k+1)=(yq c b k k).count x+if (k:Int)<c.getD k 0∧t=x then 1 else 0:=by
 rw [zbf,zd9,Qa]
 congr 1
 ·refine Qs k fun d g=> ?_
  have:(b.set k t).getD d 0=b.getD d 0:=by simp [List.getD,List.getElem?_set,show k≠d by omega]
  rw [this]
  by_cases a:(k:Int)<c.getD d 0∧b.getD d 0=x
  ·rw [if_pos a,if_pos ⟨by omega,a.2⟩]
  ·rw [if_neg a,if_neg (fun e=>a ⟨by omega,e.2⟩)]
 ·have:(b.set k t).getD k 0=t:=by simp [List.getD,f]
  rw [this]
  by_cases a:(k:Int)<c.getD k 0∧t=x
  ·rw [if_pos a,if_pos ⟨by omega,a.2⟩]
  ·rw [if_neg a,if_neg (fun e=>a ⟨by omega,e.2⟩)]
theorem zcP (a c:Nat):∀b,Qa (fun d=>if d=a then c else 0) b=if a<b then c else 0
 |0=>rfl
 |b+1=>by
  rw [Qa,zcP a c b]
  repeat' split
  all_goals omega
def ZJ (f:Nat→Nat)(l:List Int):Nat:=(l.map fun a=>f a.toNat).foldl (·+·) 0
theorem zjQ (f:Nat→Nat)(k:Nat)(l:List Int)(h:∀a∈l,0≤a∧a<k)(i:∀b,b<k→f b≠0→(b:Int)∈l)(n:l=[]∨(∃a,l=[a])∨∃a d,l=[a,d]∧a≠d):Qa f k=ZJ f l:=by
 rcases n with rfl | ⟨a,rfl⟩ | ⟨a,d,rfl,p⟩
 ·rw [Qs (g:=fun _=>0) k fun b e=>Classical.byContradiction fun c=>by simpa using i b e c,zcc];rfl
 ·have o:=h a (by simp)
  rw [Qs (g:=fun b=>if b=a.toNat then f a.toNat else 0) k fun b e=> ?_,zcP,if_pos (by omega)]
  ·simp [ZJ]
  ·by_cases c:b=a.toNat
   ·rw [if_pos c,c]
   ·rw [if_neg c]
    refine Classical.byContradiction fun m=> ?_
    have:=i b e m;simp at this;omega
 ·have o:=h a (by simp)
  have q:=h d (by simp);rw [Qs (g:=fun b=>(if b=a.toNat then f a.toNat else 0)+(if b=d.toNat then f d.toNat else 0)) k fun b e=> ?_,zbx,zcP,zcP,if_pos (by omega),if_pos (by omega)]
  ·simp [ZJ]
  ·by_cases c:b=a.toNat
   ·rw [if_pos c,if_neg (by omega),c];rfl
   ·rw [if_neg c]
    by_cases j:b=d.toNat
    ·rw [if_pos j,j];omega
    ·rw [if_neg j]
     refine Classical.byContradiction fun m=> ?_
     have:=i b e (by omega);simp at this;omega
theorem zgH (o:MOp):Yj o=[]∨(∃a,Yj o=[a])∨∃a b,Yj o=[a,b]∧a≠b:=by
 have c:=Yu o;unfold Yj
 match d:yt o with
 |[]=>exact .inl rfl
 |[a]=>exact .inr (.inl ⟨a,rfl⟩)
 |[a,b]=>
  simp only [srt]
  split
  ·simp only [zar];split
   ·exact .inr (.inl ⟨_,rfl⟩)
   ·exact .inr (.inr ⟨_,_,rfl,by assumption⟩)
  ·simp only [zar];split
   ·exact .inr (.inl ⟨_,rfl⟩)
   ·exact .inr (.inr ⟨_,_,rfl,by assumption⟩)
 |_::_::_::_=>rw [d] at c;simp at c
theorem zhY (o:MOp)(x:Int)(d:x∈yt o):x∈Yj o:=by
 have g:=Yu o;have a:=(zkx (yt o) x).2 d;unfold Yj;have c:=zhc (yt o)
 match b:srt (yt o) with
 |[]=>rw [b] at a;exact a
 |[e]=>rw [b] at a;exact a
 |[e,h]=>
  rw [b] at a;simp only [zar];split
  ·rename_i f;simp only [List.mem_cons,List.not_mem_nil,or_false] at a ⊢
   rcases a with a | a
   ·exact a
   ·rw [a];exact f.symm
  ·exact a
 |_::_::_::_=>rw [b] at c;simp at c;omega
theorem zhD (d e:List Int)(k:Nat)(f:List Int)(a x:Int):(zad d e k f a).count x=f.count x+if d.getD a.toNat 0=(k:Int)∧e.getD a.toNat 0=x then 1 else 0:=by
 unfold zad
 by_cases b:d.getD a.toNat 0=(k:Int)
 ·rw [if_pos b,zeU]
  by_cases c:e.getD a.toNat 0=x
  ·rw [if_pos c,if_pos ⟨b,c⟩]
  ·rw [if_neg c,if_neg (fun g=>c g.2)]
 ·rw [if_neg b,if_neg (fun g=>b g.1),Nat.add_zero]
theorem zi8 {b c:List Int}{f:List Int}(a:Int)(d:zbP f f.length):zbP (zad b c k f a) (zad b c k f a).length:=by
 unfold zad
 split
 ·exact zf1 _ d
 ·exact d
theorem zem (b c:List Int)(k:Nat)(x:Int):∀(a e:List Int),(a.foldl (zad b c k) e).count x=e.count x+ZJ (fun d=>if b.getD d 0=(k:Int)∧c.getD d 0=x then 1 else 0) a
 |[],e=>rfl
 |f::a,e=>by
  have i:∀(h:Nat→Nat) (a:List Int) (g:Nat),(a.map fun f=>h f.toNat).foldl (·+·) g=g+ZJ h a:=by
   intro h a
   induction a with
   |nil=>intro g;rfl
   |cons l a ih=>
    intro g;simp only [ZJ,List.map_cons,List.foldl_cons];rw [ih,ih];omega
  rw [List.foldl_cons,zem b c k x a,zhD];have j:=i (fun d=>if b.getD d 0=(k:Int)∧c.getD d 0=x then 1 else 0) a (0+if b.getD f.toNat 0=(k:Int)∧c.getD f.toNat 0=x then 1 else 0);simp only [ZJ,List.map_cons,List.foldl_cons] at j ⊢;omega
theorem zaL (c d:List Int)(k:Nat):∀(b a:List Int),zbP a a.length→zbP (b.foldl (zad c d k) a) (b.foldl (zad c d k) a).length
 |[],a,e=>e
 |f::b,a,e=>by rw [List.foldl_cons];exact zaL c d k b _ (zi8 f e)
def inR (x a:Int):Nat:=if 0≤x∧x<a then 1 else 0
structure SInv (last:List Int)(n k:Nat)(s:SlotSt):Prop where
 len:s.slots.length=n
 heap:zbP s.free s.free.length
 pos:0≤s.arena
 cnt:∀x,s.free.count x+zd9 last s.slots k x k=inR x s.arena
 done:∀i,i<k→∃t:Nat,s.slots.getD i 0=(t:Int)∧zdo (yq last s.slots i i) t
 top:s.arena=zG (zix (s.slots.take k))
theorem zdj (c b:List Int)(k:Nat)(z:Int)(i:Nat):∀a,a≤k→yq c (b.set k z) i a=yq c b i a
 |0,_=>rfl
 |a+1,e=>by
  have d:(b.set k z).getD a 0=b.getD a 0:=by simp [List.getD,List.getElem?_set,show k≠a by omega]
  rw [yq,yq,zdj c b k z i a (by omega),d]
theorem Zz :x∈l↔0<l.count x:=List.count_pos_iff.symm
theorem zod (c:x∈l):∃a,a<l.length∧l.getD a 0=x:=by
 obtain ⟨a,b,d⟩:=List.mem_iff_getElem.1 c;exact ⟨a,b,by simp [List.getD,b,d]⟩
theorem zlZ (D:qK ops 65536 65536=true)(w:k<ops.length){s:SlotSt}(Q:SInv (zx ops) ops.length k s):SInv (zx ops) ops.length (k+1) (ZN (zx ops) k ops[k] s):=by
 obtain ⟨E,R,S,F,G,T⟩:=Q;have U:=zom ops k w;have x:=fun f j=>zmX D f k j w
 have H:=Zr D k w;generalize ops[k]=h at x H ⊢;obtain ⟨c,V⟩:∃c,zx ops=c:=⟨_,rfl⟩;rw [V] at U x F G ⊢;have i:∀b,(Ze c k h s).count b+(yq c s.slots k k).count b=inR b s.arena:=by
  intro b;have am:=zem c s.slots k b (Yj h) s.free;have an:=zjQ (fun f=>if c.getD f 0=(k:Int)∧s.slots.getD f 0=b then 1 else 0) k (Yj h) (fun I W=>H I (zdz h I W)) (fun f j X=>zhY h _ (x f j (by
   refine Classical.byContradiction fun l=>X ?_
   exact if_neg fun q=>l q.1))) (zgH h)
  have Y:=ziO c s.slots k b k;have ao:=F b;unfold zpo at Y;unfold Ze;omega
 have y:zbP (Ze c k h s) (Ze c k h s).length:=zaL _ _ _ _ _ R;unfold ZN;generalize Ze c k h s=g at i y ⊢;have aa:∃(a:Nat) (m:List Int) (n:Int),ZM k s g=⟨s.slots.set k a,n,m⟩∧zdo (yq c s.slots k k) a∧zbP m m.length∧n=max s.arena ((a:Int)+1)∧(∀b,m.count b+(yq c s.slots k k).count b+(if (a:Int)=b then 1 else 0)=inR b n):=by
  unfold ZM
  by_cases o:0<g.length
  ·rw [if_pos o]
   have ab:g.getD 0 0∈g:=by simp [List.getD,o]
   have z:=i (g.getD 0 0);have ac:=Zz.1 ab;have A:0≤g.getD 0 0∧g.getD 0 0<s.arena:=by
    refine Classical.byContradiction fun l=> ?_
    unfold inR at z;rw [if_neg l] at z;omega
   obtain ⟨a,r⟩:=Int.eq_ofNat_of_zero_le A.1;rw [r] at z ac A ⊢;have ap:inR (a:Int) s.arena=1:=if_pos A;refine ⟨a,zat g,s.arena,rfl,⟨fun f j=> ?_,fun B=> ?_⟩,znr y o,by omega,fun b=> ?_⟩
   ·refine Zz.2 ?_
    have e:=i (f:Int);have p:inR (f:Int) s.arena=1:=if_pos ⟨by omega,by omega⟩;have aq:g.count (f:Int)=0:=by
     refine Classical.byContradiction fun l=> ?_
     obtain ⟨ad,ae,ar⟩:=zod (Zz.2 (Nat.pos_of_ne_zero l));have:=zk1 y ad ae;omega
    omega
   ·have:=Zz.1 B;omega
   ·have e:=zlG g b o
    have p:=i b;rw [r] at e;omega
  ·rw [if_neg o]
   have af:g=[]:=List.length_eq_zero_iff.1 (by omega);subst af;obtain ⟨a,r⟩:=Int.eq_ofNat_of_zero_le S;rw [r] at i ⊢;refine ⟨a, [],(a:Int)+1,rfl,⟨fun f j=> ?_,fun B=> ?_⟩,fun d _ C=>absurd C (Nat.not_lt_zero _),by omega,fun b=> ?_⟩
   ·refine Zz.2 ?_
    have e:=i (f:Int);have p:inR (f:Int) (a:Int)=1:=if_pos ⟨by omega,by omega⟩;simp only [List.count_nil] at e;omega
   ·have e:=i (a:Int)
    have p:inR (a:Int) (a:Int)=0:=if_neg (by omega);have:=Zz.1 B;simp only [List.count_nil] at e;omega
   ·have e:=i b
    simp only [List.count_nil,Nat.zero_add] at e ⊢;rw [e];unfold inR
    repeat' split
    all_goals omega
 obtain ⟨a,m,n,ag,ah,J,ai,K⟩:=aa;rw [ag];have t:k<s.slots.length:=by omega
 have L:(s.slots.set k (a:Int)).getD k 0=(a:Int):=by simp [List.getD,t]
 have aj:∀d,d<k→(s.slots.set k (a:Int)).getD d 0=s.slots.getD d 0:=fun d C=>by simp [List.getD,List.getElem?_set,show k≠d by omega]
 have M:∀d,d<k+1→∃u:Nat,(s.slots.set k (a:Int)).getD d 0=(u:Int)∧zdo (yq c (s.slots.set k (a:Int)) d d) u:=by
  intro d C
  by_cases N:d<k
  ·obtain ⟨u,e,p⟩:=G d N
   exact ⟨u,by rw [aj d N];exact e,by rw [zdj _ _ _ _ _ _ (by omega)];exact p⟩
  ·obtain rfl:d=k:=by omega
   exact ⟨a,L,by rw [zdj _ _ _ _ _ _ (Nat.le_refl _)];exact ah⟩
 have O:n=zG (zix ((s.slots.set k (a:Int)).take (k+1))):=by
  have ak:(s.slots.set k (a:Int)).take (k+1)=s.slots.take k++[(a:Int)]:=by
   rw [List.take_succ_eq_append_getElem (by simpa using t)]
   congr 1
   ·rw [List.take_set];rw [List.set_eq_of_length_le (by simp;omega)]
   ·simp
  rw [ak,ai,T];simp [zix,zG]
 unfold zan;simp only
 by_cases P:c.getD k 0=(k:Int)
 ·rw [if_pos P,L]
  refine ⟨by simpa using E,zf1 _ J,by simp only;omega,fun b=> ?_,M,O⟩;simp only;rw [zeU,zfw c s.slots k a b t,if_neg (show ¬((k:Int)<c.getD k 0∧(a:Int)=b) from fun q=>by omega)];have:=K b;omega
 ·have al:(k:Int)<c.getD k 0:=by omega
  rw [if_neg P];refine ⟨by simpa using E,J,by simp only;omega,fun b=> ?_,M,O⟩;simp only;rw [zfw c s.slots k a b t];have e:=K b
  by_cases v:(a:Int)=b
  ·rw [if_pos ⟨al,v⟩];rw [if_pos v] at e;omega
  ·rw [if_neg (fun q=>v q.2)];rw [if_neg v] at e;omega
theorem ze4 (e:qK ops 65536 65536=true):∀(c a:Nat) (b:SlotSt),a+c=ops.length→SInv (zx ops) ops.length a b→SInv (zx ops) ops.length ops.length (Yn (zx ops) (ops.drop a) a b)
 |0,a,b,g,d=>by
  obtain rfl:a=ops.length:=by omega
  rw [List.drop_length,Yn];exact d
 |c+1,a,b,g,d=>by
  have f:a<ops.length:=by omega
  rw [List.drop_eq_getElem_cons f,Yn];exact ze4 e c (a+1) _ (by omega) (zlZ e f d)
theorem zj1 (ops:List MOp):SInv (zx ops) ops.length 0 (Zk ops.length):=
 ⟨by simp [Zk],fun c _ a=>absurd a (Nat.not_lt_zero _),Int.le_refl _,fun b=>(by show (0:Nat)=if 0≤b∧b<(0:Int) then 1 else 0;rw [if_neg (by omega)]),fun c a=>absurd a (Nat.not_lt_zero _),rfl⟩
theorem zjg {s t:Nat}(b:zdo l s)(c:zdo l t):s=t:=by
 rcases Nat.lt_trichotomy s t with a | a | a
 ·exact absurd (c.1 s a) b.2
 ·exact a
 ·exact absurd (b.1 t a) c.2
theorem zdT (e a b:List Int)(i:Nat):∀c,(∀d,d<c→a.getD d 0=b.getD d 0)→yq e a i c=yq e b i c
 |0,_=>rfl
 |c+1,f=>by rw [yq,yq,zdT e a b i c (fun d g=>f d (by omega)),f c (by omega)]
theorem zl0 (e:qK ops 65536 65536=true){c:List Int}{f:Int}(k:RSl (zx ops) ops.length c f):c=(Qb ops).1∧f=(Qb ops).2:=by
 have b:=ze4 e ops.length 0 _ (by omega) (zj1 ops);rw [List.drop_zero] at b;have l:Qb ops=((Yn (zx ops) ops 0 (Zk ops.length)).slots,(Yn (zx ops) ops 0 (Zk ops.length)).arena):=by unfold Qb;rw [if_pos e]
 rw [l];generalize Yn (zx ops) ops 0 (Zk ops.length)=d at b ⊢;obtain ⟨m,n,o,x,y⟩:=k;have p:∀a,a<ops.length→c.getD a 0=d.slots.getD a 0:=by
  intro a
  induction a using Nat.strongRecOn with
  |_ a ih=>
   intro g;obtain ⟨z,q,_,h⟩:=n a g;obtain ⟨A,r,s⟩:=b.done a g;rw [zdT _ c d.slots a a (fun t u=>ih t u (by omega))] at h;rw [q,r,zjg h s]
 have i:c=d.slots:=by
  refine List.ext_getElem (by rw [m,b.len]) fun a v w=> ?_
  have:=p a (by omega);simpa [List.getD,v,w] using this
 refine ⟨i,?_⟩;have j:=b.top;rw [List.take_of_length_le (by rw [b.len];exact Nat.le_refl _)] at j;rw [o,i,←j]
end Go.Proofs.YtklofgfkaaoipaaGreatDoor
namespace Go.Proofs.YtklofgfkaaoipaaGreatDoor
open Go.ChangeShapes Go.WideShapes Go.RowKit Go.Proofs.Tryz
variable {h:List Value}{v:Value}{α H:Type}{w:World}{A:Nat→Bool}
theorem yh {i:Nat}(a:(h.drop i).take 1=[v]):h[i]? =some v:=by
 have b:((h.drop i).take 1)[0]? =some v:=by rw [a];rfl
 simpa [List.getElem?_take] using b
theorem zhz (f:α→List Value)(k:Nat)(d:∀i,(f i).length=k)(g:0<k):∀(b:List α) (a:Nat) (c:a / k<b.length),(b.flatMap f)[a]? =(f b[a / k])[a%k]?
 |[],a,c=>by simp at c
 |m::b,a,c=>by
  rw [List.flatMap_cons]
  by_cases e:a<k
  ·rw [List.getElem?_append_left (by rw [d];exact e),Nat.mod_eq_of_lt e]
   simp [Nat.div_eq_of_lt e]
  ·have h:a / k=(a-k) / k+1:=by rw [Nat.div_eq_sub_div g (by omega)]
   have j:a%k=(a-k)%k:=Nat.mod_eq_sub_mod (by omega);have l:(a-k) / k<b.length:=by rw [h] at c;simpa using c
   rw [List.getElem?_append_right (by rw [d];omega),d,zhz f k d g b (a-k) l,j];simp [h]
theorem zeO {enc:TypeId×Value→H}{P:Program}{t e:TypeId}{k L:Nat}{x:DataW H×List MemPlace}
  (f:α→List Value) (s:α→Prop) (u:∀d,(f d).length=k) (l:0<k) (M:P.underlying t=some (.slice e)) (N:P.cellsOf e=k)
  (O:∀(B:Nat) (v:List Value) (Q:DataW H×List MemPlace),DataW.trod enc P w 0 A true B e v=some Q→∃d,v=f d∧s d)
  (g:DataW.trod enc P w 0 A true L t h=some x):
  ∃(C:Value) (a:List α),h=[C]∧(∀d∈a,s d)∧Arr w.heap.size w k C a.length (a.flatMap f):=by
 subst N;rcases Go.Deep.open_slice M g with ⟨rfl,_⟩ | ⟨d,y,R,S,B,ae,af,rfl,_,ag,T,U,_,V⟩
 ·exact ⟨_, [],rfl,fun _ g=>(by cases g),Arr.nil _ _ _⟩
 ·have ah:y≤S:=by rw [U];split<;>omega
  have W:∀c,c≤y→∃a:List α,a.length=c∧(∀d∈a,s d)∧∀b (i:b<a.length),w.cells? 0 (d.add (b * P.cellsOf e)) (P.cellsOf e)=some (f a[b]):=by
   intro c
   induction c with
   |zero=>exact fun _=>⟨[],rfl,fun _ g=>(by cases g),fun b i=>(by simp at i)⟩
   |succ c ih=>
    intro z;obtain ⟨a,m,o,j⟩:=ih (by omega);obtain ⟨v,p,q⟩:=V c (by omega);obtain ⟨D,rfl,X⟩:=O _ _ _ q;refine ⟨a++[D],by simp [m],fun Y n=> ?_,fun b i=> ?_⟩
    ·rcases List.mem_append.1 n with n | n
     ·exact o Y n
     ·obtain rfl:=List.mem_singleton.1 n;exact X
    ·by_cases E:b<a.length
     ·rw [List.getElem_append_left E];exact j b E
     ·have:b=c:=by simp at i;omega
      subst this;rw [List.getElem_append_right (by omega)];simpa [m] using p
  obtain ⟨a,m,o,j⟩:=W y (Nat.le_refl _);refine ⟨_,a,rfl,o,some d,R,by rw [m],by omega,T,fun g=>(by cases g),?_,?_⟩
  ·clear o j m;induction a with
   |nil=>simp
   |cons D a ih=>simp [List.flatMap_cons,ih,u,Nat.succ_mul,Nat.add_comm]
  ·by_cases aa:a.length=0
   ·exact .inl aa
   right
   obtain ⟨F,G,I⟩:=d;have ai:=World.cells?_some (j 0 (by omega));have J:∀b (i:b<a.length) c (z:c<P.cellsOf e),w.cell? ((Addr.add ⟨F,G,I⟩ (b * P.cellsOf e)).add c)=(f a[b])[c]? :=fun b i c z=>(World.cells?_some (j b i)).2.2 c z
   have ab:I=none:=by
    have p:=J 0 (by omega) 0 l;rw [List.getElem?_eq_getElem (by rw [u];exact l)] at p;simpa [Addr.add] using World.cell?_spot p
   subst ab;refine ⟨F,G,rfl,?_,fun r ac=> ?_⟩
   ·have ad:=World.cells?_block (j 0 (by omega)) l
    simpa [Addr.add] using ad
   ·have K:r / P.cellsOf e<a.length:=Nat.div_lt_of_lt_mul (by rw [Nat.mul_comm];exact ac)
    have q:=J (r / P.cellsOf e) K (r%P.cellsOf e) (Nat.mod_lt _ l);rw [Go.Deep.add_add,Nat.mul_comm,Nat.div_add_mod,Go.WideShapes.add_plain] at q;rw [q];exact (zhz f (P.cellsOf e) u l a r K).symm
section
variable {H:Type} {enc:TypeId×Value→H} {w:World} {spare:Nat→Bool} {fuel:Nat} {cs:List Value} {x:DataW H×List MemPlace}
theorem zaR:prog.cellsOf 3=1:=by kernel_rfl
theorem zml:prog.cellsOf 24=1:=by kernel_rfl
theorem zhk:prog.cellsOf 27=1:=by kernel_rfl
theorem zmn:prog.cellsOf 23=2:=by kernel_rfl
theorem zp6:prog.cellsOf 28=2:=by kernel_rfl
theorem zmm:prog.cellsOf 26=8:=by kernel_rfl
theorem zp7:prog.cellsOf 61=6:=by kernel_rfl
theorem zp8:prog.cellsOf 22=1:=by kernel_rfl
theorem zpj:prog.cellsOf 58=1:=by kernel_rfl
theorem zp9:prog.cellsOf 59=1:=by kernel_rfl
theorem zpk:prog.cellsOf 30=16:=by kernel_rfl
theorem zkY (l:List Int):l.flatMap (fun n=>[Value.int .i64 n])=ints l:=by
 induction l with
 |nil=>rfl
 |cons a l ih=>rw [List.flatMap_cons,ih];rfl
theorem zmH {β:Type}(l:List (Value×β)):l.flatMap (fun p=>[p.1])=l.map (·.1):=by
 induction l with
 |nil=>rfl
 |cons a l ih=>rw [List.flatMap_cons,ih];rfl
theorem zeP (h:DataW.trod enc prog w 0 spare true fuel 24 cs=some x):∃v l,cs=[v]∧Arr w.heap.size w 1 v l.length (ints l):=by
 obtain ⟨v,l,rfl,_,h⟩:=zeO (fun n:Int=>[Value.int .i64 n]) (fun _=>True) (fun _=>rfl) (by decide) underlying24 zaR
  (fun n cs' d hd=>by obtain ⟨z,rfl,_⟩:=DataW.trod_int underlying3 hd;exact ⟨z,rfl,trivial⟩) h
 exact ⟨v,l,rfl,by rwa [zkY] at h⟩
theorem zkq {B:Nat}{w:World}:∀(l:List (Value×List Int)),(∀a∈l,Arr B w 1 a.1 a.2.length (ints a.2))→ZR B w (l.map (·.1)) ((l.map (·.2)).map ints)
 |[],_=>trivial
 |a::l,h=>⟨by have:=h a List.mem_cons_self;rwa [←qP a.2] at this,zkq l fun b hb=>h b (List.mem_cons_of_mem _ hb)⟩
theorem zdC (h:DataW.trod enc prog w 0 spare true fuel 27 cs=some x):∃v l,cs=[v]∧ZS w.heap.size w v l:=by
 obtain ⟨v,l,rfl,hR,h⟩:=zeO (fun p:Value×List Int=>[p.1]) (fun p=>Arr w.heap.size w 1 p.1 p.2.length (ints p.2)) (fun _=>rfl) (by decide) underlying27 zml
  (fun n cs' d hd=>by obtain ⟨z,s,rfl,hs⟩:=zeP hd;exact ⟨(z,s),rfl,hs⟩) h
 refine ⟨v,l.map (·.2),rfl,l.map (·.1),by simp,?_,zkq l hR⟩;rw [zmH] at h
 rwa [List.length_map]
theorem zeQ (h:DataW.trod enc prog w 0 spare true fuel 23 cs=some x):∃a b,cs[0]? =some (.int .i64 a)∧cs[1]? =some (.int .i64 b):=by
 obtain ⟨xs,m,rfl,_,hl,hn,hx⟩:=DataW.trod_array underlying23 h;have each:∀i,i<2→∃a,cs[i]? =some (.int .i64 a):=fun i hi=>by
  have h1:=hx i hi;rw [List.getElem?_eq_getElem (by rw [hn];exact hi),zaR] at h1;obtain ⟨a,h2,_⟩:=DataW.trod_int underlying3 h1;exact ⟨a,by simpa using yh h2⟩
 obtain ⟨a,ha⟩:=each 0 (by decide);obtain ⟨b,hb⟩:=each 1 (by decide);exact ⟨a,b,ha,hb⟩
theorem znf (h:DataW.trod enc prog w 0 spare true fuel 28 cs=some x):∃v0 v1 l0 l1,cs[0]? =some v0∧cs[1]? =some v1∧ZS w.heap.size w v0 l0∧ZS w.heap.size w v1 l1:=by
 obtain ⟨xs,m,rfl,_,hl,hn,hx⟩:=DataW.trod_array underlying28 h;have each:∀i,i<2→∃v l,cs[i]? =some v∧ZS w.heap.size w v l:=fun i hi=>by
  have h1:=hx i hi;rw [List.getElem?_eq_getElem (by rw [hn];exact hi),zhk] at h1;obtain ⟨v,l,h2,h3⟩:=zdC h1;exact ⟨v,l,by simpa using yh h2,h3⟩
 obtain ⟨v0,l0,ha,h0⟩:=each 0 (by decide);obtain ⟨v1,l1,hb,h1⟩:=each 1 (by decide);exact ⟨v0,v1,l0,l1,ha,hb,h0,h1⟩
theorem zbA {cs:List Value}{o n j:Nat}(hj:j<n):((cs.drop o).take n)[j]? =cs[o+j]? :=by
 rw [List.getElem?_take_of_lt hj,List.getElem?_drop]
theorem zoC (h:DataW.trod enc prog w 0 spare true fuel 61 cs=some x):∃o:MOp,cs=o.cells∧o.c<18446744073709551616:=by
 obtain ⟨xs,m,rfl,_,hl,hn,hx⟩:=DataW.trod_struct underlying61 h;have g0:DataW.trod enc prog w 0 spare true m 58 ((cs.drop 0).take 1)=xs[0]? :=(congrArg (fun k=>DataW.trod enc prog w 0 spare true m 58 ((cs.drop 0).take k)) zpj).symm.trans (hx 0 _ rfl);have g1:DataW.trod enc prog w 0 spare true m 3 ((cs.drop 1).take 1)=xs[1]? :=(congrArg (fun k=>DataW.trod enc prog w 0 spare true m 3 ((cs.drop 1).take k)) zaR).symm.trans (hx 1 _ rfl);have g2:DataW.trod enc prog w 0 spare true m 3 ((cs.drop 2).take 1)=xs[2]? :=(congrArg (fun k=>DataW.trod enc prog w 0 spare true m 3 ((cs.drop 2).take k)) zaR).symm.trans (hx 2 _ rfl);have g3:DataW.trod enc prog w 0 spare true m 3 ((cs.drop 3).take 1)=xs[3]? :=(congrArg (fun k=>DataW.trod enc prog w 0 spare true m 3 ((cs.drop 3).take k)) zaR).symm.trans (hx 3 _ rfl);have g4:DataW.trod enc prog w 0 spare true m 59 ((cs.drop 4).take 1)=xs[4]? :=(congrArg (fun k=>DataW.trod enc prog w 0 spare true m 59 ((cs.drop 4).take k)) zp9).symm.trans (hx 4 _ rfl);have g5:DataW.trod enc prog w 0 spare true m 3 ((cs.drop 5).take 1)=xs[5]? :=(congrArg (fun k=>DataW.trod enc prog w 0 spare true m 3 ((cs.drop 5).take k)) zaR).symm.trans (hx 5 _ rfl);rw [zp7] at hl;have hn6:xs.length=6:=hn;rw [List.getElem?_eq_getElem (by omega)] at g0 g1 g2 g3 g4 g5;obtain ⟨n0,e0,_⟩:=DataW.trod_int underlying58 g0;obtain ⟨n1,e1,_⟩:=DataW.trod_int underlying3 g1;obtain ⟨n2,e2,_⟩:=DataW.trod_int underlying3 g2;obtain ⟨n3,e3,_⟩:=DataW.trod_int underlying3 g3;obtain ⟨n4,e4,_,hw4⟩:=DataW.trod_int underlying59 g4;obtain ⟨n5,e5,_⟩:=DataW.trod_int underlying3 g5;have b4:=bounds_u64 hw4;refine ⟨⟨n0,n1,n2,n3,n4.toNat,n5⟩,?_,by show n4.toNat < _;omega⟩;have k0:=yh e0;have k1:=yh e1;have k2:=yh e2;have k3:=yh e3;have k4:=yh e4;have k5:=yh e5;clear hx g0 g1 g2 g3 g4 g5 e0 e1 e2 e3 e4 e5
 match cs,hl with
 |[a0,a1,a2,a3,a4,a5],_=>
  simp at k0 k1 k2 k3 k4 k5;subst k0 k1 k2 k3 k4 k5;simp only [MOp.cells];rw [Int.toNat_of_nonneg b4.1]
theorem zng (h:DataW.trod enc prog w 0 spare true fuel 22 cs=some x):∃v l,cs=[v]∧(∀o∈l,o.c<18446744073709551616)∧Arr w.heap.size w 6 v l.length (qz l):=
 zeO MOp.cells (fun o=>o.c<18446744073709551616) (fun _=>rfl) (by decide) underlying22 zp7 (fun n cs' d hd=>zoC hd) h
theorem zlB (h:DataW.trod enc prog w 0 spare true fuel 26 cs=some x):∃q:MNeed,cs=[.int .i64 q.tri,.int .i64 q.bits,.int .i64 q.ots,.int .i64 q.t0,.int .i64 q.t1,.int .i64 q.rounds,.int .i64 q.w0,.int .i64 q.w1]:=by
 obtain ⟨xs,m,rfl,_,hl,hn,hx⟩:=DataW.trod_struct underlying26 h;have g0:DataW.trod enc prog w 0 spare true m 3 ((cs.drop 0).take 1)=xs[0]? :=(congrArg (fun k=>DataW.trod enc prog w 0 spare true m 3 ((cs.drop 0).take k)) zaR).symm.trans (hx 0 _ rfl);have g1:DataW.trod enc prog w 0 spare true m 3 ((cs.drop 1).take 1)=xs[1]? :=(congrArg (fun k=>DataW.trod enc prog w 0 spare true m 3 ((cs.drop 1).take k)) zaR).symm.trans (hx 1 _ rfl);have g2:DataW.trod enc prog w 0 spare true m 3 ((cs.drop 2).take 1)=xs[2]? :=(congrArg (fun k=>DataW.trod enc prog w 0 spare true m 3 ((cs.drop 2).take k)) zaR).symm.trans (hx 2 _ rfl);have g3:DataW.trod enc prog w 0 spare true m 23 ((cs.drop 3).take 2)=xs[3]? :=(congrArg (fun k=>DataW.trod enc prog w 0 spare true m 23 ((cs.drop 3).take k)) zmn).symm.trans (hx 3 _ rfl);have g4:DataW.trod enc prog w 0 spare true m 3 ((cs.drop 5).take 1)=xs[4]? :=(congrArg (fun k=>DataW.trod enc prog w 0 spare true m 3 ((cs.drop 5).take k)) zaR).symm.trans (hx 4 _ rfl);have g5:DataW.trod enc prog w 0 spare true m 23 ((cs.drop 6).take 2)=xs[5]? :=(congrArg (fun k=>DataW.trod enc prog w 0 spare true m 23 ((cs.drop 6).take k)) zmn).symm.trans (hx 5 _ rfl);rw [zmm] at hl;have hn6:xs.length=6:=hn;rw [List.getElem?_eq_getElem (by omega)] at g0 g1 g2 g3 g4 g5;obtain ⟨n0,e0,_⟩:=DataW.trod_int underlying3 g0;obtain ⟨n1,e1,_⟩:=DataW.trod_int underlying3 g1;obtain ⟨n2,e2,_⟩:=DataW.trod_int underlying3 g2;obtain ⟨a3,b3,e3,f3⟩:=zeQ g3;obtain ⟨n4,e4,_⟩:=DataW.trod_int underlying3 g4;obtain ⟨a5,b5,e5,f5⟩:=zeQ g5;have k0:=yh e0;have k1:=yh e1;have k2:=yh e2;have k4:=yh e4;rw [zbA (by decide)] at e3 f3 e5 f5;clear hx g0 g1 g2 g3 g4 g5 e0 e1 e2 e4;refine ⟨⟨n0,n1,n2,a3,b3,n4,a5,b5⟩,?_⟩
 match cs,hl with
 |[c0,c1,c2,c3,c4,c5,c6,c7],_=>
  simp at k0 k1 k2 k4 e3 f3 e5 f5;subst k0 k1 k2 k4 e3 f3 e5 f5
  rfl
end
theorem zlF {enc:TypeId×Value→H}{r:Reach}{base:Nat}{d:DataW H}{F:List MemPlace}
  (G:Value.okWide prog w r base 30 v) (g:DataW.Trod enc prog w 0 A true 30 v d F):∃u x,v= .agg (qn u x)∧PlanIn w.heap.size w u x:=by
 obtain ⟨a,rfl,h⟩:=okWide_struct underlying30 G;obtain ⟨an,g⟩:=g;obtain ⟨e,b,rfl,_,I,J,f⟩:=DataW.trod_struct underlying30 g;rw [zpk] at h;obtain ⟨a⟩:=a;have h:a.length=16:=h;have i:DataW.trod enc prog w 0 A true b 22 ((a.drop 0).take 1)=e[0]? :=(congrArg (fun c=>DataW.trod enc prog w 0 A true b 22 ((a.drop 0).take c)) zp8).symm.trans (f 0 _ rfl);have j:DataW.trod enc prog w 0 A true b 23 ((a.drop 1).take 2)=e[1]? :=(congrArg (fun c=>DataW.trod enc prog w 0 A true b 23 ((a.drop 1).take c)) zmn).symm.trans (f 1 _ rfl);have k:DataW.trod enc prog w 0 A true b 24 ((a.drop 3).take 1)=e[2]? :=(congrArg (fun c=>DataW.trod enc prog w 0 A true b 24 ((a.drop 3).take c)) zml).symm.trans (f 2 _ rfl);have l:DataW.trod enc prog w 0 A true b 3 ((a.drop 4).take 1)=e[3]? :=(congrArg (fun c=>DataW.trod enc prog w 0 A true b 3 ((a.drop 4).take c)) zaR).symm.trans (f 3 _ rfl);have m:DataW.trod enc prog w 0 A true b 26 ((a.drop 5).take 8)=e[4]? :=(congrArg (fun c=>DataW.trod enc prog w 0 A true b 26 ((a.drop 5).take c)) zmm).symm.trans (f 4 _ rfl);have n:DataW.trod enc prog w 0 A true b 27 ((a.drop 13).take 1)=e[5]? :=(congrArg (fun c=>DataW.trod enc prog w 0 A true b 27 ((a.drop 13).take c)) zhk).symm.trans (f 5 _ rfl);have o:DataW.trod enc prog w 0 A true b 28 ((a.drop 14).take 2)=e[6]? :=(congrArg (fun c=>DataW.trod enc prog w 0 A true b 28 ((a.drop 14).take c)) zp6).symm.trans (f 6 _ rfl);have ao:e.length=7:=J;rw [List.getElem?_eq_getElem (by omega)] at i j k l m n o;obtain ⟨K,L,y,M,N⟩:=zng i;obtain ⟨O,P,p,q⟩:=zeQ j;obtain ⟨Q,R,z,S⟩:=zeP k;obtain ⟨T,B,_⟩:=DataW.trod_int underlying3 l;obtain ⟨U,C⟩:=zlB m;obtain ⟨V,W,D,X⟩:=zdC n;obtain ⟨Y,aa,ab,ac,s,t,ad,ae⟩:=znf o;have E:=yh y;have k2:=yh z;have k3:=yh B;have k5:=yh D;rw [zbA (by decide)] at p q s t;clear f i j k l m n o y z B D I g;refine ⟨⟨L,O,P,R,T,U,W,ab,ac⟩,⟨K,Q,V,Y,aa⟩,?_,N,S,X,ad,ae,M⟩
 match a,h with
 |[ap,aq,ar,au,av,aw,ax,c7,ay,az,aA,aB,aC,aD,aE,aF],_=>
  simp at E k2 k3 k5 p q s t C;obtain ⟨af,ag,ah,ai,aj,ak,al,am⟩:=C;subst E k2 k3 k5 p q s t af ag ah ai aj ak al am
  rfl
end Go.Proofs.YtklofgfkaaoipaaGreatDoor
