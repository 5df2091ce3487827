/-
  THE CONTRACT of twainref18.Last, of what is a program.
-/
import Derived.Test.YtklofgfkaaoipaaGreatDoorMRefNumbers
import Derived.Test.YtklofgfkaaoipaaGreatDoorMRefMake3
import Derived.Test.YtklofgfkaaoipaaGreatDoorMSlots
import Derived.Test.YtklofgfkaaoipaaGreatDoorMHd
set_option maxHeartbeats 16000000
set_option maxRecDepth 100000
set_option linter.unusedSimpArgs false
set_option linter.unusedVariables false
namespace Go.Proofs.YtklofgfkaaoipaaGreatDoor
open Go.RowKit Go.Proofs.Tryz
variable {o:MOp}{w W A:World}{h:Nat}{u x y:Value}{z:Int}
theorem zdV {b c:Int}(a:(qq o b c).2=true):yt o=(if (qq o b c).1.a=0 then [] else [o.a])++(if (qq o b c).1.b=0 then [] else [o.b]):=by
 obtain ⟨h,i,j,f,d,e⟩:=o
 by_cases k:h=1
 ·subst k
  have g:qq ⟨1,i,j,f,d,e⟩ b c=zI e b c:=rfl;have m:(zI e b c).1.a=0:=by
   unfold zI;repeat' split
   all_goals rfl
  have n:(zI e b c).1.b=0:=by
   unfold zI;repeat' split
   all_goals rfl
  rw [g,m,n];rfl
 by_cases l:h=17
 ·subst l
  have g:qq ⟨17,i,j,f,d,e⟩ b c=ye f d:=rfl;rw [g] at a ⊢;have p:∀d,yX d≠0:=by intro d;unfold yX;split<;>decide
  unfold ye at a ⊢
  split at a
  ·rename_i q
   rw [if_pos q]
   by_cases r:f=1<;>simp [yt,r,p]
  ·simp at a
 ·have g:qq ⟨h,i,j,f,d,e⟩ b c=qu h:=by simp [qq,k,l]
  rw [g] at a ⊢;rcases zS _ a with a | a | a | a | a | a | a | a | a | a | a | a | a | a | a | a | a<;>subst a<;>rfl
theorem zih (b:(qq o 65536 65536).2=true)(x:Int)(a:x∈YH o):x∈yt o:=by
 rw [zdV b];unfold YH at a;rw [zaK b] at a;simp only [List.mem_append] at a ⊢;rcases a with a | a
 ·exact .inl a
 ·refine .inr ?_
  split at a
  ·rename_i c;rw [if_neg c.1];exact a
  ·cases a
theorem zig (o:MOp):(YH o).length≤2:=by unfold YH;split<;>split<;>simp
theorem zg2 (f:(qq o 65536 65536).2=true)(k:Int)(a:List Int):(YH o).foldl (fun a d=>a.set d.toNat k) a=(yt o).foldl (fun a d=>a.set d.toNat k) a:=by
 rw [zdV f];unfold YH;rw [zaK f];have g:=zkw o 65536 65536;generalize (qq o 65536 65536).1=e at g ⊢;simp only
 by_cases b:e.a=0
 ·have c:e.b=0:=Classical.byContradiction fun i=>g i b
  simp [b,c]
 ·by_cases c:e.b=0
  ·simp [b,c]
  ·by_cases h:o.a=o.b
   ·simp [b,c,h]
   ·simp [b,c,h]
theorem zii (v:Value)(ops:List MOp)(w:World)(h:qK ops 65536 65536=true)(W:Arr w.heap.size w 6 v ops.length (qz ops)):
  Calls prog 57 #[v] w fun X Y=>∃aa,X= .returned aa∧Y.ownsRow w.heap.size 3 1 aa ops.length (ints (zx ops))∧Below w.heap.size w Y:=by
 have a7:ops.length≤16384:=by simp only [qK,Bool.and_eq_true,decide_eq_true_eq] at h;exact h.1.2
 have ab:=fun a (k:a<ops.length) ac G=>Zr h a k ac (zih (zQ h a k) ac G)
 have ad:=fun a (k:a<ops.length) aK d=>zg2 (zQ h a k) aK d
 obtain ⟨a8,a9,rfl,ba,aL,G,ae⟩:=W.open;obtain ⟨aM,af,ag,ah,ai⟩:=info_parts qD;have aN:=Z ae;have aO:=Z ab;have aP:=Z ad;have aj:=fun (w:World)=>run_make (P:=prog) w 24 3 aM (.int .i64 0) underlying24 af ag .i64 .i64 ops.length ops.length (by omega) (by omega) (by rw [ai];omega) (by omega)
 have bb:∀(w:World),(Instr.makeSlice 24 (.int .i64 ops.length) (.int .i64 ops.length)).run prog w= .ok (.slice (some ⟨w.heap.size,0,none⟩) ops.length ops.length) (w.alloc (.cells (ints (List.replicate ops.length 0)).toArray 3)):=by
  intro w;have:=aj w;rw [ah,Int.toNat_natCast,Nat.mul_one,YS] at this;exact this
 clear W h G ae aL ab aj af ag ah ai ad;go_enter func57,ntmps57;go_wp2_with fail;have ak:w.heap.size≤w.heap.size:=Nat.le_refl _;have q:=Z (heap_alloc_new w (.cells (ints (List.replicate ops.length 0)).toArray 3));have i:=Z ((Below.refl w.heap.size w).alloc ak (.cells (ints (List.replicate ops.length 0)).toArray 3));obtain ⟨e,aQ⟩:∃e,w.heap.size=e:=⟨_,rfl⟩;generalize w.alloc (.cells (ints (List.replicate ops.length 0)).toArray 3)=bc at q i ⊢;rw [aQ] at q ak ⊢;have H:w.heap.size≤e:=by omega
 go_loopg [12] ops.length (fun g I wr=>∃(a:Nat) (d:List Int),a≤ops.length∧g=ops.length-a∧I= .int .i64 a∧Hid (d.length=ops.length)∧Hid (Q9 (ops.drop a) a d=zx ops)∧Hid (wr.heap[e]? =some (.cells (ints d).toArray 3 (0,0)))∧Hid (Below w.heap.size w wr))
 case atStart=>exact ⟨0,_,Nat.zero_le _,rfl,rfl,by simp [Hid],rfl,q,i⟩
 case round=>
  obtain ⟨a,d,k,al,rfl,am,an,l,J⟩:=hrel;clear q i
  by_cases m:a<ops.length
  ·obtain ⟨j,bd,rfl,ao,K⟩:=aN.out (by omega)
   obtain ⟨r,s,t,u,x,y⟩:=y8 K J ao rfl a m;have ap:=Z (List.drop_eq_getElem_cons m);have L:=Z (aO a m);have aq:=Z (aP a m);have M:=fun (aR:World) (z:Below w.heap.size w aR)=>y8 K z ao rfl a m
   generalize ops[a]=A at r s t u x y ap L aq M;have aS:=Z M;obtain ⟨aT,aU⟩:=qV l a (by have:=am.out;omega);have aV:=qd l;clear K M;have be:(0:Int)≤(a:Int):=by omega
   have bf:(a:Int)<(ops.length:Int):=by omega
   go_upto_region 6 with fail;have B:=Z (J.setCell (p:=⟨e,a,none⟩) H (.int .i64 a));have N:=Z (zo l a a);have C:(wr.setCell ⟨e,a,none⟩ (.int .i64 a)).heap.size=wr.heap.size:=by simp
   clear aT aU r s t u x y;generalize wr.setCell ⟨e,a,none⟩ (.int .i64 a)=ar at B N C ⊢;obtain ⟨r,s,t,u,x,y⟩:=aS.out ar B;go_wp2_with (go_at_call 94;go_must (refine (zfp A _).mono ?_;unfold qY;rintro X aW ⟨bg,rfl,au,av⟩;obtain ⟨bh,bi,rfl,aX,aw⟩:=qg au;have ax:=Z aw;have i:=Z av;clear aw au av));have ay:=Z ((i.block e (by rw [C];exact aV)).trans N);have aY:=Z (B.trans (i.mono B.size));have az:∀(g:Nat),ar.heap.size≤g→e<g:=fun g al=>by rw [C] at al;omega
   have aZ:=Z az;have aA:(d.set a (a:Int)).length=ops.length:=by simp;exact am
   have aB:=Z aA;obtain ⟨n,O⟩:∃n,d.set a (a:Int)=n:=⟨_,rfl⟩;rw [O] at ay aB;have a0:=Z O;obtain ⟨c,D⟩:∃c,YH A=c:=⟨_,rfl⟩;rw [D] at ax aX L ⊢;have a1:=Z D;have bj:c.length≤2:=by rw [←D];exact zig A
   clear az aA O D r s t u x y N C;go_loopg [26] c.length (fun g I Q=>∃(b:Nat) (f:List Int),b≤c.length∧g=c.length-b∧I= .int .i64 b∧Hid (f=(c.take b).foldl (fun d E=>d.set E.toNat a) n)∧Hid (f.length=ops.length)∧Hid (Q.heap[e]? =some (.cells (ints f).toArray 3 (0,0)))∧Hid (∀j,j≠e→Q.heap[j]? =aW.heap[j]?)∧Hid (Below w.heap.size w Q))
   case atStart=>exact ⟨0,n,Nat.zero_le _,rfl,rfl,rfl,aB,ay,fun _ _=>rfl,aY⟩
   case round=>
    obtain ⟨b,f,bk,bl,rfl,aC,F,R,aD,aE⟩:=hrel
    by_cases aF:b<c.length
    ·obtain ⟨S,rfl,aG,a2,aH⟩:=ax.out (by omega)
     have bm:=aZ.out S aG;have aI:=L.out c[b] (List.getElem_mem _);have a3:wr.cell? ⟨S,b,none⟩=some (.int .i64 c[b]):=by
      have T:=aH b (by omega);rw [yY c b aF] at T;simp only [World.cell?] at T ⊢;rw [aD.out S (by omega)];exact T
     have U:=Z (show (c.take (b+1)).foldl (fun d E=>d.set E.toNat (a:Int)) n=f.set c[b].toNat a by rw [List.take_succ_eq_append_getElem aF,List.foldl_append,←aC.out];rfl);generalize c[b]=E at a3 aI U;obtain ⟨aJ,bn⟩:=aI;obtain ⟨o,rfl⟩:=Int.eq_ofNat_of_zero_le aJ;have a4:o<f.length:=by have:=F.out;omega
     obtain ⟨bo,bp⟩:=qV R o a4;have bq:o<ops.length:=by have:=F.out;omega
     rw [Int.toNat_natCast] at U;clear aH aG a2 aJ
     as_aux_lemma=>
      go_wp2_with fail;go_roundg (c.length-(b+1))
      case measure=>omega
      case rel=>
       refine ⟨b+1,_,by omega,rfl,by go_num,U.symm,by simp [Hid];exact F,zo R o a,fun j z=>(qe z _).trans (aD j z),aE.setCell (p:=⟨e,o,none⟩) H _⟩
    ·obtain rfl:b=c.length:=by omega
     have a5:=Z (show f=QO d a A by rw [aC.out,List.take_length,QO,←aq.out,a1.out,a0.out])
     as_aux_lemma=>
      go_wp2_with fail;go_roundg (ops.length-(a+1))
      case measure=>omega
      case rel=>
       refine ⟨a+1,f,by omega,rfl,by go_num,F,?_,R,aE⟩;unfold Hid;rw [←an.out,ap.out,Q9,a5.out]
  ·obtain rfl:a=ops.length:=by omega
   have a6:=Z (show d=zx ops by rw [←an.out,List.drop_length,Q9]);have V:=Z (zc9 ops);rw [a6.out] at l;go_wp2_with fail;go_ret;refine ⟨_,rfl,?_,J⟩;exact ⟨by simp [ints];exact V,.inr ⟨e,_,_,rfl,H,l,Nat.le_refl _,by unfold maxLen;omega,by simp [ints];exact V,List.take_of_length_le (by have:=V.out;simp [ints];omega)⟩⟩
def yq (b c:List Int)(i:Nat):Nat→List Int
 |0=>[]
 |a+1=>yq b c i a++(if (i:Int)<b.getD a 0 then [c.getD a 0] else [])
theorem zdS (a b:List Int)(i k:Nat):(yq a b i k).length≤k:=by
 induction k with
 |zero=>simp [yq]
 |succ k ih=>simp only [yq,List.length_append];split<;>simp<;>omega
theorem zbe (c b:List Int)(x:Int)(i:Nat):∀a,a≤b.length→yq c (b++[x]) i a=yq c b i a
 |0,_=>rfl
 |a+1,e=>by
  have d:(b++[x]).getD a 0=b.getD a 0:=by simp only [List.getD];rw [List.getElem?_append_left (by omega)]
  rw [yq,yq,zbe c b x i a (by omega),d]
def zdo (l:List Int)(s:Nat):Prop:=(∀a,a<s→(a:Int)∈l)∧(s:Int) ∉ l
theorem ziM (l:List Int)(n:Nat)(d:∀b,b<n→(b:Int)∈l):n≤l.length:=by
 have e:∀a,a≤n→a≤Qa (fun b=>l.count (b:Int)) a:=by
  intro a f
  induction a with
  |zero=>exact Nat.zero_le _
  |succ a ih=>
   have:=ih (by omega);have:=List.count_pos_iff.2 (d a (by omega));simp only [Qa];omega
 have c:=e n (Nat.le_refl _);rw [zcY] at c;exact Nat.le_trans c (List.length_filter_le _ _)
def zix (l:List Int):List Int:=l.map (·+1)
def RSl (e:List Int)(n:Nat)(b:List Int)(c:Int):Prop:=
 b.length=n∧(∀a,a<n→∃d:Nat,b.getD a 0=(d:Int)∧d≤a∧zdo (yq e b a a) d)∧c=zG (zix b)∧0≤c∧c≤n
theorem RSl.next {a:List Int}{n:Nat}{b:List Int}{d:Int}(f:RSl a n b d)(s:Nat)(g:zdo (yq a b n n) s)(h:s≤n):RSl a (n+1) (b++[(s:Int)]) (max d ((s:Int)+1)):=by
 obtain ⟨e,i,j,q,r⟩:=f;refine ⟨by simp [e],fun c t=> ?_,by rw [j];simp [zix,zG],by omega,by omega⟩
 by_cases k:c<n
 ·obtain ⟨l,m,o,p⟩:=i c k
  refine ⟨l,?_,o,by rw [zbe _ _ _ _ _ (by omega)];exact p⟩;rw [←m];simp only [List.getD];rw [List.getElem?_append_left (by omega)]
 ·obtain rfl:c=n:=by omega
  refine ⟨s,?_,h,by rw [zbe _ _ _ _ _ (by omega)];exact g⟩;simp only [List.getD];rw [←e,List.getElem?_append_right (Nat.le_refl _),Nat.sub_self];rfl
structure TSt (w:World)(B1:Nat)(last:List Int)(u:Value)(slots:List Int)(x:Value)(W:World):Prop where
 last:W.ownsRow w.heap.size 3 1 u last.length (ints last)
 lt:∀j,u.ownBlock=some j→j<B1
 slots:W.ownsRow B1 3 1 x slots.length (ints slots)
 ge:w.heap.size≤B1
 below:Below w.heap.size w W
theorem TSt.addS {e:List Int}{c:List Int}(a:TSt w h e u c x W)(f:W.grownBy A x.ownBlock)(g:A.ownsRow h 3 1 y (c.length+1) (ints c++[.int .i64 z])):TSt w h e u (c++[z]) y A:=
 ⟨zu a.last fun b d=>f.block b (a.last.lt b d).2 fun i=>by have:=a.lt b d;have:=(a.slots.lt b i.symm).1;omega,a.lt,by rw [List.length_append];simpa [ints] using g,a.ge,a.below.grown f a.below.size fun b d=>by have:=(a.slots.lt b d).1;have:=a.ge;omega⟩
theorem TSt.later {c:List Int}{d:List Int}(a:TSt w h c u d x W)(b:Below W.heap.size W A):TSt w h c u d x A:=
 ⟨Below.owns a.last b,a.lt,Below.owns a.slots b,a.ge,a.below.trans (b.mono a.below.size)⟩
structure USt (w:World)(B1:Nat)(last:List Int)(u:Value)(slots:List Int)(x:Value)(B2:Nat)(taken:List Int)(t:Value)(W:World):Prop where
 st:TSt w B1 last u slots x W
 lt:∀j,x.ownBlock=some j→j<B2
 taken:W.ownsRow B2 3 1 t taken.length (ints taken)
 ge:B1≤B2
theorem USt.start {a:List Int}{b:List Int}(c:TSt w h a u b x W)(d:h≤W.heap.size):USt w h a u b x W.heap.size [] (.slice none 0 0) W:=⟨c,fun e f=>(c.slots.lt e f).2,World.ownsRow_nil _ _ _ _,d⟩
theorem USt.add {i:List Int}{j:List Int}{e:Nat}{d:List Int}{t:Value}(a:USt w h i u j x e d t W)(f:W.grownBy A t.ownBlock)(k:A.ownsRow e 3 1 y (d.length+1) (ints d++[.int .i64 z])):USt w h i u j x e (d++[z]) y A:=
 ⟨⟨zu a.st.last fun b c=>f.block b (a.st.last.lt b c).2 fun g=>by have:=a.st.lt b c;have:=(a.taken.lt b g.symm).1;have:=a.ge;omega,a.st.lt,zu a.st.slots fun b c=>f.block b (a.st.slots.lt b c).2 fun g=>by have:=a.lt b c;have:=(a.taken.lt b g.symm).1;omega,a.st.ge,
  a.st.below.grown f a.st.below.size fun b c=>by have:=(a.taken.lt b c).1;have:=a.ge;have:=a.st.ge;omega⟩,a.lt,by rw [List.length_append];simpa [ints] using k,a.ge⟩
theorem zg6 (v:Value)(ops:List MOp)(w:World)(m:qK ops 65536 65536=true)(J:Arr w.heap.size w 6 v ops.length (qz ops)):
  Calls prog 27 #[v] w fun B C=>∃(i:Value) (c:List Int) (j:Int),B= .returned (.tuple #[i,.int .i64 j])∧RSl (zx ops) ops.length c j∧C.ownsRow w.heap.size 3 1 i c.length (ints c)∧Below w.heap.size w C:=by
 have aK:ops.length≤16384:=by simp only [qK,Bool.and_eq_true,decide_eq_true_eq] at m;exact m.1.2
 obtain ⟨aL,aM,rfl,aN,ah,ai,q⟩:=J.open;have aj:=Z J;have ak:=Z m;obtain ⟨d,D⟩:∃d,zx ops=d:=⟨_,rfl⟩;have V:d.length=ops.length:=by rw [←D];exact zc9 ops
 rw [D];have K:=Z V;clear V;have al:=Z D;clear J m ai q ah D;go_enter func27,ntmps27;go_upto_region 2 with (go_at_call 57;go_must (refine (zii _ ops _ ak aj).mono ?_;rw [al.out];rintro B r ⟨i,rfl,s,E⟩;replace s:r.ownsRow w.heap.size 3 1 i d.length (ints d):=(by rw [K.out];exact s);have L:=Z (show TSt w r.heap.size d i [] (.slice none 0 0) r from ⟨s,fun h t=>(s.lt h t).2,World.ownsRow_nil _ _ _ _,E.size,E⟩);have aO:=E.size;clear E s));generalize am:r.heap.size=F at L;have W:=Z (show F≤r.heap.size by omega);clear am;go_wp2_with fail;go_loopg [5,6,15] ops.length (fun u an ao ap wr=>∃(b:Nat) (c:List Int) (j:Int),b≤ops.length∧u=ops.length-b∧ap= .int .i64 b∧ao= .int .i64 j∧Hid (RSl d b c j)∧Hid (TSt w F d i c an wr)∧Hid (F≤wr.heap.size))
 case atStart=>exact ⟨0, [],0,Nat.zero_le _,rfl,rfl,rfl,Z ⟨rfl,fun b X=>absurd X (Nat.not_lt_zero _),rfl,by omega,by omega⟩,L,W⟩
 case round=>
  clear L W;obtain ⟨b,c,j,X,aP,rfl,rfl,G,n,aq⟩:=hrel
  by_cases aQ:b<ops.length
  ·have Y:c.length=b:=G.1
   have x:=Z Y;have M:=Z (USt.start n aq);generalize ar:wr.heap.size=N at M;have k:=Z (show N≤wr.heap.size by omega);clear ar Y;obtain ⟨au,av,rfl,aR,aS⟩:=n.last.form (by have:=K.out;omega);have aT:(0:Int)≤(b:Int):=by omega
   go_wp2_with fail;go_loopg [8,9] b (fun u aw ax aa=>∃a:Nat,a≤b∧u=b-a∧ax= .int .i64 a∧Hid (USt w F d (.slice (some ⟨au,0,none⟩) d.length av) c u5 N (yq d c b a) aw aa)∧Hid (N≤aa.heap.size))
   case atStart=>exact ⟨0,Nat.zero_le _,rfl,rfl,M,k⟩
   case round=>
    clear M k n;obtain ⟨a,aU,aV,rfl,f,k⟩:=hrel
    by_cases aW:a<b
    ·have ay:a<d.length:=by have:=K.out;omega
     have aX:(0:Int)≤(a:Int):=by omega
     have aY:(a:Int)<(d.length:Int):=by omega
     have aZ:(a:Int)<(c.length:Int):=by have:=x.out;omega
     have az:=Q3 f.st.last a ay;obtain ⟨y,O⟩:∃y,d.getD a 0=y:=⟨_,rfl⟩;rw [O] at az;have ab:=Z O;clear O
     by_cases o:(b:Int)<y
     ·have aA:decide ((b:Int)<y)=true:=by simpa using o
      obtain ⟨a0,a1,rfl,a2,a3⟩:=f.st.slots.form (by have:=x.out;omega);have aB:=Q3 f.st.slots a (by have:=x.out;omega);obtain ⟨P,q⟩:∃P,c.getD a 0=P:=⟨_,rfl⟩;rw [q] at aB;have Q:=Z (show yq d c b (a+1)=yq d c b a++[P] by rw [yq,ab.out,q,if_pos o]);have ac:=zdS d c b a;clear q o;go_wp2_with (at_builtin;refine yS rfl _ _ 24 rfl 3 _ 1 8 underlying24 qD rfl (by decide) #[_] _ _ _ _ f.taken rfl rfl rfl (by intro i z;simp at z;subst z;rfl) k (by omega) (by unfold maxLen;omega) ?_;intro aC aD A l _;go_must (have aE:=Z (f.add l A);have R:=Z (Nat.le_trans k l.size);clear A l));go_roundg (b-(a+1))
      case measure=>omega
      case rel=>exact ⟨a+1,by omega,rfl,by go_num,by rw [Q.out];exact aE,R⟩
     ·have aA:decide ((b:Int)<y)=false:=by simpa using o
      have Q:=Z (show yq d c b (a+1)=yq d c b a by rw [yq,ab.out,if_neg o,List.append_nil]);clear o;go_wp2_with fail;go_roundg (b-(a+1))
      case measure=>omega
      case rel=>exact ⟨a+1,by omega,rfl,by go_num,by rw [Q.out];exact f,k⟩
    ·obtain rfl:a=b:=by omega
     have ac:=zdS d c a a;obtain ⟨e,S⟩:∃e,yq d c a a=e:=⟨_,rfl⟩;rw [S] at f ac;have aF:=Z S;clear S;go_wp2_with fail;obtain ⟨T,H⟩:∃T:World,T=wr:=⟨_,rfl⟩;go_loopg [10] e.length (fun u aG aH=>∃I:Nat,I≤e.length∧u=e.length-I∧aG= .int .i64 I∧Hid (∀h,h<I→(h:Int)∈e)∧aH=T)
     case atStart=>exact ⟨0,Nat.zero_le _,rfl,rfl,Z (fun h t=>absurd t (Nat.not_lt_zero _)),H.symm⟩
     case round=>
      obtain ⟨g,a4,a5,rfl,ad,ae⟩:=hrel;obtain rfl:=ae.trans H;have af:=Z H;clear ae H
      by_cases p:(g:Int)∈e
      ·have U:=Z (show decide ((g:Int)∈e)=true by simpa using p)
       have ag:=Z (show ∀h,h<g+1→(h:Int)∈e from fun h t=>by rcases Nat.lt_succ_iff_lt_or_eq.1 t with m | rfl;exact ad h m;exact p);have a6:=ziM e (g+1) ag;clear p;go_wp2_with (go_at_call 58;go_must (refine (zki _ e _ _ (Arr.of_owns f.taken)).mono ?_;rw [U.out];rintro B C ⟨rfl,rfl⟩));go_roundg (e.length-(g+1))
       case measure=>omega
       case rel=>exact ⟨g+1,by omega,rfl,by go_num,ag,by first | rfl | exact af | exact af.symm⟩
      ·have U:=Z (show decide ((g:Int)∈e)=false by simpa using p)
       have aI:=Z (show zdo e g from ⟨ad,p⟩);clear p;have a7:=G.2.2.2;go_wp2_with (first | (go_at_call 58;go_must (refine (zki _ e _ _ (Arr.of_owns f.taken)).mono ?_;rw [U.out];rintro B C ⟨rfl,rfl⟩)) | (at_builtin;refine yS rfl _ _ 24 rfl 3 _ 1 8 underlying24 qD rfl (by decide) #[_] _ _ _ _ f.st.slots rfl rfl rfl (by intro i z;simp at z;subst z;rfl) (by have:=k.out;have:=f.ge;omega) (by have:=x.out;omega) (by have:=x.out;unfold maxLen;omega) ?_;intro aC aD A l _;go_must (have aJ:=Z (f.st.addS l A);have R:=Z (Nat.le_trans (Nat.le_trans f.ge k) l.size);clear A l)))
       all_goals
        go_roundg (ops.length-(a+1))
        case measure=>omega
        case rel=>
         refine ⟨a+1,c++[(g:Int)],max j ((g:Int)+1),by omega,rfl,by go_num,?_,Z (G.next g (by rw [aF.out];exact aI) (by omega)),aJ,R⟩;exact congrArg (Value.int IntKind.i64) (by omega)
  ·obtain rfl:b=ops.length:=by omega
   go_wp2_with fail;go_ret2;exact ⟨_,c,j,rfl,G,qk n.slots n.ge,n.below⟩
end Go.Proofs.YtklofgfkaaoipaaGreatDoor
