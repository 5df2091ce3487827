/-
  THE CONTRACT of dag.builder's made, without options.
-/
import Derived.Test.YtklofgfkaaoipaaGreatDoorMDagPlain
import Derived.Test.YtklofgfkaaoipaaGreatDoorMParsePlain
import Derived.Test.YtklofgfkaaoipaaGreatDoorMLowPlain
import Derived.Test.YtklofgfkaaoipaaGreatDoorMTypePlain
import Derived.Test.YtklofgfkaaoipaaGreatDoorMChk7
import Derived.Test.YtklofgfkaaoipaaGreatDoorMHd
set_option maxHeartbeats 16000000
set_option maxRecDepth 100000
set_option linter.unusedSimpArgs false
set_option linter.unusedVariables false
namespace Go.Proofs.YtklofgfkaaoipaaGreatDoor
open Go.RowKit Go.Proofs.Tryz
variable {B C M m p P O T:Nat}{h A D E X Q R:Value}{F G I J Y:List Value}{b:DB}{L N aa:List (List Int)}{W U ab:World}{H l:List Nat}{K:List MNode}
theorem zk4:(prog.info? 154).map (fun a=>(a.zero,a.size,a.bytes))=some (some (.agg #[.int .i64 0,.slice none 0 0,.slice none 0 0,.int .i64 0,.int .i64 0,.int .i64 0,.slice none 0 0]),7,104):=by kernel_rfl
abbrev ndO (n:MNode)(a b:Value):Obj:= .cells #[.int .i64 n.kind,a,b,.int .i64 n.party,.int .i64 n.input,.int .i64 n.k,.slice none 0 0] 154
theorem zcW (p:BuSt B C M m h A D E F G b L N W)(j:MNode)(O:j.elems=[])(ad:b.nodes.length<1000)(x y:Value)
  (t:W.ownsRow B 3 1 x j.shape.length (ints j.shape)) (u:W.ownsRow B 3 1 y j.args.length (ints j.args)):
  Calls prog 68 #[.pointer (some ⟨C,0,none⟩),ndV j x y (.slice none 0 0)] W fun z P=>z= .returned (.int .i64 b.nodes.length)∧BMod B W P∧∃ae,BuSt B C M m ae A D E (F++[x]) (G++[y]) {b with nodes:=b.nodes++[j]} L N P:=by
 have af:=Z p;have aq:=p.lt;have ag:=p.blt;obtain ⟨⟨ar,au,av,aw,-,-,-,-⟩,Q⟩:=p.cells;have ah:=Q 3;obtain ⟨R,S,rfl,ax,-⟩:=qg p.nodes;obtain ⟨e,a,c,f,g,i,ay⟩:=j;simp only at O t u;obtain ⟨k,l,rfl,-,-⟩:=qg t;obtain ⟨n,o,rfl,-,-⟩:=qg u;subst O;unfold ndV;simp only;have ai:=Z t;have aj:=Z u;have H:=qm W (.cells #[.pointer (some ⟨C,0,none⟩)] 139) (ndO ⟨e,a,c,f,g,i, []⟩ (.slice k a.length l) (.slice n c.length o));have r:=Z (heap_alloc2_old W (.cells #[.pointer (some ⟨C,0,none⟩)] 139) (ndO ⟨e,a,c,f,g,i, []⟩ (.slice k a.length l) (.slice n c.length o)));have T:=Z (heap_alloc2_new W (.cells #[.pointer (some ⟨C,0,none⟩)] 139) (ndO ⟨e,a,c,f,g,i, []⟩ (.slice k a.length l) (.slice n c.length o)));have v:=Z H;have q:=Z (af.later H);have U:((W.alloc (.cells #[.pointer (some ⟨C,0,none⟩)] 139)).alloc (ndO ⟨e,a,c,f,g,i, []⟩ (.slice k a.length l) (.slice n c.length o))).heap.size=W.heap.size+2:=by simp
 clear p t u Q H;go_enter func68,ntmps68;go_upto_region 7 with fail;generalize (W.alloc (.cells #[.pointer (some ⟨C,0,none⟩)] 139)).alloc (ndO ⟨e,a,c,f,g,i, []⟩ (.slice k a.length l) (.slice n c.length o))=d at T v q r U ⊢;have ak:=q.blt;obtain ⟨az,aA,aB,aC,aD,aE,aF⟩:=(show d.cell? ⟨W.heap.size+1,0,none⟩=some (.int .i64 e)∧d.cell? ⟨W.heap.size+1,1,none⟩=some (.slice k a.length l)∧d.cell? ⟨W.heap.size+1,2,none⟩=some (.slice n c.length o)∧d.cell? ⟨W.heap.size+1,3,none⟩=some (.int .i64 f)∧d.cell? ⟨W.heap.size+1,4,none⟩=some (.int .i64 g)∧d.cell? ⟨W.heap.size+1,5,none⟩=some (.int .i64 i)∧d.cell? ⟨W.heap.size+1,6,none⟩=some (.slice none 0 0) by
  have al:=T.out;refine ⟨?_,?_,?_,?_,?_,?_,?_⟩<;>simp [World.cell?,al])
 have aG:d.cell? ⟨W.heap.size,0,none⟩=some (.pointer (some ⟨C,0,none⟩)):=by simp [World.cell?,r.out]
 have aH:=q.cells.1.2.2.2.1;have aI:C<d.heap.size:=by omega
 have am:W.heap.size<d.heap.size:=by omega
 have aJ:W.heap.size+1<d.heap.size:=by omega
 clear U;go_cut [] from 45 to 57 (fun s=>∃(V:Nat) (X:Option Addr),Hid (BMod B W s)∧Hid (s.heap[W.heap.size]? =some (.cells #[.pointer (some ⟨C,0,none⟩)] 139 (0,0)))∧Hid (BuSt B C M m (.slice X (b.nodes.length+1) V) A D E (F++[.slice k a.length l]) (G++[.slice n c.length o]) {b with nodes:=b.nodes++[⟨e,a,c,f,g,i, []⟩]} L N s))
 case first=>
  first | (go_region_law (refine yo (by rfl) _ _ 74 (by rfl) 154 _ 7 104 underlying74 zk4 rfl (by decide) #[.int .i64 e,.slice k a.length l,.slice n c.length o,.int .i64 f,.int .i64 g,.int .i64 i,.slice none 0 0] b.nodes.length B (.slice R b.nodes.length S) (ncl b.nodes F G) (show d.drew.ownsRow _ _ _ _ _ _ from q.nodes) (by rfl) (by rfl) rfl (by simp [Value.oneCell']) ak (by omega) (by unfold maxLen;omega) ?_;intro an ao I Y J;have w:=(q.later (Below.refl _ _).drew).add ⟨e,a,c,f,g,i, []⟩ ad rfl J (Below.owns ai v.drew) (Below.owns aj v.drew) Y;have ah:=(show I.frozen? ⟨C,3,none⟩=false by simp [World.frozen?,w.1]);have k4:=(show I.cell? ⟨C,3,none⟩=some (.slice R b.nodes.length S) by simp [World.cell?,w.1]);have aa:=(J.block W.heap.size (show W.heap.size<d.drew.heap.size from am) (fun z=>yz q.nodes r (by decide) z.symm)).trans r;have aK:I.cell? ⟨W.heap.size,0,none⟩=some (.pointer (some ⟨C,0,none⟩)):=(by simp [World.cell?,aa]);have K:=Z w;clear Y J w aa)) | (fail "region")
  all_goals
   go_wp2_with fail;go_meet;exact ⟨ao,some ⟨an,0,none⟩,(BMod.below v.drew ag).trans K.2.1,K.2.1.ty _ _ _ _ r (by decide) (by decide),K.2.2⟩
 case rest=>
  rename World=>s
  obtain ⟨V,X,ab,ap,ac⟩:=hcut;have aL:s.cell? ⟨W.heap.size,0,none⟩=some (.pointer (some ⟨C,0,none⟩)):=by simp [World.cell?,ap.out]
  have aM:=ac.cells.1.2.2.2.1;have aN:=ab.low.size;go_wp2_with fail;go_ret;exact ⟨by simp,ab,_,ac⟩
theorem BMod.setNew {d:World}(b:BMod B W d)(n:B≤W.heap.size)(o:W.heap.size≤p)(j:Nat)(x:Value):BMod B W (d.setCell ⟨p,j,none⟩ x):=
 ⟨b.low.setCell (p:=⟨p,j,none⟩) (show B≤p by omega) x,fun c e f g a h i=>(qe (fun k=>by have:=qd a;omega) _).trans (b.ty c e f g a h i),fun c l m a=>(qe (fun k=>by have:=qd a;omega) _).trans (b.mp c l m a)⟩
theorem zas (b:List MExpr)(names:List (List Nat×Nat))(shapes:List (List Int)):∀(e:List Nat) (a:Nat) (c:List MNode) (d:List Nat),(Yk b names shapes e a c d).2.length=d.length∧(Yk b names shapes e a c d).1.length≤c.length+e.length
 |[],_,c,d=>⟨rfl,Nat.le_refl _⟩
 |g::e,a,c,d=>by
  unfold Yk
  split
  ·have:=zas b names shapes e (a+1) c d
   exact ⟨this.1,by simp only [List.length_cons];omega⟩
  ·simp only
   split
   ·have:=zas b names shapes e (a+1) c (d.set a ((names.lookup (b.getD a ⟨0, [],0, [],0⟩).name).getD 0))
    rw [List.length_set] at this;exact ⟨this.1,by simp only [List.length_cons];omega⟩
   ·rename_i h i
    have:=zas b names shapes e (a+1) (c++[⟨zck (b.getD a ⟨0, [],0, [],0⟩).kind,shapes.getD a [],(b.getD a ⟨0, [],0, [],0⟩).args.map fun f=>(d.getD f 0:Nat),0,0,if (b.getD a ⟨0, [],0, [],0⟩).kind=9 then (b.getD a ⟨0, [],0, [],0⟩).num else 0,if (b.getD a ⟨0, [],0, [],0⟩).kind=1 then [(b.getD a ⟨0, [],0, [],0⟩).num] else []⟩]) (d.set a c.length);rw [List.length_set,List.length_append] at this;simp only [List.length_cons,List.length_nil] at this ⊢;exact ⟨this.1,by omega⟩
theorem zhu {a:List MExpr}{names:List (List Nat×Nat)}{shapes:List (List Int)}{d:List Nat}{i:Nat}{c:List MNode}{e:List MNode×List Nat}(b:Yk a names shapes (m::d) i c H=e)(j:i<a.length)(h:a[i].kind≠1∧a[i].kind≠9):
  (m=0∧Yk a names shapes d (i+1) c H=e)∨
  (m≠0∧a[i].kind=2∧Yk a names shapes d (i+1) c (H.set i ((names.lookup a[i].name).getD 0))=e)∨
  (m≠0∧a[i].kind≠2∧Yk a names shapes d (i+1) (c++[⟨zck a[i].kind,shapes.getD i [],a[i].args.map fun k=>(H.getD k 0:Nat),0,0,0, []⟩]) (H.set i c.length)=e):=by
 have l:a.getD i ⟨0, [],0, [],0⟩=a[i]:=by simp [List.getD,j]
 unfold Yk at b;simp only [l] at b
 split at b
 ·rename_i f
  exact .inl ⟨f,b⟩
 ·rename_i f
  split at b
  ·rename_i g
   exact .inr (.inl ⟨f,g,b⟩)
  ·rename_i g
   rw [if_neg h.2,if_neg h.1] at b;exact .inr (.inr ⟨f,g,by simpa using b⟩)
theorem BuSt.rebuild {d:World}(a:BuSt B C M m h A D E F G b L N W)(c:BMod B W d)
  (g:d.heap[C]? =some (.cells #[.bool false,.bool false,.bool false,X,A,D,E,.map (some M)] 142 (0,0))) (nodes:d.ownsRow B 154 7 X (b.nodes++K).length (ncl (b.nodes++K) (F++I) (G++J)))
  (i:qj B d I (K.map (·.shape))) (j:qj B d J (K.map (·.args))) (k:∀l∈K,l.elems=[]) (le:(b.nodes++K).length≤1000):
  BuSt B C M m X A D E (F++I) (G++J) {b with nodes:=b.nodes++K} L N d:=by
 refine ⟨g,nodes,?_,?_,c.owns a.outs (by decide) (by decide),c.sh a.in0,c.sh a.in1,?_,a.hC,a.hM,a.b0,?_,?_,le⟩
 ·rw [List.map_append];exact (c.nest a.sh).append i
 ·rw [List.map_append];exact (c.nest a.ar).append j
 ·obtain ⟨n,e,o⟩:=a.map
  exact ⟨n,c.smap e,o⟩
 ·unfold yC;rw [c.low.cell (p:=⟨0,0,none⟩) a.b0];exact a.eT
 ·intro f q
  rcases List.mem_append.1 q with e | e
  ·exact a.el f e
  ·exact k f e
theorem qj.snoc {v:Value}{r:List Int}(a:qj B W Y aa)(b:W.ownsRow B 3 1 v r.length (ints r)):qj B W (Y++[v]) (aa++[r]):=a.append (show qj B W [v] [r] from ⟨b,trivial⟩)
theorem qj.set (a:qj B W Y aa)(b:p<B)(j:Nat)(x:Value):qj B (W.setCell ⟨p,j,none⟩ x) Y aa:=
 a.kept (qh W p j x) fun c d=>by
  obtain rfl:p=c:=by simpa using d
  exact .inl b
structure LSt (B C M P bl T:Nat)(nv ov i0 i1:Value)(shs ars shN arN:List Value)(b:DB)(nN:List MNode)(pl l:List Nat)(sv ev:Value)(W wv:World):Prop where
 mod:BMod B W wv
 blk:wv.heap[C]? =some (.cells #[.bool false,.bool false,.bool false,nv,ov,i0,i1,.map (some M)] 142 (0,0))
 nodes:wv.ownsRow B 154 7 nv (b.nodes++nN).length (ncl (b.nodes++nN) (shs++shN) (ars++arN))
 sh:qj (P+1) wv shN (nN.map (·.shape))
 ar:qj (P+1) wv arN (nN.map (·.args))
 el:∀n∈nN,n.elems=[]
 pla:wv.heap[P]? =some (.cells (ints (pl.map Int.ofNat)).toArray 3 (0,0))
 inn:wv.heap[bl]? =some (.cells (ints (l.map Int.ofNat)).toArray 3 (0,0))
 box:wv.heap[T]? =some (.cells #[sv,ev] 71 (0,0))
 hP:W.heap.size≤P
 hbl:bl<P
 hB:B≤W.heap.size
theorem LSt.later (a:LSt B C M P O T h A D E F G I J b K H l Q R W U)(c:Below U.heap.size U ab):
  LSt B C M P O T h A D E F G I J b K H l Q R W ab:=
 ⟨a.mod.trans (BMod.below c (Nat.le_trans a.hB a.mod.low.size)),(c.block _ (qd a.blk)).trans a.blk,Below.owns a.nodes c,a.sh.later c,a.ar.later c,a.el,(c.block _ (qd a.pla)).trans a.pla,(c.block _ (qd a.inn)).trans a.inn,(c.block _ (qd a.box)).trans a.box,a.hP,a.hbl,a.hB⟩
theorem LSt.put (a:LSt B C M P O T h A D E F G I J b K H l Q R W U)(k x:Nat):
  LSt B C M P O T h A D E F G I J b K (H.set k x) l Q R W (U.setCell ⟨P,k,none⟩ (.int .i64 x)):=by
 have d:=qh U P k (.int .i64 x);refine ⟨a.mod.setNew a.hB a.hP k _,(d.block C (qd a.blk) (fun e=> ?_)).trans a.blk,qp a.nodes d (Off.block a.pla (by decide)),a.sh.set (Nat.lt_succ_self _) _ _,a.ar.set (Nat.lt_succ_self _) _ _,a.el,?_,(qe (by have:=a.hbl;omega) _).trans a.inn,(d.block T (qd a.box) (fun e=> ?_)).trans a.box,a.hP,a.hbl,a.hB⟩
 ·have c:=a.blk
  obtain rfl:C=P:=by simpa using e
  rw [a.pla] at c;simp only [Option.some.injEq,Obj.cells.injEq] at c;exact absurd c.2.1 (by decide)
 ·rw [List.map_set];exact zo a.pla k x
 ·have c:=a.box
  obtain rfl:T=P:=by simpa using e
  rw [a.pla] at c;simp only [Option.some.injEq,Obj.cells.injEq] at c;exact absurd c.2.1 (by decide)
theorem LSt.bu {c:Value}(a:LSt B C M P O T h A D E F G I J b K H l Q R W U)(d:BuSt B C M m c A D E F G b L N W)(e:(b.nodes++K).length≤1000):
  BuSt B C M m h A D E (F++I) (G++J) {b with nodes:=b.nodes++K} L N U:=
 d.rebuild a.mod a.blk a.nodes (a.sh.base (by have:=a.hP;have:=a.hB;omega)) (a.ar.base (by have:=a.hP;have:=a.hB;omega)) a.el e
theorem LSt.more {g i:Value}{d:MNode}{e:World}(a:LSt B C M P O T h A D E F G I J b K H l Q R W e)(c:BMod B e ab)
  (j:BuSt B C M m X A D E ((F++I)++[g]) ((G++J)++[i]) {b with nodes:=(b.nodes++K)++[d]} L N ab) (k:d.elems=[]) (n:e.ownsRow (P+1) 3 1 g d.shape.length (ints d.shape)) (o:e.ownsRow (P+1) 3 1 i d.args.length (ints d.args)):
  LSt B C M P O T X A D E F G (I++[g]) (J++[i]) b (K++[d]) H l Q R W ab:=
 ⟨a.mod.trans c,j.blk,by have:=j.nodes;simp only [List.append_assoc] at this ⊢;exact this,by rw [List.map_append];exact (c.nest a.sh).snoc (c.owns n (by decide) (by decide)),by rw [List.map_append];exact (c.nest a.ar).snoc (c.owns o (by decide) (by decide)),
  fun p q=>by
  rcases List.mem_append.1 q with f | f
  ·exact a.el p f
  ·simp at f;subst f;exact k,c.ty _ _ _ _ a.pla (by decide) (by decide),c.ty _ _ _ _ a.inn (by decide) (by decide),c.ty _ _ _ _ a.box (by decide) (by decide),a.hP,a.hbl,a.hB⟩
theorem zgm:∀a b,(callFunc 114 a).run prog b= .ok (.enter 114 a) b:=enters_of func114 (by kernel_rfl) rfl
theorem zgn:∀a b,(callFunc 116 a).run prog b= .ok (.enter 116 a) b:=enters_of func116 (by kernel_rfl) rfl
theorem zmu (v:Value)(l:List Int)(W:World)(a:Arr W.heap.size W 1 v l.length (ints l))(b:qN l≠0):Calls prog 114 (#[v]++#[]) W (qM (.bool false) W):=by
 show Calls prog 114 #[v] W _;have c:=Z a;have d:(qN l==0)=false:=by simpa using b
 obtain ⟨e,f,g,h,rfl,-,-,-⟩:=a.slots;clear a b;go_enter func114,ntmps114;go_wp2_with (go_at_call 34;refine (zB _ l _ c).mono ?_;rintro i j ⟨rfl,rfl⟩);go_ret;exact ⟨rfl,Below.refl _ _⟩
theorem zmv (a:Int)(n:Nat)(d:0≤a)(e:a<n)(tb:Nat)(b:Option Addr)(c:Nat)(W:World)(f:W.cell? ⟨tb,0,none⟩=some (.slice b n c)):
  Calls prog 116 (#[.int .i64 a]++#[.pointer (some ⟨tb,0,none⟩)]) W (qM (.bool false) W):=by
 show Calls prog 116 #[.int .i64 a,.pointer (some ⟨tb,0,none⟩)] W _;have g:¬a<0:=by omega
 have h:¬(n:Int)≤a:=by omega
 go_enter func116,ntmps116;go_wp2_with fail;go_ret;exact ⟨by simp_all,Below.refl _ _⟩
theorem zkh (v:Value)(l:List (List Int))(B:Nat)(w:World)(e:qO B w v l)(t:l.length≤1000)(f:∀g∈l,qN g≠0):
  Calls prog 113 #[v,.func (.func 114) #[] #[]] w (qM (.bool false) w):=by
 obtain ⟨b,h,d⟩:=e;have u:=d.length;obtain ⟨i,j,k,m,rfl,-,n,o⟩:=(Arr.of_owns h).slots;exact zoe _ #[] zgm i j k b.length m (fun a=>b.getD a .nilIface) w n (by omega) (fun a c=>(o a (by omega)).trans (by simp [List.getD,c])) (fun p a c q=>by
  have r:=d.get a c (by omega);have s:b.getD a .nilIface=b[a]:=by simp [List.getD,c]
  simp only [s];exact zmu _ l[a] p (Arr.of_owns (Below.owns r q)) (f _ (List.getElem_mem _)))
theorem zi1 {g:MGraph}(w:World)(k:GAt B w h A D E g F G)(aA:g.nodes.length≤64)(aB:g.in0.length+g.in1.length≤8)(Q:∀v∈g.in0,qN v≠0)(R:∀v∈g.in1,qN v≠0)(S:∀T∈g.outs,0≤T∧T<g.nodes.length)(aC:g.outs.length≤1000)
  (U:∀(q:World) (V:Nat),V<g.nodes.length→Below w.heap.size w q→Calls prog 115 #[.agg #[h,A,D,E],.int .i64 V] q (qM (.bool true) q)):
  Calls prog 72 #[.agg #[h,A,D,E]] w (qM .nilIface w):=by
 have x:=Z k;have ai:=Z U;have aj:=Z Q;have ak:=Z R;have al:=Z S;obtain ⟨f,i,rfl,-,-⟩:=qg k.nodes;obtain ⟨d,e,rfl,-,-⟩:=qg k.outs;obtain ⟨l,m,rfl⟩:=k.in0.form;obtain ⟨n,o,rfl⟩:=k.in1.form;have W:=(Below.refl w.heap.size w).alloc (Nat.le_refl _) (.cells #[.slice f g.nodes.length i,.slice d g.outs.length e,.slice l g.in0.length m,.slice n g.in1.length o] 76);have y:=Z W;have z:=Z (heap_alloc_new w (.cells #[.slice f g.nodes.length i,.slice d g.outs.length e,.slice l g.in0.length m,.slice n g.in1.length o] 76));have C:w.heap.size<(w.alloc (.cells #[.slice f g.nodes.length i,.slice d g.outs.length e,.slice l g.in0.length m,.slice n g.in1.length o] 76)).heap.size:=by simp
 have aD:¬(64:Int)<(g.nodes.length:Int):=by omega
 have aE:¬(8:Int)<(g.in0.length:Int)+(g.in1.length:Int):=by omega
 clear k U Q R S W;go_enter func72,ntmps72;go_wp2_with fail;generalize w.alloc (.cells #[.slice f g.nodes.length i,.slice d g.outs.length e,.slice l g.in0.length m,.slice n g.in1.length o] 76)=s at y z C ⊢;go_loopg [3,22] 2 (fun H I J wr=>∃a:Nat,a≤2∧H=2-a∧I= .bool false∧J= .int .i64 a∧Hid (Below s.heap.size s wr))
 case atStart=>exact ⟨0,by omega,rfl,by simp_all,rfl,Z (Below.refl _ _)⟩
 case round=>
  obtain ⟨a,am,an,rfl,rfl,p⟩:=hrel;rename World=>wr
  have K:=(p.block _ C).trans z;have aF:=Z K;obtain ⟨L,k1,k2,k3⟩:=(show wr.cell? ⟨w.heap.size,0,none⟩=some (.slice f g.nodes.length i)∧wr.cell? ⟨w.heap.size,1,none⟩=some (.slice d g.outs.length e)∧wr.cell? ⟨w.heap.size,2,none⟩=some (.slice l g.in0.length m)∧wr.cell? ⟨w.heap.size,3,none⟩=some (.slice n g.in1.length o) by refine ⟨?_,?_,?_,?_⟩<;>simp [World.cell?,K]);have X:=p.size;have Y:=Z (y.trans (p.mono (by omega)));clear K
  by_cases aa:a=0
  ·subst aa
   go_wp2_with (go_at_call 113;refine (zkh _ g.in0 B _ (x.in0.later Y) (by omega) aj).mono ?_;rintro M N ⟨rfl,b⟩;have j:=Z (p.trans (b.mono X));clear b);go_roundg 1
   case measure=>omega
   case rel=>exact ⟨1,by omega,rfl,rfl,by go_num,j⟩
  ·by_cases ab:a=1
   ·subst ab
    go_wp2_with (go_at_call 113;refine (zkh _ g.in1 B _ (x.in1.later Y) (by omega) ak).mono ?_;rintro M N ⟨rfl,b⟩;have j:=Z (p.trans (b.mono X));clear b);go_roundg 0
    case measure=>omega
    case rel=>exact ⟨2,by omega,rfl,rfl,by go_num,j⟩
   ·obtain rfl:a=2:=by omega
    clear aa ab L k1 k2 k3;go_wp2_with fail;go_loopg [3,5] g.nodes.length (fun H I J c=>∃a:Nat,a≤g.nodes.length∧H=g.nodes.length-a∧I= .bool false∧J= .int .i64 a∧Hid (Below s.heap.size s c))
    case atStart=>exact ⟨0,Nat.zero_le _,rfl,rfl,rfl,p⟩
    case round=>
     obtain ⟨a,am,an,rfl,rfl,t⟩:=hrel;rename World=>c
     have O:=(t.block _ C).trans z;obtain ⟨L,k1,k2,k3⟩:=(show c.cell? ⟨w.heap.size,0,none⟩=some (.slice f g.nodes.length i)∧c.cell? ⟨w.heap.size,1,none⟩=some (.slice d g.outs.length e)∧c.cell? ⟨w.heap.size,2,none⟩=some (.slice l g.in0.length m)∧c.cell? ⟨w.heap.size,3,none⟩=some (.slice n g.in1.length o) by refine ⟨?_,?_,?_,?_⟩<;>simp [World.cell?,O]);have ao:=t.size;have ap:w.heap.size<c.heap.size:=by omega
     have u:=Z (y.trans (t.mono (by omega)));have aG:=Z O;clear O
     by_cases aq:a<g.nodes.length
     ·have ac:=ai.out c a aq u
      have ar:=Z ac;have aH:(a:Int)<(g.nodes.length:Int):=by omega
      clear ac;go_wp2_with (go_at_call 115;refine ar.mono ?_;rintro M N ⟨rfl,b⟩;have j:=Z (t.trans (b.mono ao));clear b);go_roundg (g.nodes.length-(a+1))
      case measure=>omega
      case rel=>exact ⟨a+1,by omega,rfl,rfl,by go_num,j⟩
     ·obtain rfl:a=g.nodes.length:=by omega
      obtain ⟨au,av,aw,ax,ad,-,ae,af⟩:=(Arr.of_owns (Below.owns x.outs u)).slots;obtain ⟨rfl,rfl⟩:d=au∧e=ax:=by simpa using ad
      have ag:=zcm 116 #[.pointer (some ⟨w.heap.size,0,none⟩)] zgn d av aw g.outs.length e (fun r=> .int .i64 (g.outs.getD r 0)) c ae (by omega) (fun r P=>(af r (by omega)).trans (by simp [ints,List.getD,P])) (fun q r P ay=>by
       have ah:=al.out (g.outs.getD r 0) (by rw [List.getD_eq_getElem?_getD,List.getElem?_eq_getElem P];exact List.getElem_mem _);exact zmv _ g.nodes.length ah.1 ah.2 w.heap.size f i q ((ay.cell (p:=⟨w.heap.size,0,none⟩) ap).trans L))
      have az:=Z ag;clear ag ad ae af;go_wp2_with (go_at_call 106;refine az.mono ?_;rintro M N ⟨rfl,b⟩;have j:=Z (u.trans (b.mono u.size));clear b);go_ret;exact ⟨rfl,j⟩
end Go.Proofs.YtklofgfkaaoipaaGreatDoor
namespace Go.Proofs.YtklofgfkaaoipaaGreatDoor
open Go.Proofs.Tryz
variable {h:List MExpr}
theorem ZP :∀(b:List MStmt) (m:Nat) (d a:TS),(∀c∈b,c.kind=1∨c.kind=3∨(c.kind=2∧c.expr<h.length))→QU h b m d= .ok a→a.shapes.length=d.shapes.length
 |[],_,d,a,_,f=>by simp only [QU,Except.ok.injEq] at f;rw [f]
 |c::b,m,d,a,n,f=>by
  have g:=fun o i=>n o (List.mem_cons_of_mem _ i)
  rcases Z2 f (n c (by simp)) with ⟨-,-,-,j,k,-,e⟩ | ⟨-,-,p,j,i,k,e⟩ | ⟨-,-,e⟩
  ·have l:=Zg k
   rw [ZP b _ j a g e,l]
  ·have l:=Zg k
   rw [ZP b _ j a g e,l];exact Zf _ _ _ _ i
  ·exact ZP b _ d a g e
theorem zkR {b:List MStmt}{g:MGraph}(a:zeh b h= .ok g):
  ∃d c,zbc b h= .ok d∧(qL b 0).length+(qL b 1).length+(h.filter fun e=>e.kind != 2).length≤64∧Zh h d b ⟨[], [], [],0,0⟩= .ok c∧g=⟨c.nodes,c.outs,qL b 0,qL b 1⟩:=by
 unfold zeh at a
 split at a
 ·cases a
 ·rename_i d f
  split at a
  ·cases a
  ·rename_i j
   split at a
   ·cases a
   ·rename_i c i
    exact ⟨d,c,f,by omega,i,by simpa using a.symm⟩
def dIn (s:MStmt)(b:DB):DB:={b with nodes:=b.nodes++[⟨1,s.shape, [],s.party,if s.party=0 then b.n0 else b.n1,0, []⟩],names:=b.names++[(s.name,b.nodes.length)],n0:=if s.party=0 then b.n0+1 else b.n0,n1:=if s.party=0 then b.n1 else b.n1+1}
def dLt (a:List MExpr)(shapes:List (List Int))(s:MStmt)(b:DB):DB:={(zfl a shapes s.expr b).1 with names:=(zfl a shapes s.expr b).1.names++[(s.name,(zfl a shapes s.expr b).2)]}
def zi0 (s:MStmt)(b:DB):DB:={b with outs:=b.outs++[(((b.names.lookup s.name).getD 0:Nat):Int)]}
theorem zhv {shapes:List (List Int)}{a:MStmt}{l:List MStmt}{b d:DB}(c:Zh h shapes (a::l) b= .ok d):
  (a.kind=1→(dIn a b).nodes.length≤64∧Zh h shapes l (dIn a b)= .ok d)∧
  (a.kind=2→(dLt h shapes a b).nodes.length≤64∧Zh h shapes l (dLt h shapes a b)= .ok d)∧
  (a.kind=3→(zi0 a b).nodes.length≤64∧Zh h shapes l (zi0 a b)= .ok d):=by
 have j:Zh h shapes (a::l) b=if 64<(if a.kind=1 then dIn a b else if a.kind=2 then dLt h shapes a b else zi0 a b).nodes.length then .error 160 else Zh h shapes l (if a.kind=1 then dIn a b else if a.kind=2 then dLt h shapes a b else zi0 a b):=rfl
 rw [j] at c;have g:∀e,(if a.kind=1 then dIn a b else if a.kind=2 then dLt h shapes a b else zi0 a b)=e→e.nodes.length≤64∧Zh h shapes l e= .ok d:=fun e k=>by
  rw [k] at c
  by_cases i:64<e.nodes.length
  ·rw [if_pos i] at c;cases c
  ·rw [if_neg i] at c;exact ⟨by omega,c⟩
 exact ⟨fun f=>g _ (if_pos f),fun f=>g _ (by rw [if_neg (by omega),if_pos f]),fun f=>g _ (by rw [if_neg (by omega),if_neg (by omega)])⟩
theorem zfE {c d:Type}{l:List (List Nat×c)}{r:List (List Nat×d)}(a:l.map Prod.fst=r.map Prod.fst)(x:List Nat)(b:l.lookup x=none):r.lookup x=none:=by
 induction l generalizing r with
 |nil=>
  cases r with
  |nil=>rfl
  |cons e r=>simp at a
 |cons e l ih=>
  cases r with
  |nil=>simp at a
  |cons f r=>
   simp only [List.map_cons,List.cons.injEq] at a;simp only [List.lookup] at b ⊢;rw [←a.1]
   split at b
   ·cases b
   ·exact ih a.2 b
theorem ze8 {s b:TS}{x:List Nat}{l:List Int}(a:ZO s x l= .ok b):YI s.names x=none:=by
 unfold ZO at a
 split at a
 ·cases a
 ·rename_i c
  have d:=(not_or.1 c).1;simpa using d
theorem zgD (l:List (List Nat×Nat))(x y:List Nat)(p:Nat)(a:l.lookup x=none):(l++[(x,p)]).lookup y=if y=x then some p else l.lookup y:=by
 induction l with
 |nil=>
  simp only [List.nil_append,List.lookup]
  by_cases b:y=x
  ·subst b;simp
  ·have:(y==x)=false:=by simp [b]
   simp [this,b]
 |cons c l ih=>
  simp only [List.lookup] at a
  split at a
  ·cases a
  ·rename_i d
   simp only [List.cons_append,List.lookup]
   split
   ·rename_i e
    have f:y=c.1:=by simpa using e
    have g:x≠c.1:=by simpa using d
    rw [if_neg (by rw [f];exact fun h=>g h.symm)]
   ·exact ih a
end Go.Proofs.YtklofgfkaaoipaaGreatDoor
