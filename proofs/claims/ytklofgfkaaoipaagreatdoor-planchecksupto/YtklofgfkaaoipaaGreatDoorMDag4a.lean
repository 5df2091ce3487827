/-
  WORDS for dag.Build: a name more; the counters.
-/
import Derived.Test.YtklofgfkaaoipaaGreatDoorMDag3
import Derived.Test.YtklofgfkaaoipaaGreatDoorMDag2
import Derived.Test.YtklofgfkaaoipaaGreatDoorMChk7
import Derived.Test.YtklofgfkaaoipaaGreatDoorMMem
import Derived.Test.YtklofgfkaaoipaaGreatDoorMLowPlain
import Derived.Test.YtklofgfkaaoipaaGreatDoorMGate
import Derived.Test.YtklofgfkaaoipaaGreatDoorMDagPlain
import Derived.Deep.LoopGhost
import Derived.Test.YtklofgfkaaoipaaGreatDoorMHd
set_option maxHeartbeats 16000000
set_option maxRecDepth 100000
set_option linter.unusedSimpArgs false
set_option linter.unusedVariables false
namespace Go.Proofs.YtklofgfkaaoipaaGreatDoor
open Go.RowKit Go.Proofs.Tryz
variable {B C M m r ae ag L T p q:Nat}{D G h A H I af ah ai Q v:Value}{E F aj ak R ab:List Value}{b b':DB}{J K shapes:List (List Int)}{W ac ad w N U:World}{t:TypeId}{fr:Nat×Nat}{g:MGraph}{O:Int}{X:List MStmt}{Y:List MExpr}{aa:List Int}
theorem BuSt.name (a:BuSt B C M m D G h A E F b J K W)(U:m<1000)(x:List Nat)(p:Nat)(L:x.length≤10000)(N:∀i∈x,i<256)(O:b.names.lookup x=none):
  ∃c,(Instr.mapUpdate 140 (.map (some M)) (.string (qx x)) (.int .i64 p)).run prog W= .ok () c∧W.grownBy c (some M)∧BuSt B C M (m+1) D G h A E F {b with names:=b.names++[(x,p)]} J K c:=by
 obtain ⟨V,u,P⟩:=a.map;obtain ⟨c,Q,R,f⟩:=u.put (by omega) x L N (.int .i64 p);obtain ⟨X,⟨Y,aa,j,ab,ac,rfl⟩,ad⟩:=u;have k:∀(l:TypeId) (d:Nat),∀{n:Nat} {e:Value} {o:Nat} {q:List Value},W.ownsRow d l n e o q→c.ownsRow d l n e o q:=fun l d n e o q r=>zbt r j f
 have s:∀{g:List Value} {v:List (List Int)} {d:Nat},qj d W g v→qj d c g v:=fun r=>qj.map j f r
 have w:∀{e:Value} {y:List (List Int)},qO B W e y→qO B c e y:=fun ⟨g,S,i⟩=>⟨g,k _ _ S,s i⟩
 refine ⟨c,Q,f,⟨(f.block C a.lt (fun t=> ?_)).trans a.blk,k _ _ a.nodes,s a.sh,s a.ar,k _ _ a.outs,w a.in0,w a.in1,⟨_,R,fun z T=> ?_⟩,a.hC,a.hM,a.b0,?_,a.el,a.le⟩⟩
 ·obtain rfl:C=M:=by simpa using t
  have H:=a.blk;rw [j] at H;cases H
 ·simp only
  rw [zgD _ _ _ _ O]
  by_cases I:z=x
  ·simp [I]
  ·simp only [I,if_false];exact P z T
 ·unfold yC
  rw [←a.eT];refine World.cell?_of_block (f.block 0 (by have:=a.lt;have:=a.hC;have:=a.b0;omega) fun t=> ?_);have:=a.hM;have:=a.b0;simp at t;omega
theorem BuSt.out1 {f:World}{k:Value}{x:Int}(c:BuSt B C M m D (.slice none 0 0) h A E F b J K W)(v:b.outs=[])(e:W.grownBy f none)(w:f.ownsRow B 3 1 k 1 [.int .i64 x]):
  f.heap[C]? =some (.cells #[.bool false,.bool false,.bool false,D,.slice none 0 0,h,A,.map (some M)] 142 (0,0))∧
   BuSt B C M m D k h A E F {b with outs:=b.outs++[x]} J K (f.setCell ⟨C,4,none⟩ k):=by
 have d:=(e.block C c.lt (fun g=>by cases g)).trans c.blk;have i:=qh f C 4 k;have y:∀(n:TypeId) (o:Nat),n≠142→∀{p:Nat} {l:Value} {q:Nat} {r:List Value},W.ownsRow o n p l q r→(f.setCell ⟨C,4,none⟩ k).ownsRow o n p l q r:=fun n o z p l q r j=>qp (qp j e (Off.none _ _ _)) i (Off.block d (Ne.symm z))
 have t:∀{l:Value} {u:List (List Int)},qO B W l u→qO B (f.setCell ⟨C,4,none⟩ k) l u:=fun j=>(j.kept e (Off.none _ _ _) (Off.none _ _ _)).kept i (Off.block d (by decide)) (Off.block d (by decide))
 refine ⟨d,⟨by rw [heap_setCell d];rfl,y _ _ (by decide) c.nodes,(c.sh.kept e (Off.none _ _ _)).kept i (Off.block d (by decide)),(c.ar.kept e (Off.none _ _ _)).kept i (Off.block d (by decide)),?_,t c.in0,t c.in1,?_,c.hC,c.hM,c.b0,?_,c.el,c.le⟩⟩
 ·rw [v]
  exact qp w i (Off.block d (by decide))
 ·obtain ⟨G,j,H⟩:=c.map
  have I:=j.kept e (by simp);obtain ⟨S,⟨L,N,s,O,P,rfl⟩,Q⟩:=I;exact ⟨G,Q5.kept ⟨_,⟨L,N,s,O,P,rfl⟩,Q⟩ i (fun g=>by
   obtain rfl:M=C:=by simpa using g
   rw [d] at s;cases s),H⟩
 ·unfold yC
  rw [←c.eT];have R:0<W.heap.size:=by have:=c.lt;omega
  have j:=World.cell?_of_block (a:=⟨0,0,none⟩) (e.block 0 R (fun g=>by cases g));rw [←j];exact World.cell?_of_block (i.block 0 (by have:=e.size;omega) (fun g=>by have:=c.hC;have:=c.b0;simp at g;omega))
abbrev buO (a:Nat):Obj:= .cells #[.bool false,.bool false,.bool false,.slice none 0 0,.slice none 0 0,.slice none 0 0,.slice none 0 0,.map (some a)] 142
theorem BuSt.start {a:World}(m:B≤ac.heap.size)(n:0<B)(o:yC a)(c:Below ((ac.alloc (.map #[] 0)).alloc (buO ac.heap.size)).heap.size ((ac.alloc (.map #[] 0)).alloc (buO ac.heap.size)) a)(p:qO B a h J)(q:qO B a A K):
  a.heap[ac.heap.size+1]? =some (.cells #[.bool false,.bool false,.bool false,.slice none 0 0,.slice none 0 0,.slice none 0 0,.slice none 0 0,.map (some ac.heap.size)] 142 (0,0))∧
  BuSt B (ac.heap.size+1) ac.heap.size 0 (.slice none 0 0) (.slice none 0 0) h A [] [] ⟨[], [], [],0,0⟩ J K ((a.setCell ⟨ac.heap.size+1,5,none⟩ h).setCell ⟨ac.heap.size+1,6,none⟩ A):=by
 have t:((ac.alloc (.map #[] 0)).alloc (buO ac.heap.size)).heap.size=ac.heap.size+2:=by simp
 have b:a.heap[ac.heap.size+1]? =some (.cells #[.bool false,.bool false,.bool false,.slice none 0 0,.slice none 0 0,.slice none 0 0,.slice none 0 0,.map (some ac.heap.size)] 142 (0,0)):=
  (c.block _ (by omega)).trans (by have:=heap_alloc_new (ac.alloc (.map #[] 0)) (buO ac.heap.size);simpa only [World.size_alloc] using this)
 have d:=heap_setCell (j:=5) b h;have e:=qh a (ac.heap.size+1) 5 h;have f:=qh (a.setCell ⟨ac.heap.size+1,5,none⟩ h) (ac.heap.size+1) 6 A;have i:∀{k:Value} {l:List (List Int)},qO B a k l→qO B ((a.setCell ⟨ac.heap.size+1,5,none⟩ h).setCell ⟨ac.heap.size+1,6,none⟩ A) k l:=fun r=>
  (r.kept e (Off.block b (by decide)) (Off.block b (by decide))).kept f (Off.block d (by decide)) (Off.block d (by decide))
 refine ⟨b,⟨by rw [heap_setCell d];rfl,World.ownsRow_nil _ _ _ _,trivial,trivial,World.ownsRow_nil _ _ _ _,i p,i q,⟨fun _=>none,?_,fun u _=>rfl⟩,by omega,m,n,?_,by simp,by simp⟩⟩
 ·have s:=(((Q5.made ac).kept (yI ((Below.refl _ _).alloc (Nat.le_refl _) _)) (by simp)).kept (yI c) (by simp))
  exact (s.kept e (by simp)).kept f (by simp)
 ·unfold yC
  rw [←o];have v:=c.size;exact (World.cell?_of_block (f.block 0 (by rw [World.size_setCell];omega) (fun g=>by simp at g))).trans (World.cell?_of_block (e.block 0 (by omega) (fun g=>by simp at g)))
theorem BuSt.other (a:BuSt B C M m D G h A E F b J K W)(d:W.grownBy ad (some r))(w:B≤r){k:Array Value}(c:W.heap[r]? =some (.cells k t fr))
  (l:t≠142) (i:t≠154) (e:t≠3) (g:t≠24):BuSt B C M m D G h A E F b J K ad:=by
 refine ⟨(d.block C a.lt (fun f=> ?_)).trans a.blk,qp a.nodes d (Off.block c i),a.sh.kept d (Off.block c e),a.ar.kept d (Off.block c e),qp a.outs d (Off.block c e),a.in0.kept d (Off.block c g) (Off.block c e),a.in1.kept d (Off.block c g) (Off.block c e),?_,a.hC,a.hM,a.b0,?_,a.el,a.le⟩
 ·obtain rfl:C=r:=by simpa using f
  have e:=a.blk;rw [c] at e;simp only [Option.some.injEq,Obj.cells.injEq] at e;exact absurd e.2.1 l
 ·obtain ⟨n,⟨o,⟨p,q,j,s,u,v⟩,g⟩,i⟩:=a.map
  exact ⟨n,Q5.kept ⟨o,⟨p,q,j,s,u,v⟩,g⟩ d (fun f=>by
   obtain rfl:M=r:=by simpa using f
   rw [c] at j;cases j),i⟩
 ·unfold yC
  rw [←a.eT];exact World.cell?_of_block (d.block 0 (by have:=a.lt;have:=a.hC;have:=a.b0;omega) (fun f=>by have:=a.b0;simp at f;omega))
theorem BuSt.mapb (d:BuSt B C M m D G h A E F b J K W):∃a c,W.heap[M]? =some (Obj.map a c):=by
 obtain ⟨f,⟨g,⟨a,c,e,_⟩,_⟩,_⟩:=d.map;exact ⟨a,c,e⟩
theorem BuSt.ns (c:BuSt B C M m D G h A E F b J K W)(a:b'.nodes=b.nodes)(d:b'.names=b.names)(e:b'.outs=b.outs):BuSt B C M m D G h A E F b' J K W:=by
 obtain ⟨f,g,i,j,k,l,n,o,p,q,r,s,t,u⟩:=c;exact ⟨f,by rw [a];exact g,by rw [a];exact i,by rw [a];exact j,by rw [e];exact k,l,n,by rw [d];exact o,p,q,r,s,by rw [a];exact t,by rw [a];exact u⟩
structure BB (N C M m:Nat)(sv ev shv nv ov i0 i1:Value)(shapes:List (List Int))(shs ars:List Value)(b:DB)(in0 in1:List (List Int))(w W:World):Prop where
 bu:BuSt N C M m nv ov i0 i1 shs ars b in0 in1 W
 kt:W.heap[N]? =some (.cells #[sv,ev] 71 (0,0))
 ko:W.heap[N+1]? =some (.cells #[.bool false,.bool false,.bool false] 43 (0,0))
 kg:W.heap[N+1+1]? =some (.cells #[.slice none 0 0,.slice none 0 0,.slice none 0 0,.slice none 0 0] 76 (0,0))
 sh:qO 0 W shv shapes
 low:Below N w W
theorem BB.later (a:BB ae C M m H I af D G h A shapes E F b J K w W)(c:Below W.heap.size W ad):
  BB ae C M m H I af D G h A shapes E F b J K w ad:=
 ⟨a.bu.later c,(c.block _ (qd a.kt)).trans a.kt,(c.block _ (qd a.ko)).trans a.ko,(c.block _ (qd a.kg)).trans a.kg,a.sh.later c,a.low.trans (c.mono (Nat.le_of_lt (qd a.kt)))⟩
theorem BB.mod (a:BB ae C M m H I af D G h A shapes E F b J K w W)(c:BMod ae W ad)
  (d:BuSt ae C M ag ah ai h A aj ak b' J K ad):BB ae C M ag H I af ah ai h A shapes aj ak b' J K w ad:=
 ⟨d,c.ty _ _ _ _ a.kt (by decide) (by decide),c.ty _ _ _ _ a.ko (by decide) (by decide),c.ty _ _ _ _ a.kg (by decide) (by decide),c.sh a.sh,a.low.trans c.low⟩
theorem BB.grown (a:BB ae C M m H I af D G h A shapes E F b J K w W)(c:W.grownBy ad (some r))(y:ae+1+1<r)
  (l:(∃g i,W.heap[r]? =some (Obj.map g i))∨∃j f k,W.heap[r]? =some (Obj.cells j f k)∧f≠3∧f≠24) (n:BuSt ae C M ag ah ai h A aj ak b' J K ad):BB ae C M ag H I af ah ai h A shapes aj ak b' J K w ad:=by
 have o:qO 0 ad af shapes:=by
  rcases l with ⟨g,i,d⟩ | ⟨j,f,k,d,p,q⟩
  ·obtain ⟨s,t,u⟩:=a.sh
   exact ⟨s,zbt t d c,qj.map d c u⟩
  ·exact a.sh.kept c (Off.block d q) (Off.block d p)
 exact ⟨n,(c.block _ (qd a.kt) (fun e=>by simp at e;omega)).trans a.kt,(c.block _ (qd a.ko) (fun e=>by simp at e;omega)).trans a.ko,(c.block _ (qd a.kg) (fun e=>by simp at e;omega)).trans a.kg,o,
  a.low.grown c (Nat.le_of_lt (qd a.kt)) (fun v x=>by
  obtain rfl:r=v:=by simpa using x
  omega)⟩
def lkS (b:List (List Int)):List MStmt:=b.zipIdx.map fun a=>⟨1,0, [97+a.2%26],a.1,0,0⟩
def lkE (p:Nat):List MExpr:=(List.range p).map fun a=>⟨2, [97+a%26],0, [],0⟩
theorem zop (a:List (List Int)):(lkS a).length=a.length:=by simp [lkS]
theorem zko (p:Nat):(lkE p).length=p:=by simp [lkE]
theorem zhQ (a:List (List Int))(s:List Int):lkS (a++[s])=lkS a++[⟨1,0, [97+a.length%26],s,0,0⟩]:=by
 simp [lkS,List.zipIdx_append]
theorem zhP (p:Nat):lkE (p+1)=lkE p++[⟨2, [97+p%26],0, [],0⟩]:=by simp [lkE,List.range_succ]
theorem zle (a:List (List Int)):(lkS a).map (·.shape)=a:=by
 simp only [lkS,List.map_map];have:(MStmt.shape ∘ fun b:List Int×Nat=>(⟨1,0, [97+b.2%26],b.1,0,0⟩:MStmt))=Prod.fst:=rfl;rw [this];simp
theorem zbj (a:List (List Int)):zbT a=lkS a++[⟨2,0, [122], [],a.length,0⟩]:=rfl
theorem Zw (n:MNode)(m:Nat):zc2 n m=lkE m++[⟨zac n.kind, [],n.k.toNat,List.range m,0⟩]:=rfl
theorem zfZ {b:List Value}{c:List (List Int)}(d:qj B w b c):∀e:List Int,(∀a∈e,a.toNat<c.length)→qj B w (e.map fun a=>b.getD a.toNat .nilIface) (e.map fun a=>c.getD a.toNat [])
 |[],_=>trivial
 |a::i,g=>by
  have f:=g a (by simp);have h:a.toNat<b.length:=by rw [d.length];exact f
  refine ⟨?_,zfZ d i fun j k=>g j (by simp [k])⟩;have:=d.get a.toNat h f;simpa [List.getD,f,h] using this
theorem zgN :∀{d:List Value} {g:List (List Int)},qj B w d g→∀c∈d,∀a,c.ownBlock=some a→a<w.heap.size
 |[], [],_,c,b,_,_=>by cases b
 |_::_,_::_,e,c,b,a,f=>by
  rcases List.mem_cons.1 b with rfl | b
  ·exact (e.1.lt a f).2
  ·exact zgN e.2 c b a f
theorem zfT (B:Nat)(w:World):∀a,ZR B w (List.replicate a (.slice none 0 0)) ((lkE a).map fun b=>ints (b.args.map Int.ofNat))
 |0=>trivial
 |a+1=>by
  rw [zhP,List.map_append,List.replicate_succ'];exact (zfT B w a).append ⟨Arr.nil _ _ _,trivial⟩
theorem GAt.shapeAt (b:GAt B w D G h A g E F)(k:Nat)(c:k<g.nodes.length):
  ∃a d,D= .slice (some ⟨a,0,none⟩) g.nodes.length d∧a<w.heap.size∧w.cell? ⟨a,k * 7+1,none⟩=some (E.getD k .nilIface):=by
 have n:E.length=g.nodes.length:=by have:=b.sh.length;simpa using this
 have o:F.length=g.nodes.length:=by have:=b.ar.length;simpa using this
 obtain ⟨p,e,f,-,i⟩:=qg b.nodes;obtain ⟨a,rfl,-,j,l⟩:=i (by omega);obtain ⟨-,m,-⟩:=zgL g.nodes E F k c (by omega) (by omega);exact ⟨a,e,f,j,(l _ (by omega)).trans (m.trans (by simp [List.getD,show k<E.length by omega]))⟩
structure LkSt (E T:Nat)(kk:Int)(sv ev av:Value)(p q r:Nat)(ss:List MStmt)(es:List MExpr)(qs:List Int)(svs evs:List Value)(W5 wr:World):Prop where
 low:Below E W5 wr
 hET:E<T
 tb:wr.heap[T]? =some (.cells #[sv,ev] 71 (0,0))
 eb:wr.heap[E]? =some (.cells #[.int .i64 kk,.string (qx []),.int .u64 0,av,.int .i64 0] 146 (0,0))
 st:wr.ownsRow (T+1) 149 6 sv p (scl ss svs)
 ex:wr.ownsRow (T+1) 146 5 ev q (ecl es evs)
 ar:wr.ownsRow (T+1) 3 1 av r (ints qs)
 ls:svs.length=ss.length
 le:evs.length=es.length
theorem LkSt.start {a:World}(c:Below L N a)(b:a.heap[L]? =some (.cells #[.int .i64 O,.string (qx []),.int .u64 0,.slice none 0 0,.int .i64 0] 146 (0,0))):
  LkSt L a.heap.size O (.slice none 0 0) (.slice none 0 0) (.slice none 0 0) 0 0 0 [] [] [] [] [] N (a.alloc (.cells #[.slice none 0 0,.slice none 0 0] 71)):=
 ⟨c.alloc (Nat.le_of_lt (qd b)) _,qd b,heap_alloc_new _ _,QH _ b,World.ownsRow_nil _ _ _ _,World.ownsRow_nil _ _ _ _,World.ownsRow_nil _ _ _ _,rfl,rfl⟩
theorem LkSt.sz (a:LkSt L T O H I Q p q r X Y aa R ab N U):T<U.heap.size∧L≤U.heap.size:=by
 have:=qd a.tb;have:=a.hET;exact ⟨by assumption,by omega⟩
theorem LkSt.drew (a:LkSt L T O H I Q p q r X Y aa R ab N U):LkSt L T O H I Q p q r X Y aa R ab N U.drew:=
 ⟨a.low.drew,a.hET,a.tb,a.eb,a.st,a.ex,a.ar,a.ls,a.le⟩
theorem LkSt.stApp (a:LkSt L T O H I Q p q r X Y aa R ab N U)(s:MStmt)(u:Value)(c:U.grownBy ac H.ownBlock)
  (j:ac.ownsRow (T+1) 149 6 v (p+1) (scl X R++[.int .i64 s.kind,.int .i64 s.party,.string (qx s.name),u,.int .i64 s.expr,.int .i64 s.pos])):
  ac.heap[T]? =some (.cells #[H,I] 71 (0,0))∧LkSt L T O v I Q (p+1) q r (X++[s]) Y aa (R++[u]) ab N (ac.setCell ⟨T,0,none⟩ v):=by
 have f:=a.sz;have g:=a.hET;have h:∀b,b≤T→some b≠H.ownBlock:=fun b i k=>by have:=(a.st.lt b k.symm).1;omega
 have d:=(c.block T f.1 (h T (Nat.le_refl _))).trans a.tb;have l:=(c.block L (by omega) (h L (by omega))).trans a.eb;have m:=a.low.grown c f.2 (fun b i=>by have:=(a.st.lt b i).1;omega);have e:=qh ac T 0 v;refine ⟨d,m.setCell (p:=⟨T,0,none⟩) (Nat.le_of_lt g) _,g,by rw [heap_setCell d];rfl,(qe (by omega) _).trans l,?_,qp (qp a.ex c (Off.owned a.st (by decide))) e (Off.block d (by decide)),qp (qp a.ar c (Off.owned a.st (by decide))) e (Off.block d (by decide)),by simp [a.ls],a.le⟩;rw [zb9 _ _ _ _ a.ls];exact qp j e (Off.block d (by decide))
theorem LkSt.exApp (a:LkSt L T O H I Q p q r X Y aa R ab N U)(s:MExpr)(u:Value)(c:U.grownBy ac I.ownBlock)
  (k:ac.ownsRow (T+1) 146 5 v (q+1) (ecl Y ab++[.int .i64 s.kind,.string (qx s.name),.int .u64 s.num,u,.int .i64 s.pos])):
  (ac.heap[T]? =some (.cells #[H,I] 71 (0,0))∧ac.heap[L]? =some (.cells #[.int .i64 O,.string (qx []),.int .u64 0,Q,.int .i64 0] 146 (0,0)))∧LkSt L T O H v Q p (q+1) r X (Y++[s]) aa R (ab++[u]) N (ac.setCell ⟨T,1,none⟩ v):=by
 have f:=a.sz;have g:=a.hET;have h:∀b,b≤T→some b≠I.ownBlock:=fun b i l=>by have:=(a.ex.lt b l.symm).1;omega
 have d:=(c.block T f.1 (h T (Nat.le_refl _))).trans a.tb;have j:=(c.block L (by omega) (h L (by omega))).trans a.eb;have m:=a.low.grown c f.2 (fun b i=>by have:=(a.ex.lt b i).1;omega);have e:=qh ac T 1 v;refine ⟨⟨d,j⟩,m.setCell (p:=⟨T,1,none⟩) (Nat.le_of_lt g) _,g,by rw [heap_setCell d];rfl,(qe (by omega) _).trans j,qp (qp a.st c (Off.owned a.ex (by decide))) e (Off.block d (by decide)),?_,qp (qp a.ar c (Off.owned a.ex (by decide))) e (Off.block d (by decide)),a.ls,by simp [a.le]⟩;rw [zbU _ _ _ _ a.le];exact qp k e (Off.block d (by decide))
theorem LkSt.arApp (a:LkSt L T O H I Q p q r X Y aa R ab N U)(x:Int)(c:U.grownBy ac Q.ownBlock)
  (i:ac.ownsRow (T+1) 3 1 v (r+1) (ints aa++[.int .i64 x])):
  ac.heap[L]? =some (.cells #[.int .i64 O,.string (qx []),.int .u64 0,Q,.int .i64 0] 146 (0,0))∧LkSt L T O H I v p q (r+1) X Y (aa++[x]) R ab N (ac.setCell ⟨L,3,none⟩ v):=by
 have g:=a.sz;have j:=a.hET;have h:∀b,b≤T→some b≠Q.ownBlock:=fun b d k=>by have:=(a.ar.lt b k.symm).1;omega
 have l:=(c.block T g.1 (h T (Nat.le_refl _))).trans a.tb;have e:=(c.block L (by omega) (h L (by omega))).trans a.eb;have m:=a.low.grown c g.2 (fun b d=>by have:=(a.ar.lt b d).1;omega);have f:=qh ac L 3 v;have n:Off ac (T+1) 146 (some L):=fun b d=> .inl (by obtain rfl:L=b:=(by simpa using d);omega)
 refine ⟨e,m.setCell (p:=⟨L,3,none⟩) (Nat.le_refl _) _,j,(qe (by omega) _).trans l,by rw [heap_setCell e];rfl,qp (qp a.st c (Off.owned a.ar (by decide))) f (Off.block e (by decide)),qp (qp a.ex c (Off.owned a.ar (by decide))) f n,?_,a.ls,a.le⟩;rw [yd];exact qp i f (Off.block e (by decide))
theorem LkSt.cells (b:LkSt L T O H I Q p q r X Y aa R ab N U):
  (U.cell? ⟨T,0,none⟩=some H∧U.cell? ⟨T,1,none⟩=some I∧U.cell? ⟨L,0,none⟩=some (.int .i64 O)∧U.cell? ⟨L,1,none⟩=some (.string (qx []))∧U.cell? ⟨L,2,none⟩=some (.int .u64 0)∧U.cell? ⟨L,3,none⟩=some Q∧U.cell? ⟨L,4,none⟩=some (.int .i64 0))∧(∀a,U.frozen? ⟨T,a,none⟩=false)∧∀a,U.frozen? ⟨L,a,none⟩=false:=by
 have c:=b.tb;have d:=b.eb;refine ⟨⟨?_,?_,?_,?_,?_,?_,?_⟩,fun a=> ?_,fun a=> ?_⟩<;>simp [World.cell?,World.frozen?,c,d]
theorem LkSt.tree {e:Nat}{d:List (List Int)}(n:MNode)(o:zac n.kind=e)(u:n.k=0)(p:e≠7∧e≠14)(q:d.length=m)(v:m≤3)
  (f:LkSt L T e H I Q (m+1) (m+1) m (zbT d) (zc2 n m) ((List.range m).map Int.ofNat) (R++[.slice none 0 0]) (List.replicate m (.slice none 0 0)++[Q]) N U) (r:qj 0 U R d):
  TrAt U.heap.size U H I (zbT d) (zc2 n m) (R++[.slice none 0 0]) (List.replicate m (.slice none 0 0)++[Q]):=by
 have s:(zbT d).length=m+1:=by rw [zbj,List.length_append,zop,q];rfl
 have t:(zc2 n m).length=m+1:=by rw [Zw,List.length_append,zko];rfl
 have h:qj 0 U (R++[.slice none 0 0]) ((zbT d).map (·.shape)):=by
  rw [zbj,List.map_append,zle];exact r.append ⟨World.ownsRow_nil _ _ _ _,trivial⟩
 have i:∀j,97+j%26<256:=fun j=>by omega
 refine ⟨by rw [s];exact Arr.of_owns f.st,h,zgN h,by rw [t];exact Arr.of_owns f.ex,?_,?_,?_,?_,by omega,by omega⟩
 ·rw [Zw,List.map_append]
  refine (zfT _ _ _).append ⟨?_,trivial⟩;have:=Arr.of_owns f.ar;simpa [qP] using this
 ·intro k c
  rw [zbj] at c;rcases List.mem_append.1 c with a | a
  ·simp only [lkS,List.mem_map] at a
   obtain ⟨l,-,rfl⟩:=a;exact ⟨fun g b=>by simp at b;rw [b];exact i _,by simp⟩
  ·simp at a;subst a;exact ⟨fun g b=>by simp at b;omega,by simp⟩
 ·intro k c
  rw [Zw] at c;rcases List.mem_append.1 c with a | a
  ·simp only [lkE,List.mem_map] at a
   obtain ⟨l,-,rfl⟩:=a;exact ⟨fun g b=>by simp at b;rw [b];exact i _,by simp⟩
  ·simp at a;subst a;exact ⟨fun g b=>by simp at b,by simp⟩
 ·intro k c
  rw [Zw] at c;rcases List.mem_append.1 c with a | a
  ·simp only [lkE,List.mem_map] at a
   obtain ⟨l,-,rfl⟩:=a;exact ⟨show (2:Nat)≠7 by decide,show (2:Nat)≠14 by decide⟩
  ·simp at a;subst a;simp only;rw [o];exact p
theorem zay:∀a b,(callFunc 169 a).run prog b= .ok (.enter 169 a) b:=enters_of func169 (by kernel_rfl) rfl
theorem zmZ (a:Int)(i:Nat)(c:0≤a)(d:a<i)(b:Nat)(W:World)(e:W.cell? ⟨b,0,none⟩=some (.int .i64 i)):
  Calls prog 169 (#[.int .i64 a]++#[.pointer (some ⟨b,0,none⟩)]) W (qM (.bool false) W):=by
 show Calls prog 169 #[.int .i64 a,.pointer (some ⟨b,0,none⟩)] W _;have f:¬a<0:=by omega
 have g:¬(i:Int)≤a:=by omega
 go_enter func169,ntmps169;go_wp2_with fail;go_ret;exact ⟨by simp_all,Below.refl _ _⟩
theorem zoq (w:World)(q:GAt B w D G h A g E F)(i:Nat)(aL:i<g.nodes.length)(aM:g.nodes[i].kind=1)(H:zei g i g.nodes[i]=true)(a9:g.in0.length≤1000∧g.in1.length≤1000):
  Calls prog 115 #[.agg #[D,G,h,A],.int .i64 i] w (qM (.bool true) w):=by
 have ba:=Z q;obtain ⟨r,s,bb,bc,aX,bd,ae,ah,ai,aj,ak,al,am,an,ao⟩:=q.node i aL;subst aX;have aN:=q.el g.nodes[i] (List.getElem_mem aL);generalize g.nodes[i]=aY at *;obtain ⟨be,b,aZ,bf,aO,aP,bg⟩:=aY;simp only at aM aN ae ah ai aj ak al am an ao;subst aM aN;unfold zei at H;simp only at H
 split at H
 ·cases H
 rename_i ap
 rw [if_pos trivial] at H;simp only [Bool.and_eq_true,Bool.or_eq_true,decide_eq_true_eq] at H;obtain ⟨⟨⟨⟨P,aQ⟩,af⟩,O⟩,aq⟩:=H;have aR:qN b≠0:=fun x=>ap (.inl x)
 have aS:¬aP<0:=fun x=>ap (.inr (.inl x))
 have a0:aP=0:=by simp at aq;omega
 have aT:aZ.length=0:=by simp at aq;omega
 subst a0;obtain rfl:=List.length_eq_zero_iff.1 aT;obtain ⟨a,rfl⟩:∃a:Nat,aO=(a:Int):=⟨aO.toNat,by omega⟩;have bh:(qN b==0)=false:=by simpa using aR
 obtain ⟨f,j,rfl,-,-⟩:=qg ae;obtain ⟨k,l,rfl,-,-⟩:=qg ah;obtain ⟨t,u,rfl,-,-⟩:=qg q.outs;have ag:=Z ae;have aU:∀(c:World) (aV:Nat),Calls prog 106 #[.slice k 0 l,.func (.func 169) #[] #[.pointer (some ⟨aV,0,none⟩)]] c (qM (.bool false) c):=fun c aV=>
  zcm _ _ zay k 0 0 0 l (fun _=> .nilIface) c (fun q=>absurd q (Nat.lt_irrefl _)) (by omega) (fun a ar=>absurd ar (Nat.not_lt_zero _)) (fun _ a ar=>absurd ar (Nat.not_lt_zero _))
 have aW:=Z aU;obtain ⟨I,n,a1⟩:=q.in0.form;obtain ⟨J,o,a2⟩:=q.in1.form;subst a1 a2;have bi:(i:Int)<(g.nodes.length:Int):=by omega
 clear ap aq aT ae ah aU aR;rcases P with P | P
 ·subst P
  have Q:g.ins 0=g.in0:=rfl;rw [Q] at af O;obtain ⟨R,S,K⟩:=q.in0;have au:=K.length;have L:a<R.length:=by omega
  obtain ⟨d,av,T,-,aw,-,y,-,-⟩:=zm S a L;obtain ⟨rfl,rfl⟩:I=some ⟨d,0,none⟩∧n=av:=by simpa [au] using T
  rw [List.getElem?_eq_getElem L] at y;have v:=K.get a L (by omega);have U:g.in0[a]'(by omega)=b:=by rw [←O];simp [List.getD,show a<g.in0.length by omega]
  rw [U] at v;generalize R[a]=a3 at v y;obtain ⟨V,W,rfl,-,-⟩:=qg v;have ax:=Z v;have a4:(0:Int)≤(a:Int):=by omega
  have a5:(a:Int)<(g.in0.length:Int):=by omega
  have M:=Z (qB w (.cells #[.slice (some ⟨r,0,none⟩) g.nodes.length s,.slice t g.outs.length u,.slice (some ⟨d,0,none⟩) g.in0.length n,.slice J g.in1.length o] 76) (.cells #[.int .i64 (i:Int)] 3) (.cells #[.int .i64 1,.slice f b.length j,.slice k 0 l,.int .i64 0,.int .i64 (a:Int),.int .i64 0,.slice none 0 0] 154));have ay:=Z (show (((w.alloc (.cells #[.slice (some ⟨r,0,none⟩) g.nodes.length s,.slice t g.outs.length u,.slice (some ⟨d,0,none⟩) g.in0.length n,.slice J g.in1.length o] 76)).alloc (.cells #[.int .i64 (i:Int)] 3)).alloc (.cells #[.int .i64 1,.slice f b.length j,.slice k 0 l,.int .i64 0,.int .i64 (a:Int),.int .i64 0,.slice none 0 0] 154)).heap[w.heap.size]? =some (.cells #[.slice (some ⟨r,0,none⟩) g.nodes.length s,.slice t g.outs.length u,.slice (some ⟨d,0,none⟩) g.in0.length n,.slice J g.in1.length o] 76) from zb6 _ _ (heap_alloc_new w _));have az:=Z (show (((w.alloc (.cells #[.slice (some ⟨r,0,none⟩) g.nodes.length s,.slice t g.outs.length u,.slice (some ⟨d,0,none⟩) g.in0.length n,.slice J g.in1.length o] 76)).alloc (.cells #[.int .i64 (i:Int)] 3)).alloc (.cells #[.int .i64 1,.slice f b.length j,.slice k 0 l,.int .i64 0,.int .i64 (a:Int),.int .i64 0,.slice none 0 0] 154)).heap[w.heap.size+1+1]? =some (.cells #[.int .i64 1,.slice f b.length j,.slice k 0 l,.int .i64 0,.int .i64 (a:Int),.int .i64 0,.slice none 0 0] 154) by
   have:=heap_alloc_new ((w.alloc (.cells #[.slice (some ⟨r,0,none⟩) g.nodes.length s,.slice t g.outs.length u,.slice (some ⟨d,0,none⟩) g.in0.length n,.slice J g.in1.length o] 76)).alloc (.cells #[.int .i64 (i:Int)] 3)) (.cells #[.int .i64 1,.slice f b.length j,.slice k 0 l,.int .i64 0,.int .i64 (a:Int),.int .i64 0,.slice none 0 0] 154);simpa only [World.size_alloc] using this)
  have X:(((w.alloc (.cells #[.slice (some ⟨r,0,none⟩) g.nodes.length s,.slice t g.outs.length u,.slice (some ⟨d,0,none⟩) g.in0.length n,.slice J g.in1.length o] 76)).alloc (.cells #[.int .i64 (i:Int)] 3)).alloc (.cells #[.int .i64 1,.slice f b.length j,.slice k 0 l,.int .i64 0,.int .i64 (a:Int),.int .i64 0,.slice none 0 0] 154)).heap.size=w.heap.size+3:=by simp
  have Y:=Z X;clear q S K T v U O Q aQ af aS X;go_enter func115,ntmps115;go_upto_region 8 with (first | (go_at_call 106;refine (aW _ _).mono ?_;rintro x e ⟨rfl,z⟩;have C:=Z (M.trans (z.mono M.size));have aa:=(z.block w.heap.size (by have:=Y.out;omega)).trans ay;have m:=(z.block (w.heap.size+1+1) (by have:=Y.out;omega)).trans az;have aA:e.cell? ⟨w.heap.size,2,none⟩=some (.slice (some ⟨d,0,none⟩) g.in0.length n):=(by simp [World.cell?,aa]);have aB:e.cell? ⟨w.heap.size+1+1,0,none⟩=some (.int .i64 1):=(by simp [World.cell?,m]);have aC:e.cell? ⟨w.heap.size+1+1,1,none⟩=some (.slice f b.length j):=(by simp [World.cell?,m]);have aD:e.cell? ⟨w.heap.size+1+1,2,none⟩=some (.slice k 0 l):=(by simp [World.cell?,m]);have aE:e.cell? ⟨w.heap.size+1+1,3,none⟩=some (.int .i64 0):=(by simp [World.cell?,m]);have aF:e.cell? ⟨w.heap.size+1+1,4,none⟩=some (.int .i64 (a:Int)):=(by simp [World.cell?,m]);have aG:e.cell? ⟨w.heap.size+1+1,5,none⟩=some (.int .i64 0):=(by simp [World.cell?,m]);have aH:e.cell? ⟨w.heap.size+1+1,6,none⟩=some (.slice none 0 0):=(by simp [World.cell?,m]);have aI:=(C.cell (p:=⟨d,a,none⟩) aw).trans y;clear z aa m) | (go_at_call 34;refine (zB _ b _ (Arr.of_owns (Below.owns ag M))).mono ?_;rintro x a6 ⟨rfl,rfl⟩));have N:=Qu (.slice V b.length W) (.slice f b.length j) b b e.drew (Arr.of_owns (Below.owns ax C.drew)) (Arr.of_owns (Below.owns ag C.drew));have ab:decide (b=b)=true:=by simp
  rw [ab] at N;have aJ:=Z N;clear N ab ai aj ak al am an ao y;refine rg (fun c=>c.cell? ⟨w.heap.size,2,none⟩=some (.slice (some ⟨d,0,none⟩) g.in0.length n)∧c.cell? ⟨w.heap.size+1+1,0,none⟩=some (.int .i64 1)∧c.cell? ⟨w.heap.size+1+1,1,none⟩=some (.slice f b.length j)∧c.cell? ⟨w.heap.size+1+1,2,none⟩=some (.slice k 0 l)∧c.cell? ⟨w.heap.size+1+1,3,none⟩=some (.int .i64 0)∧c.cell? ⟨w.heap.size+1+1,4,none⟩=some (.int .i64 (a:Int))∧c.cell? ⟨w.heap.size+1+1,5,none⟩=some (.int .i64 0)∧c.cell? ⟨w.heap.size+1+1,6,none⟩=some (.slice none 0 0)∧c.cell? ⟨d,a,none⟩=some (.slice V b.length W)) ⟨aA,aB,aC,aD,aE,aF,aG,aH,aI⟩ (fun ac=> ?_);refine tk 0 ?_;refine tk 1 ?_;refine tk 2 ?_;refine tk 3 ?_;refine tn 4 ?_;refine tn 5 ?_;refine tn 6 ?_;refine tk 7 ?_;refine tk 8 ?_;refine tk 9 ?_;refine tk 10 ?_;refine tk 11 ?_;refine tk 12 ?_;refine tk 13 ?_;refine tk 14 ?_;refine tk 15 ?_;refine tk 16 ?_;refine tk 17 ?_;refine tk 18 ?_;refine tk 19 ?_;refine tk 20 ?_;refine tk 21 ?_;refine tk 22 ?_;refine tk 23 ?_;refine tk 24 ?_;refine tk 25 ?_;refine tk 26 ?_;refine tk 27 ?_;refine tk 28 ?_;refine tk 29 ?_;refine tk 30 ?_;refine tk 31 ?_;refine tk 32 ?_;refine tk 33 ?_;refine tk 34 ?_;refine tk 35 ?_;refine rd1 36 (fun aK ad=> ?_)
  (go_simp;go_at_call 21;refine aJ.mono ?_;rintro x a7 ⟨rfl,a8,rfl⟩;(try dsimp only))
  refine ad _ _ (show _∧_ from ac) (fun ac=>nx ?_);clear ad aK;refine tk 37 ?_;refine tk 38 ?_;refine tk 39 ?_;refine tk 40 ?_;refine tk 41 ?_;refine tk 42 ?_;refine tk 43 ?_;refine tk 44 ?_;refine tk 45 ?_;refine tk 46 ?_;refine tk 47 ?_;refine tk 48 ?_;refine tk 49 ?_;refine tk 50 ?_;refine tk 51 ?_;refine dn ?_;go_wp2_with fail;go_ret;exact ⟨rfl,qC C.drew _⟩
 ·subst P
  have Q:g.ins 1=g.in1:=rfl;rw [Q] at af O;obtain ⟨R,S,K⟩:=q.in1;have au:=K.length;have L:a<R.length:=by omega
  obtain ⟨d,av,T,-,aw,-,y,-,-⟩:=zm S a L;obtain ⟨rfl,rfl⟩:J=some ⟨d,0,none⟩∧o=av:=by simpa [au] using T
  rw [List.getElem?_eq_getElem L] at y;have v:=K.get a L (by omega);have U:g.in1[a]'(by omega)=b:=by rw [←O];simp [List.getD,show a<g.in1.length by omega]
  rw [U] at v;generalize R[a]=a3 at v y;obtain ⟨V,W,rfl,-,-⟩:=qg v;have ax:=Z v;have a4:(0:Int)≤(a:Int):=by omega
  have a5:(a:Int)<(g.in1.length:Int):=by omega
  have M:=Z (qB w (.cells #[.slice (some ⟨r,0,none⟩) g.nodes.length s,.slice t g.outs.length u,.slice I g.in0.length n,.slice (some ⟨d,0,none⟩) g.in1.length o] 76) (.cells #[.int .i64 (i:Int)] 3) (.cells #[.int .i64 1,.slice f b.length j,.slice k 0 l,.int .i64 1,.int .i64 (a:Int),.int .i64 0,.slice none 0 0] 154));have ay:=Z (show (((w.alloc (.cells #[.slice (some ⟨r,0,none⟩) g.nodes.length s,.slice t g.outs.length u,.slice I g.in0.length n,.slice (some ⟨d,0,none⟩) g.in1.length o] 76)).alloc (.cells #[.int .i64 (i:Int)] 3)).alloc (.cells #[.int .i64 1,.slice f b.length j,.slice k 0 l,.int .i64 1,.int .i64 (a:Int),.int .i64 0,.slice none 0 0] 154)).heap[w.heap.size]? =some (.cells #[.slice (some ⟨r,0,none⟩) g.nodes.length s,.slice t g.outs.length u,.slice I g.in0.length n,.slice (some ⟨d,0,none⟩) g.in1.length o] 76) from zb6 _ _ (heap_alloc_new w _));have az:=Z (show (((w.alloc (.cells #[.slice (some ⟨r,0,none⟩) g.nodes.length s,.slice t g.outs.length u,.slice I g.in0.length n,.slice (some ⟨d,0,none⟩) g.in1.length o] 76)).alloc (.cells #[.int .i64 (i:Int)] 3)).alloc (.cells #[.int .i64 1,.slice f b.length j,.slice k 0 l,.int .i64 1,.int .i64 (a:Int),.int .i64 0,.slice none 0 0] 154)).heap[w.heap.size+1+1]? =some (.cells #[.int .i64 1,.slice f b.length j,.slice k 0 l,.int .i64 1,.int .i64 (a:Int),.int .i64 0,.slice none 0 0] 154) by
   have:=heap_alloc_new ((w.alloc (.cells #[.slice (some ⟨r,0,none⟩) g.nodes.length s,.slice t g.outs.length u,.slice I g.in0.length n,.slice (some ⟨d,0,none⟩) g.in1.length o] 76)).alloc (.cells #[.int .i64 (i:Int)] 3)) (.cells #[.int .i64 1,.slice f b.length j,.slice k 0 l,.int .i64 1,.int .i64 (a:Int),.int .i64 0,.slice none 0 0] 154);simpa only [World.size_alloc] using this)
  have X:(((w.alloc (.cells #[.slice (some ⟨r,0,none⟩) g.nodes.length s,.slice t g.outs.length u,.slice I g.in0.length n,.slice (some ⟨d,0,none⟩) g.in1.length o] 76)).alloc (.cells #[.int .i64 (i:Int)] 3)).alloc (.cells #[.int .i64 1,.slice f b.length j,.slice k 0 l,.int .i64 1,.int .i64 (a:Int),.int .i64 0,.slice none 0 0] 154)).heap.size=w.heap.size+3:=by simp
  have Y:=Z X;clear q S K T v U O Q aQ af aS X;go_enter func115,ntmps115;go_upto_region 8 with (first | (go_at_call 106;refine (aW _ _).mono ?_;rintro x e ⟨rfl,z⟩;have C:=Z (M.trans (z.mono M.size));have aa:=(z.block w.heap.size (by have:=Y.out;omega)).trans ay;have m:=(z.block (w.heap.size+1+1) (by have:=Y.out;omega)).trans az;have aA:e.cell? ⟨w.heap.size,3,none⟩=some (.slice (some ⟨d,0,none⟩) g.in1.length o):=(by simp [World.cell?,aa]);have aB:e.cell? ⟨w.heap.size+1+1,0,none⟩=some (.int .i64 1):=(by simp [World.cell?,m]);have aC:e.cell? ⟨w.heap.size+1+1,1,none⟩=some (.slice f b.length j):=(by simp [World.cell?,m]);have aD:e.cell? ⟨w.heap.size+1+1,2,none⟩=some (.slice k 0 l):=(by simp [World.cell?,m]);have aE:e.cell? ⟨w.heap.size+1+1,3,none⟩=some (.int .i64 1):=(by simp [World.cell?,m]);have aF:e.cell? ⟨w.heap.size+1+1,4,none⟩=some (.int .i64 (a:Int)):=(by simp [World.cell?,m]);have aG:e.cell? ⟨w.heap.size+1+1,5,none⟩=some (.int .i64 0):=(by simp [World.cell?,m]);have aH:e.cell? ⟨w.heap.size+1+1,6,none⟩=some (.slice none 0 0):=(by simp [World.cell?,m]);have aI:=(C.cell (p:=⟨d,a,none⟩) aw).trans y;clear z aa m) | (go_at_call 34;refine (zB _ b _ (Arr.of_owns (Below.owns ag M))).mono ?_;rintro x a6 ⟨rfl,rfl⟩));have N:=Qu (.slice V b.length W) (.slice f b.length j) b b e.drew (Arr.of_owns (Below.owns ax C.drew)) (Arr.of_owns (Below.owns ag C.drew));have ab:decide (b=b)=true:=by simp
  rw [ab] at N;have aJ:=Z N;clear N ab ai aj ak al am an ao y;refine rg (fun c=>c.cell? ⟨w.heap.size,3,none⟩=some (.slice (some ⟨d,0,none⟩) g.in1.length o)∧c.cell? ⟨w.heap.size+1+1,0,none⟩=some (.int .i64 1)∧c.cell? ⟨w.heap.size+1+1,1,none⟩=some (.slice f b.length j)∧c.cell? ⟨w.heap.size+1+1,2,none⟩=some (.slice k 0 l)∧c.cell? ⟨w.heap.size+1+1,3,none⟩=some (.int .i64 1)∧c.cell? ⟨w.heap.size+1+1,4,none⟩=some (.int .i64 (a:Int))∧c.cell? ⟨w.heap.size+1+1,5,none⟩=some (.int .i64 0)∧c.cell? ⟨w.heap.size+1+1,6,none⟩=some (.slice none 0 0)∧c.cell? ⟨d,a,none⟩=some (.slice V b.length W)) ⟨aA,aB,aC,aD,aE,aF,aG,aH,aI⟩ (fun ac=> ?_);refine tk 0 ?_;refine tk 1 ?_;refine tk 2 ?_;refine tk 3 ?_;refine tk 4 ?_;refine tk 5 ?_;refine tk 6 ?_;refine tk 7 ?_;refine tk 8 ?_;refine tk 9 ?_;refine tk 10 ?_;refine tk 11 ?_;refine tk 12 ?_;refine tk 13 ?_;refine tk 14 ?_;refine tk 15 ?_;refine tk 16 ?_;refine tk 17 ?_;refine tk 18 ?_;refine tk 19 ?_;refine tk 20 ?_;refine tk 21 ?_;refine tk 22 ?_;refine tk 23 ?_;refine tk 24 ?_;refine tk 25 ?_;refine tk 26 ?_;refine tk 27 ?_;refine tk 28 ?_;refine tk 29 ?_;refine tk 30 ?_;refine tk 31 ?_;refine tk 32 ?_;refine tk 33 ?_;refine tk 34 ?_;refine tk 35 ?_;refine rd1 36 (fun aK ad=> ?_)
  (go_simp;go_at_call 21;refine aJ.mono ?_;rintro x a7 ⟨rfl,a8,rfl⟩;(try dsimp only))
  refine ad _ _ (show _∧_ from ac) (fun ac=>nx ?_);clear ad aK;refine tk 37 ?_;refine tk 38 ?_;refine tk 39 ?_;refine tk 40 ?_;refine tk 41 ?_;refine tk 42 ?_;refine tk 43 ?_;refine tk 44 ?_;refine tk 45 ?_;refine tk 46 ?_;refine tk 47 ?_;refine tk 48 ?_;refine tk 49 ?_;refine tk 50 ?_;refine tk 51 ?_;refine dn ?_;go_wp2_with fail;go_ret;exact ⟨rfl,qC C.drew _⟩
theorem ziY {j:Nat}(a:3≤j)(b:j≤14):zck j=j:=by unfold zck;rw [if_neg (by omega),if_pos ⟨a,b⟩]
theorem zek (k:Int)(w:World):Calls prog 170 #[.int .i64 k] w fun c f=>c= .returned (.int .i64 (zac k))∧w=f:=by
 obtain ⟨e,g⟩:∃e,zac k=e:=⟨_,rfl⟩;have j:=Z g;rw [g];clear g;go_enter func170,ntmps170;go_wp2_with fail;go_loopg [3] 12 (fun p q wr=>∃(a:Nat),p=15-a∧q= .int .i64 a∧3≤a∧a≤15∧Hid (∀b:Nat,3≤b→b<a→k≠b)∧wr=w)
 case atStart=>exact ⟨3,rfl,rfl,by omega,by omega,fun b h l=>by omega,rfl⟩
 case round=>
  obtain ⟨a,y,rfl,r,z,m,rfl⟩:=hrel
  by_cases i:a≤14
  ·have n:=Z (ziY r i)
   have A:(a:Int)≤14:=by omega
   by_cases d:(a:Int)=k
   ·have s:e=a:=by
     rw [←j.out];unfold zac;rw [if_pos (by omega)];omega
    have t:((a:Int)==k)=true:=by simp [d]
    subst s;clear d i;go_wp2_with (go_at_call 112;refine (zbZ _ _).mono ?_;rw [n.out];rintro c f ⟨rfl,rfl⟩);go_ret;exact ⟨rfl,rfl⟩
   ·have t:((a:Int)==k)=false:=by simp [d]
    have u:=Z (show ∀b:Nat,3≤b→b<a+1→k≠b from fun b h l=>by
     rcases Nat.lt_or_ge b a with o | o
     ·exact m b h o
     ·have:b=a:=by omega
      subst this;exact fun c=>d c.symm)
    clear d;go_wp2_with (go_at_call 112;refine (zbZ _ _).mono ?_;rw [n.out];rintro c f ⟨rfl,rfl⟩);go_roundg (15-(a+1))
    case measure=>omega
    case rel=>exact ⟨a+1,rfl,by go_num,by omega,by omega,u,rfl⟩
  ·have v:a=15:=by omega
   subst v;have x:e=0:=by
    rw [←j.out];unfold zac;rw [if_neg];rintro ⟨h,l⟩;exact m k.toNat (by omega) (by omega) (by omega)
   subst x;clear i;go_wp2_with fail;go_ret;exact ⟨rfl,rfl⟩
theorem ziZ {i:Nat}{n:MNode}(a:zei g i n=true)(e:n.kind≠1∧n.kind≠2∧n.kind≠9)(k:n.elems=[]):
  qN n.shape≠0∧n.k=0∧(∀b∈n.args,0≤b∧b<i)∧n.input=0∧n.party=0∧zac n.kind≠0∧n.args.length≤3∧
   ∃c,zbc (zbT (n.args.map fun b=>(g.nodes.map (·.shape)).getD b.toNat [])) (zc2 n n.args.length)= .ok c∧c.getD n.args.length []=n.shape:=by
 unfold zei at a
 split at a
 ·cases a
 rename_i h
 rw [if_neg e.1,if_neg e.2.1] at a
 split at a
 ·cases a
 rename_i l
 have m:n.k=0:=Classical.byContradiction fun d=>l ⟨e.2.2,d⟩
 have f:∀b∈n.args,0≤b∧b<i:=fun b f=>Classical.byContradiction fun d=>h (.inr (.inr (by
  rw [List.any_eq_true];refine ⟨b,f,?_⟩;simp only [Bool.or_eq_true,decide_eq_true_eq];omega)))
 split at a
 ·cases a
 ·rename_i c o
  simp only [Bool.and_eq_true,decide_eq_true_eq] at a;obtain ⟨⟨⟨⟨p,q⟩,r⟩,j⟩,s⟩:=a;rw [k] at j;exact ⟨fun d=>h (.inl d),m,f,by simpa using j,s,p,q,c,o,r⟩
theorem zmt {k:Int}(a:k≠7∧k≠14):zac k≠7∧zac k≠14:=by unfold zac;split<;>omega
theorem zo3 {b:Nat}{x:Value}(a:w.heap[b]? =some (.cells #[x] t fr)):w.cell? ⟨b,0,none⟩=some x:=by simp [World.cell?,a]
theorem zlh (w:World)(y:GAt B w D G h A g E F)(bO:yC w)(bP:0<w.heap.size)(i:Nat)(bQ:i<g.nodes.length)(dC:g.nodes.length≤64)
  (z:g.nodes[i].kind≠1∧g.nodes[i].kind≠2∧g.nodes[i].kind≠9) (bc:g.nodes[i].kind≠7∧g.nodes[i].kind≠14) (bR:zei g i g.nodes[i]=true):
  Calls prog 115 #[.agg #[D,G,h,A],.int .i64 i] w (qM (.bool true) w):=by
 have cD:=Z y;obtain ⟨m,u,bd,be,cE,dD,aZ,ao,bS,ap,aE,bT,bU,bV,bW⟩:=y.node i bQ;subst cE;have bf:=y.el g.nodes[i] (List.getElem_mem bQ);obtain ⟨bg,bX,a0,bY,bZ,b0,b1,aF,Q,bh⟩:=ziZ bR z bf;clear bR;generalize b2:g.nodes[i]=cF at *;obtain ⟨o,l,b,dE,dF,dG,dH⟩:=cF;simp only at z bc bf aZ ao bS ap aE bT bU bV bW bg bX a0 bY bZ b0 b1 Q bh;subst bX bY bZ bf;have dI:=Z b2;clear b2;have dJ:(qN l==0)=false:=by simpa using bg
 have k1:(o==1)=false:=by simpa using z.1
 have k2:(o==2)=false:=by simpa using z.2.1
 have k9:(o==9)=false:=by simpa using z.2.2
 obtain ⟨C,H,rfl,-,-⟩:=qg aZ;obtain ⟨v,r,rfl,-,b3⟩:=qg ao;obtain ⟨R,S,rfl,-,-⟩:=qg y.outs;obtain ⟨T,U,rfl⟩:=y.in0.form;obtain ⟨V,W,rfl⟩:=y.in1.form;have b4:=Z aZ;have dK:=Z ao;have b5:=Z b3;have b6:=Z a0;have cG:=Z Q;have cH:=Z bh;have cI:=Z bO;have cJ:=Z bP;obtain ⟨I,a1⟩:∃I,(b.map fun p=>(g.nodes.map (·.shape)).getD p.toNat [])=I:=⟨_,rfl⟩;obtain ⟨x,bi⟩:∃x,(b.map fun p=>E.getD p.toNat Value.nilIface)=x:=⟨_,rfl⟩;have bj:qj B w x I:=by
  rw [←bi,←a1];exact zfZ y.sh b fun p ao=>by have:=a0 p ao;simp;omega
 have b7:=Z bj;have bk:I.length=b.length:=by rw [←a1];simp
 have dL:x.length=b.length:=by rw [bj.length,bk]
 have cK:=Z a1;have cL:=Z bi;have dM:B≤B:=Nat.le_refl _;have b8:∀(j:World) (aq:Nat),Below w.heap.size w j→aq<j.heap.size→j.cell? ⟨aq,0,none⟩=some (.int .i64 i)→Calls prog 106 #[.slice v b.length r,.func (.func 169) #[] #[.pointer (some ⟨aq,0,none⟩)]] j (qM (.bool false) j):=fun j aq b9 cM cN=>by
  rcases Nat.eq_zero_or_pos b.length with cO | ca
  ·rw [cO]
   exact zcm _ _ zay v 0 0 0 r (fun _=> .nilIface) j (fun y=>absurd y (Nat.lt_irrefl _)) (by omega) (fun X ad=>absurd ad (Nat.not_lt_zero _)) (fun _ X ad=>absurd ad (Nat.not_lt_zero _))
  ·obtain ⟨aG,rfl,-,bl,a2⟩:=b5.out ca
   refine zcm _ _ zay _ aG 0 b.length r (fun X=> .int .i64 (b.getD X 0)) j (fun _=>⟨rfl,by have:=b9.size;omega⟩) (by omega) (fun X ad=> ?_) (fun cP X ad bm=> ?_)
   ·rw [Nat.zero_add]
    exact (b9.cell (p:=⟨aG,X,none⟩) bl).trans ((a2 X (by omega)).trans (by simp [ints,List.getD,ad]))
   ·have cb:=b6.out (b.getD X 0) (by rw [List.getD_eq_getElem?_getD,List.getElem?_eq_getElem ad];exact List.getElem_mem _)
    exact zmZ _ i cb.1 cb.2 aq cP ((bm.cell (p:=⟨aq,0,none⟩) cM).trans cN)
 have cQ:=Z b8;have dN:(i:Int)<(g.nodes.length:Int):=by omega
 have a3:=Z (qB w (.cells #[.slice (some ⟨m,0,none⟩) g.nodes.length u,.slice R g.outs.length S,.slice T g.in0.length U,.slice V g.in1.length W] 76) (.cells #[.int .i64 (i:Int)] 3) (.cells #[.int .i64 o,.slice C l.length H,.slice v b.length r,.int .i64 0,.int .i64 0,.int .i64 0,.slice none 0 0] 154));have cR:=Z (show (((w.alloc (.cells #[.slice (some ⟨m,0,none⟩) g.nodes.length u,.slice R g.outs.length S,.slice T g.in0.length U,.slice V g.in1.length W] 76)).alloc (.cells #[.int .i64 (i:Int)] 3)).alloc (.cells #[.int .i64 o,.slice C l.length H,.slice v b.length r,.int .i64 0,.int .i64 0,.int .i64 0,.slice none 0 0] 154)).heap[w.heap.size]? =some (.cells #[.slice (some ⟨m,0,none⟩) g.nodes.length u,.slice R g.outs.length S,.slice T g.in0.length U,.slice V g.in1.length W] 76) from zb6 _ _ (heap_alloc_new w _));have cS:=Z (show (((w.alloc (.cells #[.slice (some ⟨m,0,none⟩) g.nodes.length u,.slice R g.outs.length S,.slice T g.in0.length U,.slice V g.in1.length W] 76)).alloc (.cells #[.int .i64 (i:Int)] 3)).alloc (.cells #[.int .i64 o,.slice C l.length H,.slice v b.length r,.int .i64 0,.int .i64 0,.int .i64 0,.slice none 0 0] 154)).cell? ⟨w.heap.size+1,0,none⟩=some (.int .i64 (i:Int)) from zo3 (by
  have:=QH (.cells #[.int .i64 o,.slice C l.length H,.slice v b.length r,.int .i64 0,.int .i64 0,.int .i64 0,.slice none 0 0] 154) (heap_alloc_new (w.alloc (.cells #[.slice (some ⟨m,0,none⟩) g.nodes.length u,.slice R g.outs.length S,.slice T g.in0.length U,.slice V g.in1.length W] 76)) (.cells #[.int .i64 (i:Int)] 3));simpa only [World.size_alloc] using this))
 have cT:=Z (show (((w.alloc (.cells #[.slice (some ⟨m,0,none⟩) g.nodes.length u,.slice R g.outs.length S,.slice T g.in0.length U,.slice V g.in1.length W] 76)).alloc (.cells #[.int .i64 (i:Int)] 3)).alloc (.cells #[.int .i64 o,.slice C l.length H,.slice v b.length r,.int .i64 0,.int .i64 0,.int .i64 0,.slice none 0 0] 154)).heap[w.heap.size+1+1]? =some (.cells #[.int .i64 o,.slice C l.length H,.slice v b.length r,.int .i64 0,.int .i64 0,.int .i64 0,.slice none 0 0] 154) by
  have:=heap_alloc_new ((w.alloc (.cells #[.slice (some ⟨m,0,none⟩) g.nodes.length u,.slice R g.outs.length S,.slice T g.in0.length U,.slice V g.in1.length W] 76)).alloc (.cells #[.int .i64 (i:Int)] 3)) (.cells #[.int .i64 o,.slice C l.length H,.slice v b.length r,.int .i64 0,.int .i64 0,.int .i64 0,.slice none 0 0] 154);simpa only [World.size_alloc] using this)
 have cc:(((w.alloc (.cells #[.slice (some ⟨m,0,none⟩) g.nodes.length u,.slice R g.outs.length S,.slice T g.in0.length U,.slice V g.in1.length W] 76)).alloc (.cells #[.int .i64 (i:Int)] 3)).alloc (.cells #[.int .i64 o,.slice C l.length H,.slice v b.length r,.int .i64 0,.int .i64 0,.int .i64 0,.slice none 0 0] 154)).heap.size=w.heap.size+3:=by simp
 have a4:=Z cc;clear y aZ ao b3 a0 Q bh b8 bg cc z a1 bi bj bO bP;go_enter func115,ntmps115;go_upto_region 12 with (first | (go_at_call 106;refine (cQ _ _ a3 (by rw [a4.out];omega) cS).mono ?_;rintro q a5 ⟨rfl,aH⟩;have cd:=Z (a3.trans (aH.mono a3.size));have ce:=aH.size;rw [a4.out] at ce;have cU:=Z ((aH.block w.heap.size (by have:=a4.out;omega)).trans cR);have aI:=Z ((aH.block (w.heap.size+1+1) (by have:=a4.out;omega)).trans cT);obtain ⟨⟨Y,ar,J,au,av,aa,aw⟩,-⟩:=zfo aI;clear aH) | (go_at_call 34;refine (zB _ l _ (Arr.of_owns (Below.owns b4 a3))).mono ?_;rintro q ab ⟨rfl,rfl⟩));clear bS ap aE bT bU bV bW;obtain ⟨k,bn⟩:∃k,a5.heap.size=k:=⟨_,rfl⟩;have ax:=Z bn;rw [bn] at ce;obtain ⟨L,bo⟩:∃L,zac o=L:=⟨_,rfl⟩;have aJ:=Z bo;rw [bo] at b0;clear bn bo;go_cut [6] from 119 to 125 (fun cV ae=>cV= .pointer (some ⟨k,0,none⟩)∧Hid (Below k a5 ae)∧Hid (ae.heap[k]? =some (.cells #[.int .i64 (L:Int),.string (qx []),.int .u64 0,.slice none 0 0,.int .i64 0] 146 (0,0))))
 case first=>
  refine rg (fun j=>j.cell? ⟨w.heap.size+1+1,0,none⟩=some (.int .i64 o)∧j.cell? ⟨w.heap.size+1+1,5,none⟩=some (.int .i64 0)) ⟨Y,aa⟩ (fun f=> ?_);refine tk 0 ?_;refine tk 1 ?_;refine tk 3 ?_;refine tk 4 ?_;refine tk 5 ?_;refine rd2 2 7 (fun e c=> ?_) (fun e c=> ?_)
  ·skip
   (go_simp;go_at_call 170;refine (zek _ _).mono ?_;rw [aJ.out];rintro q cW ⟨rfl,rfl⟩;(try dsimp only))
   refine c _ _ (by assumption) (fun f=>nx ?_);clear c e;refine tk 6 ?_;refine rd1 7 (fun e c=> ?_);go_simp;refine c _ _ ⟨Lib.cell?_alloc_some _ f.1,Lib.cell?_alloc_some _ f.2⟩ (fun f=>nx ?_);clear c e;refine rd1 8 (fun e c=> ?_);go_simp;refine c _ _ (show _∧_ from ⟨Lib.cell?_alloc_some _ Y,Lib.cell?_alloc_some _ aa⟩) (fun f=>nx ?_);clear c e;refine dn ?_;go_wp2_with fail;go_meet;exact ⟨by rw [ax.out],Z (by rw [←ax.out];exact ((Below.refl _ _).alloc (Nat.le_refl _) _).drew),Z (by rw [←ax.out];exact heap_alloc_new _ _)⟩
  ·skip
   go_simp;refine c _ _ ⟨Lib.cell?_alloc_some _ f.1,Lib.cell?_alloc_some _ f.2⟩ (fun f=>nx ?_);clear c e;refine rd1 2 (fun e c=> ?_)
   (go_simp;go_at_call 170;refine (zek _ _).mono ?_;rw [aJ.out];rintro q cW ⟨rfl,rfl⟩;(try dsimp only))
   refine c _ _ (by assumption) (fun f=>nx ?_);clear c e;refine tk 6 ?_;refine rd1 8 (fun e c=> ?_);go_simp;refine c _ _ (show _∧_ from ⟨Lib.cell?_alloc_some _ Y,Lib.cell?_alloc_some _ aa⟩) (fun f=>nx ?_);clear c e;refine dn ?_;go_wp2_with fail;go_meet;exact ⟨by rw [ax.out],Z (by rw [←ax.out];exact ((Below.refl _ _).alloc (Nat.le_refl _) _).drew),Z (by rw [←ax.out];exact heap_alloc_new _ _)⟩
 case rest=>
 rename World=>ae
 obtain ⟨rfl,cX,cY⟩:=hcut;have a6:=Z (LkSt.start cX cY);obtain ⟨d,bp⟩:∃d,ae.heap.size=d:=⟨_,rfl⟩;have dO:=Z bp;rw [bp] at a6;clear Y ar J au av aa aw;go_upto_region 14 with fail;generalize ae.alloc (.cells #[.slice none 0 0,.slice none 0 0] 71)=dP at a6 ⊢;have J:=(zfo ((a6.low.block (w.heap.size+1+1) (by omega)).trans aI)).1.2.2.1;have dQ:w.heap.size+1+1<k:=by omega
 clear bp;go_wp2_with fail;go_loopg [130] b.length (fun cZ c0 wr=>∃(a:Nat) (bd cf be:Value),a≤b.length∧cZ=b.length-a∧c0= .int .i64 a∧Hid (LkSt k d (L:Int) bd cf be a a a (lkS (I.take a)) (lkE a) ((List.range a).map Int.ofNat) (x.take a) (List.replicate a (.slice none 0 0)) a5 wr))
 case atStart=>exact ⟨0,_,_,_,Nat.zero_le _,rfl,rfl,a6⟩
 case round=>
  obtain ⟨a,bd,cf,be,ca,dR,rfl,s⟩:=hrel;rename World=>wr
  clear J;have cg:=s.sz;have dS:=s.hET;have bq:=(s.low.block (w.heap.size+1+1) (by omega)).trans aI;have br:=(s.low.block w.heap.size (by omega)).trans cU;have ch:=Z (cd.trans (s.low.mono (show w.heap.size≤k by omega)));obtain ⟨⟨Y,ar,J,au,av,aa,aw⟩,-⟩:=zfo bq;have aK:wr.cell? ⟨w.heap.size,0,none⟩=some (.slice (some ⟨m,0,none⟩) g.nodes.length u):=by simp [World.cell?,br]
  obtain ⟨⟨aL,aM,ay,bs,bt,bu,bv⟩,aN,a7⟩:=s.cells;obtain ⟨aO,aP,rfl,-,-⟩:=qg s.st;obtain ⟨bw,bx,rfl,-,-⟩:=qg s.ex;obtain ⟨a8,a9,rfl,-,-⟩:=qg s.ar;have dT:=Z br;have dU:=Z bq;clear bq br
  by_cases ci:a<b.length
  ·obtain ⟨aG,rfl,-,bl,a2⟩:=b5.out (by omega)
   have c1:=b6.out b[a] (List.getElem_mem ci);have c2:wr.cell? ⟨aG,a,none⟩=some (.int .i64 b[a]):=(ch.cell (p:=⟨aG,a,none⟩) bl).trans ((a2 a (by omega)).trans (by simp [ints,ci]));obtain ⟨c3,c4,cj,bm,t⟩:=cD.shapeAt b[a].toNat (by omega);obtain ⟨rfl,rfl⟩:m=c3∧u=c4:=by simpa using cj
   have n:=b7.get a (by omega) (by omega);have bz:x[a]'(by omega)=E.getD b[a].toNat .nilIface:=by simp only [←cL.out,List.getElem_map]
   rw [←bz] at t;have bA:=Z (show x.take (a+1)=x.take a++[x[a]'(by omega)] by rw [List.take_add_one,List.getElem?_eq_getElem (by omega)];rfl);have bB:=Z (show I.take (a+1)=I.take a++[I[a]'(by omega)] by rw [List.take_add_one,List.getElem?_eq_getElem (by omega)];rfl);generalize x[a]'(by omega)=ba at n bz t bA;generalize I[a]'(by omega)=af at n bB;obtain ⟨aQ,aR,rfl,-,-⟩:=qg n;obtain ⟨p,ck⟩:∃p:Nat,b[a]=(p:Int):=⟨b[a].toNat,by omega⟩;rw [ck] at c2 c1 t;simp only [Int.toNat_natCast] at t;have bb:=(ch.cell (p:=⟨m,p * 7+1,none⟩) bm).trans t;clear cj t n bz a2 ck;have dV:(0:Int)≤(a:Int):=by omega
   have dW:(a:Int)<(b.length:Int):=by omega
   have dX:(0:Int)≤(p:Int):=by omega
   have dY:(p:Int)<(g.nodes.length:Int):=by omega
   obtain ⟨ac,bC⟩:∃ac, [97+a%26]=ac:=⟨_,rfl⟩;have c5:Utf8.encode (97+(a:Int)%26)=qx ac:=by
    rw [←bC];obtain rfl | rfl | rfl:a=0∨a=1∨a=2:=by omega
    all_goals rfl
   have bD:=Z bC;have cl:w.heap.size≠d:=by omega
   have cm:m≠d:=by omega
   have c6:k≠d:=by omega
   have c8:d≠k:=by omega
   have M:=Z s.drew;have bE:d+1≤wr.drew.heap.size:=cg.1;clear bC;go_upto_region 18 with fail;go_cut [] from 140 to 152 (fun ae=>∃(az aA:Nat),Hid (LkSt k d (L:Int) (.slice (some ⟨az,0,none⟩) (a+1) aA) (.slice bw a bx) (.slice a8 a a9) (a+1) a a (lkS (I.take (a+1))) (lkE a) ((List.range a).map Int.ofNat) (x.take (a+1)) (List.replicate a (.slice none 0 0)) a5 ae))
   case first=>
    refine rg (fun j=>j.cell? ⟨w.heap.size,0,none⟩=some (.slice (some ⟨m,0,none⟩) g.nodes.length u)∧j.cell? ⟨m,p * 7+1,none⟩=some (.slice aQ af.length aR)) ⟨aK,bb⟩ (fun f=> ?_);refine tk 0 ?_;refine tk 2 ?_;refine tk 3 ?_;refine tk 4 ?_;refine tk 5 ?_;refine tk 6 ?_;refine tk 7 ?_;refine tk 8 ?_;refine tk 9 ?_;refine rd2 1 10 (fun e c=> ?_) (fun e c=> ?_)
    ·skip
     go_simp;refine c _ _ (by assumption) (fun f=>nx ?_);clear c e;refine rd1 10 (fun e c=> ?_);go_simp;refine c _ _ ⟨Lib.cell?_alloc_some _ f.1,Lib.cell?_alloc_some _ f.2⟩ (fun f=>nx ?_);clear c e;refine rd1 11 (fun e c=> ?_)
     (refine yo (by rfl) _ _ 68 (by rfl) 149 _ 6 72 underlying68 Ys rfl (by decide) #[.int .i64 1,.int .i64 0,.string (qx ac),.slice aQ af.length aR,.int .i64 0,.int .i64 0] a (d+1) (.slice aO a aP) _ M.st (by rfl) (by rfl) rfl (by simp [Value.oneCell']) bE (by omega) (by unfold maxLen;omega) ?_;intro az aA ab N O;obtain ⟨ag,aS⟩:=M.stApp ⟨1,0,ac,af,0,0⟩ (.slice aQ af.length aR) O N;have c9:=(show ab.frozen? ⟨d,0,none⟩=false by simp [World.frozen?,ag]);have da:=(show ab.cell? ⟨d,0,none⟩=some (.slice aO a aP) by simp [World.cell?,ag]);have ah:=And.intro (O.cell (a:=⟨w.heap.size,0,none⟩) aK (fun q=>by have:d+1≤w.heap.size:=(M.st.lt _ q.symm).1;omega)) (O.cell (a:=⟨m,p * 7+1,none⟩) bb (fun q=>by have:d+1≤m:=(M.st.lt _ q.symm).1;omega));have bF:=Z aS;clear N O ag aS)
     refine c _ _ ah (fun f=>nx ?_);clear c e;refine tk 12 ?_;refine rd1 13 (fun e c=> ?_);go_simp;refine c _ _ ⟨(World.cell?_setCell_other _ _ _ _ (by simp [cl])).trans ah.1,(World.cell?_setCell_other _ _ _ _ (by simp [cm])).trans ah.2⟩ (fun f=>nx ?_);clear c e;refine dn ?_;go_wp2_with fail;go_meet;exact ⟨az,aA,Z (by have aB:=bF.out;rw [bA.out,bB.out,zhQ,List.length_take,Nat.min_eq_left (by omega),bD.out];exact aB)⟩
    ·skip
     go_simp;refine c _ _ ⟨Lib.cell?_alloc_some _ f.1,Lib.cell?_alloc_some _ f.2⟩ (fun f=>nx ?_);clear c e;refine rd1 1 (fun e c=> ?_);go_simp;refine c _ _ (by assumption) (fun f=>nx ?_);clear c e;refine rd1 11 (fun e c=> ?_)
     (refine yo (by rfl) _ _ 68 (by rfl) 149 _ 6 72 underlying68 Ys rfl (by decide) #[.int .i64 1,.int .i64 0,.string (qx ac),.slice aQ af.length aR,.int .i64 0,.int .i64 0] a (d+1) (.slice aO a aP) _ M.st (by rfl) (by rfl) rfl (by simp [Value.oneCell']) bE (by omega) (by unfold maxLen;omega) ?_;intro az aA ab N O;obtain ⟨ag,aS⟩:=M.stApp ⟨1,0,ac,af,0,0⟩ (.slice aQ af.length aR) O N;have c9:=(show ab.frozen? ⟨d,0,none⟩=false by simp [World.frozen?,ag]);have da:=(show ab.cell? ⟨d,0,none⟩=some (.slice aO a aP) by simp [World.cell?,ag]);have ah:=And.intro (O.cell (a:=⟨w.heap.size,0,none⟩) aK (fun q=>by have:d+1≤w.heap.size:=(M.st.lt _ q.symm).1;omega)) (O.cell (a:=⟨m,p * 7+1,none⟩) bb (fun q=>by have:d+1≤m:=(M.st.lt _ q.symm).1;omega));have bF:=Z aS;clear N O ag aS)
     refine c _ _ ah (fun f=>nx ?_);clear c e;refine tk 12 ?_;refine rd1 13 (fun e c=> ?_);go_simp;refine c _ _ ⟨(World.cell?_setCell_other _ _ _ _ (by simp [cl])).trans ah.1,(World.cell?_setCell_other _ _ _ _ (by simp [cm])).trans ah.2⟩ (fun f=>nx ?_);clear c e;refine dn ?_;go_wp2_with fail;go_meet;exact ⟨az,aA,Z (by have aB:=bF.out;rw [bA.out,bB.out,zhQ,List.length_take,Nat.min_eq_left (by omega),bD.out];exact aB)⟩
   case rest=>
   rename World=>dZ
   obtain ⟨az,aA,ai⟩:=hcut;have db:=ai.sz;obtain ⟨⟨aL,aM,ay,bs,bt,bu,bv⟩,aN,a7⟩:=ai.cells;have cn:=aN 1;have d0:=a7 3;clear aN a7 aK bb Y ar J au av aa aw c5 M bE;go_upto_region 20 with (at_builtin;refine yS rfl _ _ 69 rfl 146 _ 5 64 underlying69 zc5 rfl (by decide) #[_,_,_,_,_] _ _ _ _ ai.ex rfl rfl rfl (by intro ba n;simp at n;rcases n with rfl | rfl | rfl | rfl | rfl<;>rfl) db.1 (by omega) (by unfold maxLen;omega) ?_;intro dc P aj aT _;obtain ⟨bG,ap,rfl,-,-⟩:=aj.form (by omega);obtain ⟨⟨ak,aU⟩,al⟩:=ai.exApp ⟨2,ac,0, [],0⟩ (.slice none 0 0) aT aj;have co:=(show P.frozen? ⟨d,1,none⟩=false by simp [World.frozen?,ak]);have cp:=(show P.cell? ⟨d,1,none⟩=some (.slice bw a bx) by simp [World.cell?,ak]);have d1:=(show P.cell? ⟨k,3,none⟩=some (.slice a8 a a9) by simp [World.cell?,aU]);have d2:=(show P.frozen? ⟨k,3,none⟩=false by simp [World.frozen?,aU]);have K:=Z al;have aV:=al.sz.1;clear aj aT ak aU al);generalize P.setCell ⟨d,1,none⟩ (.slice (some ⟨bG,0,none⟩) (a+1) ap)=dd at K aV ⊢;obtain ⟨⟨-,-,-,-,-,d3,-⟩,-,aW⟩:=K.cells;have d4:=aW 3;clear aW aL aM ay bs bt bu bv;go_wp2_with (at_builtin;refine yS rfl _ _ 24 rfl 3 (.int .i64 0) 1 8 underlying24 qD rfl (by decide) #[_] _ _ _ _ K.ar rfl rfl rfl (by intro ba n;simp at n;subst n;rfl) aV (by omega) (by unfold maxLen;omega) ?_;intro de aC am aX _;obtain ⟨cq,aE,rfl,-,-⟩:=am.form (by omega);obtain ⟨bH,aD⟩:=K.arApp (a:Int) aX am;have d5:=(show aC.frozen? ⟨k,3,none⟩=false by simp [World.frozen?,bH]);have d6:=(show aC.cell? ⟨k,3,none⟩=some (.slice a8 a a9) by simp [World.cell?,bH]);have an:=Z aD;clear am aX bH aD);go_roundg (b.length-(a+1))
   case measure=>omega
   case rel=>exact ⟨a+1,_,_,_,by omega,rfl,by go_num,Z (by have aB:=an.out;rw [←bD.out,←zhP,←List.replicate_succ'] at aB;rw [List.range_succ,List.map_append];exact aB)⟩
  ·obtain rfl:a=b.length:=by omega
   have z:=s.out;rw [List.take_of_length_le (by omega),List.take_of_length_le (by omega)] at z;have ai:=Z z;have cn:=aN 1;have bI:=zmt bc;rw [aJ.out] at bI;have df:=Z bI;have c6:k≠d:=by omega
   have c8:d≠k:=by omega
   clear z s aN a7 bc bI aK;go_upto_region 23 with (at_builtin;refine yS rfl _ _ 69 rfl 146 _ 5 64 underlying69 zc5 rfl (by decide) #[_,_,_,_,_] _ _ _ _ ai.ex rfl rfl rfl (by intro ba n;simp at n;rcases n with rfl | rfl | rfl | rfl | rfl<;>rfl) cg.1 (by omega) (by unfold maxLen;omega) ?_;intro dc P aj aT _;obtain ⟨bG,ap,rfl,-,-⟩:=aj.form (by omega);obtain ⟨⟨ak,aU⟩,al⟩:=ai.exApp ⟨L, [],0,List.range b.length,0⟩ (.slice a8 b.length a9) aT aj;have co:=(show P.frozen? ⟨d,1,none⟩=false by simp [World.frozen?,ak]);have cp:=(show P.cell? ⟨d,1,none⟩=some (.slice bw b.length bx) by simp [World.cell?,ak]);have K:=Z al;have aV:=al.sz.1;clear aj aT ak aU al);clear cp co cn Y ar J au av aa aw aL aM ay bs bt bu bv;generalize P.setCell ⟨d,1,none⟩ (.slice (some ⟨bG,0,none⟩) (b.length+1) ap)=dd at K aV ⊢;obtain ⟨⟨dg,-,-,-,-,-,-⟩,aW,-⟩:=K.cells;have dh:=aW 0;have J:=(zfo ((K.low.block (w.heap.size+1+1) (by omega)).trans aI)).1.2.2.1;clear aW;go_upto_region 24 with (at_builtin;refine yS rfl _ _ 68 rfl 149 _ 6 72 underlying68 Ys rfl (by decide) #[_,_,_,_,_,_] _ _ _ _ K.st rfl rfl rfl (by intro ba n;simp at n;rcases n with rfl | rfl | rfl | rfl | rfl | rfl<;>rfl) aV (by omega) (by unfold maxLen;omega) ?_;intro de aC am aX _;obtain ⟨cq,aE,rfl,-,-⟩:=am.form (by omega);obtain ⟨bJ,aD⟩:=K.stApp ⟨2,0, [122], [],b.length,0⟩ (.slice none 0 0) aX am;have di:=(show aC.frozen? ⟨d,0,none⟩=false by simp [World.frozen?,bJ]);have dj:=(show aC.cell? ⟨d,0,none⟩=some (.slice aO b.length aP) by simp [World.cell?,bJ]);have an:=Z aD;have dk:=aD.sz.1;clear am aX bJ aD);clear dj di dh dg J;generalize aC.setCell ⟨d,0,none⟩ (.slice (some ⟨cq,0,none⟩) (b.length+1) aE)=dl at an dk ⊢;obtain ⟨⟨aL,aM,ay,-,-,-,-⟩,-,-⟩:=an.cells;have t:=cd.trans (an.low.mono (show w.heap.size≤k by omega));have cr:=LkSt.tree ⟨o,l,b,0,0,0, []⟩ aJ rfl df bk b1 (by rw [zbj,Zw,bk,aJ.out];exact an) ((b7.base (Nat.zero_le _)).later t);have Q:=cG.out;rw [cK.out] at Q;have d7:aF.length=b.length+1:=by
    obtain ⟨dm,dp,dq,dr⟩:=zby Q;have ds:=ZP _ 0 _ dp (QC dm).2 dq;rw [←dr,ds,List.length_replicate,Zw,List.length_append,zko];rfl
   have cs:=zfc _ _ _ _ _ _ dl cr (cI.below t) (by have:=cJ.out;have:=t.size;omega) aF Q;have dt:=Z cs;have ct:=Z t;clear cr Q cs t;go_upto_region 25 with (go_at_call 66;refine dt.mono ?_;rintro q ab ⟨d8,rfl,N,cu⟩;obtain ⟨du,dv,rfl⟩:=N.form;have dw:=Z N;have bK:=Z cu;clear N cu);have cv:=bK.block (w.heap.size+1+1) (by omega);obtain ⟨⟨Y,ar,J,au,av,aa,aw⟩,-⟩:=zfo (cv.trans ((an.low.block (w.heap.size+1+1) (by omega)).trans aI));have dx:=(bK.cell (p:=⟨k,0,none⟩) (by show k < _;omega)).trans ay;obtain ⟨dy,cw,bL⟩:=dw.out;have dz:=bL.length;obtain ⟨cx,dA,cy,-,-,-,bM,-,-⟩:=zm cw b.length (by omega);obtain ⟨rfl,rfl⟩:du=some ⟨cx,0,none⟩∧dv=dA:=by simpa [dz] using cy
   rw [List.getElem?_eq_getElem (by omega)] at bM;have aY:=bL.get b.length (by omega) (by omega);have cz:aF[b.length]'(by omega)=l:=by rw [←cH.out];simp [List.getD,show b.length<aF.length by omega]
   rw [cz] at aY;generalize dy[b.length]'(by omega)=d9 at aY bM;obtain ⟨cA,cB,rfl,-,-⟩:=qg aY;have cC:=Z (ct.trans (bK.mono ct.size));have bN:=Qu (.slice cA l.length cB) (.slice C l.length H) l l ab.drew (Arr.of_owns (Below.owns aY (Below.refl _ _).drew)) (Arr.of_owns (Below.owns b4 cC.drew));rw [show decide (l=l)=true by simp] at bN;have dB:=Z bN;have ea:((L:Int)==0)=false:=by simp;omega
   have eb:((L:Int) != 0)=true:=by simp;omega
   have ec:(b.length:Int)≤3:=by omega
   have ed:(b.length:Int)<(aF.length:Int):=by omega
   have ee:(b.length:Int)<(b.length:Int)+1:=by omega
   have ef:(0:Int)≤(b.length:Int):=by omega
   clear bN cz cw bL aY cy cv aL aM ay;refine rg (fun j=>j.cell? ⟨k,0,none⟩=some (.int .i64 (L:Int))∧j.cell? ⟨w.heap.size+1+1,1,none⟩=some (.slice C l.length H)∧j.cell? ⟨w.heap.size+1+1,2,none⟩=some (.slice v b.length r)∧j.cell? ⟨w.heap.size+1+1,3,none⟩=some (.int .i64 0)∧j.cell? ⟨w.heap.size+1+1,4,none⟩=some (.int .i64 0)∧j.cell? ⟨w.heap.size+1+1,6,none⟩=some (.slice none 0 0)∧j.cell? ⟨cx,b.length,none⟩=some (.slice cA l.length cB)) ⟨dx,ar,J,au,av,aw,bM⟩ (fun f=> ?_);refine tk 0 ?_;refine tk 1 ?_;refine tk 2 ?_;refine tk 3 ?_;refine tk 4 ?_;refine tk 5 ?_;refine tk 6 ?_;refine tk 7 ?_;refine tk 8 ?_;refine tk 9 ?_;refine tk 10 ?_;refine tk 11 ?_;refine tk 12 ?_;refine tk 13 ?_;refine tk 14 ?_;refine tk 15 ?_;refine tk 16 ?_;refine tk 17 ?_;refine tk 18 ?_;refine tk 19 ?_;refine tk 20 ?_;refine tk 21 ?_;refine rd1 22 (fun e c=> ?_)
   (go_simp;go_at_call 21;refine dB.mono ?_;rintro q eg ⟨rfl,eh,rfl⟩;(try dsimp only))
   refine c _ _ (show _∧_ from f) (fun f=>nx ?_);clear c e;refine tk 23 ?_;refine tk 24 ?_;refine tk 25 ?_;refine tk 26 ?_;refine tk 27 ?_;refine tk 28 ?_;refine tk 29 ?_;refine tk 30 ?_;refine tk 31 ?_;refine tk 32 ?_;refine tk 33 ?_;refine tk 34 ?_;refine tk 35 ?_;refine tk 36 ?_;refine tk 37 ?_;refine tk 38 ?_;refine dn ?_;go_wp2_with fail;go_ret;exact ⟨rfl,qC cC.drew _⟩
theorem zkf :∀(d:List MNode) (b:Nat),zn6 g b d=true→∀a,∀c:a<d.length,zei g (b+a) d[a]=true
 |[],_,_,a,c=>absurd c (Nat.not_lt_zero _)
 |f::d,b,c,a,e=>by
  simp only [zn6,Bool.and_eq_true] at c;cases a with
  |zero=>exact c.1
  |succ a=>
   have:=zkf d (b+1) c.2 a (by simpa using e);rw [show b+(a+1)=b+1+a by omega];simpa using this
def zpm (g:MGraph):Prop:=∀a∈g.nodes,a.kind≠2∧a.kind≠9∧a.kind≠7∧a.kind≠14
theorem zfz (w:World)(f:GAt B w D G h A g E F)(n:yC w)(v:0<w.heap.size)(i:ziX g=true)(o:zpm g)(p:g.outs.length≤1000):
  Calls prog 72 #[.agg #[D,G,h,A]] w (qM .nilIface w):=by
 simp only [ziX,Bool.and_eq_true,decide_eq_true_eq,List.all_eq_true] at i;obtain ⟨⟨⟨⟨⟨j,q⟩,r⟩,s⟩,t⟩,u⟩:=i;refine zi1 w f j q r s u p fun k a b c=> ?_
 have d:=zkf g.nodes 0 t a b;rw [Nat.zero_add] at d;have x:=c.size;have l:=f.later c;have e:=o _ (List.getElem_mem b)
 by_cases m:g.nodes[a].kind=1
 ·exact zoq k l a b m d ⟨by omega,by omega⟩
 ·exact zlh k l (n.below c) (by omega) a b j ⟨m,e.1,e.2.1⟩ e.2.2 d
end Go.Proofs.YtklofgfkaaoipaaGreatDoor
