/-
  THE PLAIN MIRRORS of dag.Build (without options) and dag.Check.
-/
import Derived.Test.YtklofgfkaaoipaaGreatDoorMTypePlain
import Derived.Test.YtklofgfkaaoipaaGreatDoorMChk7
import Derived.Test.YtklofgfkaaoipaaGreatDoorMParB
import Derived.Deep.RegionLaw
import Derived.Test.YtklofgfkaaoipaaGreatDoorMMem
import Derived.Deep.AppendLies
import Derived.Test.YtklofgfkaaoipaaGreatDoorMGate
import Derived.Test.YtklofgfkaaoipaaGreatDoorMHd
set_option maxHeartbeats 16000000
set_option maxRecDepth 100000
set_option linter.unusedSimpArgs false
set_option linter.unusedVariables false
namespace Go.Proofs.YtklofgfkaaoipaaGreatDoor
open Go.Proofs.Tryz
structure MNode where
 kind:Int
 shape:List Int
 args:List Int
 party:Int
 input:Int
 k:Int
 elems:List Nat
structure MGraph where
 nodes:List MNode
 outs:List Int
 in0:List (List Int)
 in1:List (List Int)
def zac (k:Int):Nat:=if 3≤k∧k≤14 then k.toNat else 0
def MGraph.ins (g:MGraph)(p:Int):List (List Int):=if p=0 then g.in0 else g.in1
def zbT (a:List (List Int)):List MStmt:=(a.zipIdx.map fun b=>⟨1,0, [97+b.2%26],b.1,0,0⟩)++[⟨2,0, [122], [],a.length,0⟩]
def zc2 (n:MNode)(m:Nat):List MExpr:=((List.range m).map fun a=>⟨2, [97+a%26],0, [],0⟩)++[⟨zac n.kind, [],n.k.toNat,List.range m,0⟩]
def zei (g:MGraph)(i:Nat)(n:MNode):Bool:=
 if qN n.shape=0∨n.k<0∨n.args.any (fun a=>decide (a<0)||decide ((i:Int)≤a)) then false
 else if n.kind=1 then (decide (n.party=0)||decide (n.party=1))&&decide (0≤n.input)&&decide (n.input<(g.ins n.party).length)&&decide ((g.ins n.party).getD n.input.toNat []=n.shape)&&decide ((n.args.length:Int)+n.elems.length+n.k=0)
 else if n.kind=2 then decide ((n.elems.length:Int)=qN n.shape)&&decide ((n.args.length:Int)+n.k+n.input=0)&&decide (n.party=0)
 else if n.kind≠9∧n.k≠0 then false
 else match zbc (zbT (n.args.map fun a=>(g.nodes.map (·.shape)).getD a.toNat [])) (zc2 n n.args.length) with
  |.error _=>false
  |.ok b=>decide (zac n.kind≠0)&&decide (n.args.length≤3)&&decide (b.getD n.args.length []=n.shape)&&decide ((n.elems.length:Int)+n.input=0)&&decide (n.party=0)
def zn6 (g:MGraph):Nat→List MNode→Bool
 |_, []=>true
 |a,b::c=>zei g a b&&zn6 g (a+1) c
def ziX (g:MGraph):Bool:=
 decide (g.nodes.length≤64)&&decide (g.in0.length+g.in1.length≤8)&&g.in0.all (fun a=>decide (qN a≠0))&&g.in1.all (fun a=>decide (qN a≠0))&&zn6 g 0 g.nodes&&g.outs.all (fun b=>decide (0≤b)&&decide (b<g.nodes.length))
structure DB where
 nodes:List MNode
 names:List (List Nat×Nat)
 outs:List Int
 n0:Nat
 n1:Nat
def Yk (e:List MExpr)(names:List (List Nat×Nat))(shapes:List (List Int)):List Nat→Nat→List MNode→List Nat→List MNode×List Nat
 |[],_,c,d=>(c,d)
 |g::f,b,c,d=>
  if g=0 then Yk e names shapes f (b+1) c d
  else
   let a:=e.getD b ⟨0, [],0, [],0⟩
   if a.kind=2 then Yk e names shapes f (b+1) c (d.set b ((names.lookup a.name).getD 0))
   else Yk e names shapes f (b+1) (c++[⟨zck a.kind,shapes.getD b [],a.args.map fun h=>(d.getD h 0:Nat),0,0,if a.kind=9 then a.num else 0,if a.kind=1 then [a.num] else []⟩]) (d.set b c.length)
def zfl (c:List MExpr)(shapes:List (List Int))(a:Nat)(b:DB):DB×Nat:=
 let d:=Yk c b.names shapes (YK c a) 0 b.nodes (List.replicate (a+1) 0)
 ({b with nodes:=d.1},d.2.getD a 0)
def Zh (d:List MExpr)(shapes:List (List Int)):List MStmt→DB→Except Int DB
 |[],a=> .ok a
 |b::f,a=>
  let e:=if b.kind=1 then {a with nodes:=a.nodes++[⟨1,b.shape, [],b.party,if b.party=0 then a.n0 else a.n1,0, []⟩],names:=a.names++[(b.name,a.nodes.length)],n0:=if b.party=0 then a.n0+1 else a.n0,n1:=if b.party=0 then a.n1 else a.n1+1}
   else if b.kind=2 then let c:=zfl d shapes b.expr a;{c.1 with names:=c.1.names++[(b.name,c.2)]}
   else {a with outs:=a.outs++[(((a.names.lookup b.name).getD 0:Nat):Int)]}
  if 64<e.nodes.length then .error 160 else Zh d shapes f e
def zeh (a:List MStmt)(c:List MExpr):Except Int MGraph:=
 match zbc a c with
 |.error b=> .error b
 |.ok e=>
  if 64<(qL a 0).length+(qL a 1).length+(c.filter fun b=>b.kind != 2).length then .error 160
  else match Zh c e a ⟨[], [], [],0,0⟩ with
   |.error b=> .error b
   |.ok d=> .ok ⟨d.nodes,d.outs,qL a 0,qL a 1⟩
theorem ok1:(match zh0 [105,110,112,117,116,32,48,32,120,32,91,93,59,32,105,110,112,117,116,32,49,32,121,32,91,93,59,32,108,101,116,32,122,32,61,32,120,32,42,32,121,59,32,111,117,116,112,117,116,32,122,59] with | .error _=>none | .ok b=>match zeh b.1 b.2 with | .error _=>none | .ok a=>if ziX a then some (a.nodes.map (fun c=>(c.kind,c.args)),a.outs,a.in0,a.in1) else none)
  =some ([(1, []),(1, []),(6, [0,1])], [2], [[]], [[]]):=by decide +kernel
end Go.Proofs.YtklofgfkaaoipaaGreatDoor
namespace Go.Proofs.YtklofgfkaaoipaaGreatDoor
open Go.RowKit Go.Proofs.Tryz
variable {w Q W D U:World}{b n B k M C N K R X:Nat}{f:List Nat→Option Value}{E F h A v:Value}{G H T:List Value}{l I J L O:List (List Int)}{x:List Int}
theorem zqu (w:World):(zeroValue 3).run prog w= .ok (.int .i64 0) w:=by kernel_rfl
def Q5 (w:World)(b n:Nat)(f:List Nat→Option Value):Prop:=
 ∃c:DataW Value,w.ownsMap prog 9 zdx b n c∧∀a,(∀e∈a,e<256)→∀d,c.atKey (zhK a) d=match f a with | some g=> .held g | none=>d
theorem Q5.made (w:World):Q5 (w.alloc (.map #[] 0)) w.heap.size 0 (fun _=>none):=⟨_,World.ownsMap_made _ _ _ _,fun _ _ _=>rfl⟩
theorem Q5.lt (a:Q5 w b n f):b<w.heap.size:=by obtain ⟨_,c,_⟩:=a;exact c.lt
theorem Q5.kept {a:Option Nat}(c:Q5 w b n f)(d:w.grownBy Q a)(e:some b≠a):Q5 Q b n f:=by obtain ⟨g,h,i⟩:=c;exact ⟨g,h.kept d e,i⟩
theorem Q5.mono {a:Nat}(c:Q5 w b n f)(d:n≤a):Q5 w b a f:=by obtain ⟨e,g,h⟩:=c;exact ⟨e,g.mono d,h⟩
theorem Q5.look (j:Q5 w b n f)(x:List Nat)(k:x.length≤10000)(l:∀m∈x,m<256):
  (Instr.lookup 140 (.map (some b)) (.string (qx x)) false).run prog w= .ok (match f x with | some d=>d | none=> .int .i64 0) w:=by
 obtain ⟨_,⟨_,_,o,p,_,rfl⟩,q⟩:=j;have e:=q x l;rcases Maps.fit_look false zgr underlying140 (zqu _) o p (zgs x k) with ⟨g,_,c⟩ | ⟨h,i,_,_,g,r,c,_⟩
 ·rcases hf:f x with _ | d
  ·rw [g];rfl
  ·exfalso
   have a:=e .nil;rw [c .nil,hf] at a;cases a
 ·obtain rfl:i=(.held h.val, []):=by have:zdx h.val=some i:=r;unfold zdx at this;exact (Option.some.inj this).symm
  rcases hf:f x with _ | d
  ·exfalso
   have a:=e .nil;rw [c .nil,hf] at a;cases a
  ·have a:=e .nil
   rw [c .nil,hf] at a;simp only [DataW.held.injEq] at a;rw [g,a];rfl
theorem Q5.put (h:Q5 w b n f)(q:n<1000000)(x:List Nat)(i:x.length≤10000)(j:∀k∈x,k<256)(v:Value):
  ∃a,(Instr.mapUpdate 140 (.map (some b)) (.string (qx x)) v).run prog w= .ok () a∧Q5 a b (n+1) (fun c=>if c=x then some v else f c)∧w.grownBy a (some b):=by
 obtain ⟨_,e,l⟩:=h;obtain ⟨a,m,o,p⟩:=e.update zgr underlying140 (by unfold maxLen;omega) (zgs x i) (show zdx v=some (.held v, []) from rfl);refine ⟨a,m,⟨_,o,fun c g _=> ?_⟩,p⟩
 by_cases d:c=x
 ·subst d
  simp only [if_true];rw [Maps.atKey_put_same e.isMap (by simp [zhK,WideAt.IsKeyLit])]
 ·simp only [d,if_false]
  rw [Maps.atKey_put_other (zmP g j d),l c g]
def ncl:List MNode→List Value→List Value→List Value
 |a::b,c::d,e::f=> .int .i64 a.kind::c::e:: .int .i64 a.party:: .int .i64 a.input:: .int .i64 a.k:: .slice none 0 0::ncl b d f
 |_,_,_=>[]
theorem zeJ:∀(b:List MNode) (c d:List Value) (a:MNode) (e f:Value),c.length=b.length→d.length=b.length→
  ncl (b++[a]) (c++[e]) (d++[f])=ncl b c d++[.int .i64 a.kind,e,f,.int .i64 a.party,.int .i64 a.input,.int .i64 a.k,.slice none 0 0]
 |[], [], [],a,e,f,_,_=>rfl
 |i::b,j::c,k::d,a,e,f,g,h=>by
  simp only [List.cons_append,ncl];rw [zeJ b c d a e f (by simpa using g) (by simpa using h)]
theorem zgL:∀(b:List MNode) (c d:List Value) (a:Nat) (g:a<b.length) (h:a<c.length) (i:a<d.length),(ncl b c d)[a * 7]? =some (.int .i64 b[a].kind)∧(ncl b c d)[a * 7+1]? =some c[a]∧(ncl b c d)[a * 7+2]? =some d[a]∧
  (ncl b c d)[a * 7+3]? =some (.int .i64 b[a].party)∧(ncl b c d)[a * 7+4]? =some (.int .i64 b[a].input)∧(ncl b c d)[a * 7+5]? =some (.int .i64 b[a].k)∧(ncl b c d)[a * 7+6]? =some (.slice none 0 0)
 |j::b,k::c,l::d,0,_,_,_=>by simp [ncl]
 |j::b,k::c,l::d,a+1,g,h,i=>by
  have ih:=zgL b c d a (by simpa using g) (by simpa using h) (by simpa using i);have e:∀f,(ncl (j::b) (k::c) (l::d))[(a+1) * 7+f]? =(ncl b c d)[a * 7+f]? :=fun f=>by
   have:(a+1) * 7+f=a * 7+f+7:=by omega
   rw [this];simp [ncl]
  have m:=e 0;simp only [Nat.add_zero] at m;rw [m,e 1,e 2,e 3,e 4,e 5,e 6];simpa using ih
structure GAt (B:Nat)(w:World)(nv ov i0 i1:Value)(g:MGraph)(shs ars:List Value):Prop where
 nodes:w.ownsRow B 154 7 nv g.nodes.length (ncl g.nodes shs ars)
 sh:qj B w shs (g.nodes.map (·.shape))
 ar:qj B w ars (g.nodes.map (·.args))
 outs:w.ownsRow B 3 1 ov g.outs.length (ints g.outs)
 in0:qO B w i0 g.in0
 in1:qO B w i1 g.in1
 el:∀n∈g.nodes,n.elems=[]
variable {g:MGraph}
theorem GAt.later (a:GAt B w E F h A g G H)(b:Below w.heap.size w Q):GAt B Q E F h A g G H:=
 ⟨Below.owns a.nodes b,a.sh.later b,a.ar.later b,Below.owns a.outs b,a.in0.later b,a.in1.later b,a.el⟩
theorem GAt.base {B':Nat}(a:GAt B w E F h A g G H)(b:B'≤B):GAt B' w E F h A g G H:=
 ⟨qk a.nodes b,a.sh.base b,a.ar.base b,qk a.outs b,a.in0.base b,a.in1.base b,a.el⟩
theorem GAt.node (c:GAt B w E F h A g G H)(k:Nat)(d:k<g.nodes.length):
  ∃a l e f,E= .slice (some ⟨a,0,none⟩) g.nodes.length l∧a<w.heap.size∧w.ownsRow B 3 1 e g.nodes[k].shape.length (ints g.nodes[k].shape)∧w.ownsRow B 3 1 f g.nodes[k].args.length (ints g.nodes[k].args)∧
   w.cell? ⟨a,k * 7,none⟩=some (.int .i64 g.nodes[k].kind)∧w.cell? ⟨a,k * 7+1,none⟩=some e∧w.cell? ⟨a,k * 7+2,none⟩=some f∧w.cell? ⟨a,k * 7+3,none⟩=some (.int .i64 g.nodes[k].party)∧w.cell? ⟨a,k * 7+4,none⟩=some (.int .i64 g.nodes[k].input)∧
   w.cell? ⟨a,k * 7+5,none⟩=some (.int .i64 g.nodes[k].k)∧w.cell? ⟨a,k * 7+6,none⟩=some (.slice none 0 0):=by
 have y:G.length=g.nodes.length:=by have:=c.sh.length;simpa using this
 have z:H.length=g.nodes.length:=by have:=c.ar.length;simpa using this
 obtain ⟨_,m,n,-,o⟩:=qg c.nodes;obtain ⟨a,rfl,-,p,b⟩:=o (by omega);obtain ⟨q,r,s,t,u,v,x⟩:=zgL g.nodes G H k d (by omega) (by omega);have i:=c.sh.get k (by omega) (by simpa using d);have j:=c.ar.get k (by omega) (by simpa using d);simp only [List.getElem_map] at i j;exact ⟨a,m,G[k],H[k],n,p,i,j,(b _ (by omega)).trans q,(b _ (by omega)).trans r,(b _ (by omega)).trans s,(b _ (by omega)).trans t,(b _ (by omega)).trans u,(b _ (by omega)).trans v,(b _ (by omega)).trans x⟩
structure BMod (B:Nat)(W W':World):Prop where
 low:Below B W W'
 ty:∀(b:Nat) (cs:Array Value) (t:TypeId) (fr:Nat×Nat),W.heap[b]? =some (Obj.cells cs t fr)→t≠142→t≠154→W'.heap[b]? =some (Obj.cells cs t fr)
 mp:∀(b:Nat) es clock,W.heap[b]? =some (Obj.map es clock)→W'.heap[b]? =some (Obj.map es clock)
theorem BMod.refl (B:Nat)(W:World):BMod B W W:=⟨Below.refl _ _,fun _ _ _ _ a _ _=>a,fun _ _ _ a=>a⟩
theorem BMod.trans {d e:World}(b:BMod B W d)(k:BMod B d e):BMod B W e:=⟨b.low.trans k.low,fun a f g h c i j=>k.ty a f g h (b.ty a f g h c i j) i j,fun a l m c=>k.mp a l m (b.mp a l m c)⟩
theorem BMod.below (b:Below W.heap.size W D)(d:B≤W.heap.size):BMod B W D:=⟨b.mono d,fun c _ _ _ a _ _=>(b.block c (qd a)).trans a,fun c _ _ a=>(b.block c (qd a)).trans a⟩
theorem BMod.grown {j:Option Nat}(f:W.grownBy D j)(n:B≤W.heap.size)(g:∀b,j=some b→B≤b∧∃k e l,W.heap[b]? =some (Obj.cells k e l)∧(e=142∨e=154)):BMod B W D:=by
 refine ⟨Qq f n fun b o=>(g b o).1,fun c k e l a p q=>(f.block c (qd a) fun h=> ?_).trans a,fun c _ _ a=>(f.block c (qd a) fun h=> ?_).trans a⟩
 ·obtain ⟨-,r,s,t,d,m⟩:=g c h.symm
  rw [a] at d;cases d;rcases m with i | i
  ·exact p i
  ·exact q i
 ·obtain ⟨-,r,s,t,d,m⟩:=g c h.symm
  rw [a] at d;cases d
theorem BMod.owns (f:BMod B W D){t:TypeId}{c:List Value}(a:W.ownsRow b t k v n c)(g:t≠142)(h:t≠154):D.ownsRow b t k v n c:=by
 rcases a.2 with i | ⟨d,j,e,l,m,o,p⟩
 ·exact ⟨a.1,.inl i⟩
 ·exact ⟨a.1,.inr ⟨d,j,e,l,m,f.ty d e t _ o g h,p⟩⟩
theorem BMod.nest (a:BMod B W D):∀{c:List Value} {d:List (List Int)},qj b W c d→qj b D c d
 |[], [],_=>trivial
 |_::_,_::_,e=>⟨a.owns e.1 (by decide) (by decide),a.nest e.2⟩
theorem BMod.sh (a:BMod B W D)(k:qO b W v l):qO b D v l:=by
 obtain ⟨c,d,e⟩:=k;exact ⟨c,a.owns d (by decide) (by decide),a.nest e⟩
theorem BMod.smap (c:BMod B W D)(k:Q5 W M n f):Q5 D M n f:=by
 obtain ⟨_,⟨a,b,d,e,g,rfl⟩,h⟩:=k;exact ⟨_,⟨a,b,c.mp M a b d,e,g,rfl⟩,h⟩
def zpb (W:World)(c n:Nat)(names:List (List Nat×Nat)):Prop:=
 ∃b,Q5 W c n b∧∀a,(∀d∈a,d<256)→b a=(names.lookup a).map fun e=> .int .i64 (e:Int)
structure BuSt (B C M n:Nat)(nv ov i0 i1:Value)(shs ars:List Value)(b:DB)(in0 in1:List (List Int))(W:World):Prop where
 blk:W.heap[C]? =some (.cells #[.bool false,.bool false,.bool false,nv,ov,i0,i1,.map (some M)] 142 (0,0))
 nodes:W.ownsRow B 154 7 nv b.nodes.length (ncl b.nodes shs ars)
 sh:qj B W shs (b.nodes.map (·.shape))
 ar:qj B W ars (b.nodes.map (·.args))
 outs:W.ownsRow B 3 1 ov b.outs.length (ints b.outs)
 in0:qO B W i0 in0
 in1:qO B W i1 in1
 map:zpb W M n b.names
 hC:B≤C
 hM:B≤M
 b0:0<B
 eT:yC W
 el:∀n∈b.nodes,n.elems=[]
 le:b.nodes.length≤1000
theorem BuSt.lt {b:DB}(a:BuSt B C M n E F h A G H b I J W):C<W.heap.size:=qd a.blk
theorem BuSt.blt {b:DB}(a:BuSt B C M n E F h A G H b I J W):B≤W.heap.size:=by have:=a.hC;have:=a.lt;omega
theorem BuSt.later {b:DB}(a:BuSt B C M n E F h A G H b I J W)(c:Below W.heap.size W D):BuSt B C M n E F h A G H b I J D:=
 ⟨(c.block _ a.lt).trans a.blk,Below.owns a.nodes c,a.sh.later c,a.ar.later c,Below.owns a.outs c,a.in0.later c,a.in1.later c,by
  obtain ⟨d,e,f⟩:=a.map;exact ⟨d,e.kept (yI c) (by simp),f⟩,a.hC,a.hM,a.b0,a.eT.below c,a.el,a.le⟩
theorem BuSt.cells {b:DB}(c:BuSt B C M n E F h A G H b I J W):
  (W.cell? ⟨C,0,none⟩=some (.bool false)∧W.cell? ⟨C,1,none⟩=some (.bool false)∧W.cell? ⟨C,2,none⟩=some (.bool false)∧W.cell? ⟨C,3,none⟩=some E∧W.cell? ⟨C,4,none⟩=some F∧W.cell? ⟨C,5,none⟩=some h∧W.cell? ⟨C,6,none⟩=some A∧W.cell? ⟨C,7,none⟩=some (.map (some M)))∧
  ∀a,W.frozen? ⟨C,a,none⟩=false:=by
 have d:=c.blk;refine ⟨⟨?_,?_,?_,?_,?_,?_,?_,?_⟩,fun a=> ?_⟩<;>simp [World.cell?,World.frozen?,d]
theorem BuSt.add {b:DB}{c:World}{f k l:Value}(a:BuSt B C M n E F h A G H b I J W)(d:MNode)(P:b.nodes.length<1000)(q:d.elems=[])(m:W.grownBy c E.ownBlock)
  (r:W.ownsRow B 3 1 k d.shape.length (ints d.shape)) (s:W.ownsRow B 3 1 l d.args.length (ints d.args))
  (t:c.ownsRow B 154 7 f (b.nodes.length+1) (ncl b.nodes G H++[.int .i64 d.kind,k,l,.int .i64 d.party,.int .i64 d.input,.int .i64 d.k,.slice none 0 0])):
  c.heap[C]? =some (.cells #[.bool false,.bool false,.bool false,E,F,h,A,.map (some M)] 142 (0,0))∧BMod B W (c.setCell ⟨C,3,none⟩ f)∧
   BuSt B C M n f F h A (G++[k]) (H++[l]) {b with nodes:=b.nodes++[d]} I J (c.setCell ⟨C,3,none⟩ f):=by
 have u:BMod B W c:=BMod.grown m a.blt fun o j=>by
  rcases a.nodes.2 with ⟨rfl,_⟩ | ⟨v,_,_,rfl,w,g,_⟩
  ·cases j
  ·obtain rfl:v=o:=by simpa [Value.ownBlock] using j
   exact ⟨w,_,_,_,g,.inr rfl⟩
 have g:c.heap[C]? =some (.cells #[.bool false,.bool false,.bool false,E,F,h,A,.map (some M)] 142 (0,0)):=(m.block C a.lt fun x=>yz a.nodes a.blk (by decide) x.symm).trans a.blk;have y:BMod B c (c.setCell ⟨C,3,none⟩ f):=BMod.grown (qh c C 3 f) (by have:=m.size;have:=a.blt;omega) (fun o j=>by
  obtain rfl:C=o:=by simpa using j
  exact ⟨a.hC,_,_,_,g,.inl rfl⟩)
 have e:=u.trans y;have z:G.length=b.nodes.length:=by have:=a.sh.length;simpa using this
 have D:H.length=b.nodes.length:=by have:=a.ar.length;simpa using this
 refine ⟨g,e,⟨by rw [heap_setCell g];rfl,?_,?_,?_,e.owns a.outs (by decide) (by decide),e.sh a.in0,e.sh a.in1,?_,a.hC,a.hM,a.b0,?_,?_,by simp;omega⟩⟩
 ·rw [zeJ _ _ _ _ _ _ z D,List.length_append]
  exact qp t (qh c C 3 f) (Off.block g (by decide))
 ·rw [List.map_append];exact (e.nest a.sh).append ⟨e.owns r (by decide) (by decide),trivial⟩
 ·rw [List.map_append];exact (e.nest a.ar).append ⟨e.owns s (by decide) (by decide),trivial⟩
 ·obtain ⟨K,i,L⟩:=a.map
  exact ⟨K,e.smap i,L⟩
 ·unfold yC;rw [e.low.cell (p:=⟨0,0,none⟩) a.b0];exact a.eT
 ·intro N O
  rcases List.mem_append.1 O with i | i
  ·exact a.el N i
  ·simp at i;subst i;exact q
theorem zcR (a:List MStmt)(p q:Nat)(b:p<a.length):qL (a.take (p+1)) q=qL (a.take p) q++(if a[p].kind=1∧a[p].party=q then [a[p].shape] else []):=by
 unfold qL;rw [List.take_add_one,List.getElem?_eq_getElem b,List.filter_append,List.map_append]
 congr 1
 simp only [Option.toList,List.filter_cons,List.filter_nil]
 by_cases c:a[p].kind=1<;>by_cases d:a[p].party=q<;>simp [c,d]
theorem zdR (a:List MStmt)(q:Nat):(qL a q).length≤a.length:=by unfold qL;rw [List.length_map];exact List.length_filter_le _ _
theorem YA {P:Program}{ops:Array Oper}{o:Oper}{a:Act}{l:Act→World→Prop}{q:Exit→Act→World→Prop}{r:Prop}{w0:World}(u:o.guard=none)(s x:Operand)(t:TypeId)
  (w:o.op= .call {callee:= .builtin .append,args:=#[s,x],argTypes:=#[t,t]}) (e:TypeId) (z:Value) (k i:Nat)
  (y:P.underlying t=some (.slice e)) (A:(P.info? e).map (fun d=>(d.zero,d.size,d.bytes))=some (some z,k,i)) (B:z.cells.size=k) (C:0<k)
  (b:Array Value) (n base:Nat) (v:Value) (j:List Value) (D:w0.ownsRow base e k v n j) (E:a.eval s=v) (F:a.eval x= .slice (some ⟨w0.heap.size,0,none⟩) 1 1)
  (G:b.size=k) (H:∀m∈b.toList,m.oneCell'=true) (T:base≤w0.heap.size) (I:(n+1) * i≤140737488355328) (J:n+1≤maxLen)
  (K:∀c g f,f.ownsRow base e k (.slice (some ⟨c,0,none⟩) (n+1) g) (n+1) (j++b.toList)→w0.grownBy f v.ownBlock→(v.ownBlock=some c∨w0.heap.size≤c)→l (a.put o.dst (.slice (some ⟨c,0,none⟩) (n+1) g)) f):
  if Region.wanted o (yielded ops a.tmps)=true then Oper.wp P o a (w0.alloc (.cells b e)) l q else r:=by
 obtain ⟨d,L,M,N,O⟩:=info_parts A;refine step_append_lies _ u s x t w base e d z k i y L M N O B C v n j E (D.alloc _) ⟨w0.heap.size,0,none⟩ 1 1 b.toList F (by simp [G]) ?_ H (by omega) J I (by simp;omega) (w0.heap.size+1) (by simp) ?_
 ·intro h m p
  have:(w0.alloc (.cells b e)).cell? ⟨w0.heap.size,h,none⟩=b.toList[h]? :=by
   simp only [World.cell?,heap_alloc_new];simp
  rcases h with _ | h
  ·simpa [Addr.add] using this.trans p
  ·simpa [Addr.add] using this.trans p
 ·intro c g f Q R S _
  exact K c g f Q ((World.grownBy_alloc w0 _ _).trans R) (S.imp id fun e=>by omega)
theorem zmM:(prog.info? 28).map (·.size)=some 2:=by kernel_rfl
structure ISt (N D R:Nat)(l0 l1:List (List Int))(i0 i1:Value)(W:World):Prop where
 blk:W.heap[D]? =some (.cells #[i0,i1] 28 (0,0))
 res:W.heap[R]? =some (.cells #[.slice none 0 0,.slice none 0 0] 28 (0,0))
 ne:D≠R
 o0:qO N W i0 l0
 o1:qO N W i1 l1
 ap:∀g,i0.ownBlock=some g→i1.ownBlock≠some g
theorem ISt.later (a:ISt N K R L O h A W)(b:Below W.heap.size W D):ISt N K R L O h A D:=
 ⟨(b.block _ (qd a.blk)).trans a.blk,(b.block _ (qd a.res)).trans a.res,a.ne,a.o0.later b,a.o1.later b,a.ap⟩
theorem ISt.cells (a:ISt N K R L O h A W):W.cell? ⟨K,0,none⟩=some h∧W.cell? ⟨K,1,none⟩=some A∧∀b,W.frozen? ⟨K,b,none⟩=false:=
 ⟨(yL a.blk).1,(yL a.blk).2,fun b=>frz a.blk b⟩
theorem qO.apart {c:Option Nat}{o:Value}{e:List Value}(f:qO B W v l)(g:W.ownsRow b 24 k o n e)(d:W.grownBy D c)(h:c=o.ownBlock)(i:∀a,o.ownBlock=some a→v.ownBlock≠some a):qO B D v l:=by
 obtain ⟨j,m,p⟩:=f;subst h;refine ⟨j,m.kept d ?_,p.kept d (Off.owned g (by decide))⟩;rcases hv:v.ownBlock with _ | a
 ·exact .inl rfl
 ·exact .inr fun q=>i a q.symm hv
theorem ISt.add0 {g:Nat}(a:ISt N K R L O h A W)(d:W.ownsRow N 24 1 h T.length T)(k:qj N W T L)(l:W.ownsRow N 3 1 v x.length (ints x))(e:W.grownBy U h.ownBlock)
  (f:h.ownBlock=some g∨W.heap.size≤g) (m:U.ownsRow N 24 1 (.slice (some ⟨g,0,none⟩) (T.length+1) X) (T.length+1) (T++[v])):
  U.heap[K]? =some (.cells #[h,A] 28 (0,0))∧ISt N K R (L++[x]) O (.slice (some ⟨g,0,none⟩) (T.length+1) X) A (U.setCell ⟨K,0,none⟩ (.slice (some ⟨g,0,none⟩) (T.length+1) X)):=by
 have c:=(e.block K (qd a.blk) (fun b=>yz d a.blk (by decide) b.symm)).trans a.blk;have j:=(e.block R (qd a.res) (fun b=>yz d a.res (by decide) b.symm)).trans a.res;have i:=qh U K 0 (.slice (some ⟨g,0,none⟩) (T.length+1) X);refine ⟨c,by rw [heap_setCell c];rfl,(i.block R (qd j) (fun b=>a.ne (by simpa using b.symm))).trans j,a.ne,⟨T++[v],?_,?_⟩,?_,?_⟩
 ·exact qp (by simpa using m) i (Off.block c (by decide))
 ·exact ((k.kept e (Off.owned d (by decide))).append (show qj N U [v] [x] from ⟨qp l e (Off.owned d (by decide)),trivial⟩)).kept i (Off.block c (by decide))
 ·exact (a.o1.apart d e rfl a.ap).kept i (Off.block c (by decide)) (Off.block c (by decide))
 ·intro n o b
  obtain rfl:g=n:=by simpa [Value.ownBlock] using o
  rcases f with f | f
  ·exact a.ap g f b
  ·obtain ⟨_,p,-⟩:=a.o1
   have:=(p.lt g b).2;omega
theorem ISt.add1 {g:Nat}(a:ISt N K R L O h A W)(d:W.ownsRow N 24 1 A T.length T)(m:qj N W T O)(n:W.ownsRow N 3 1 v x.length (ints x))(e:W.grownBy U A.ownBlock)
  (f:A.ownBlock=some g∨W.heap.size≤g) (o:U.ownsRow N 24 1 (.slice (some ⟨g,0,none⟩) (T.length+1) X) (T.length+1) (T++[v])):
  U.heap[K]? =some (.cells #[h,A] 28 (0,0))∧ISt N K R L (O++[x]) h (.slice (some ⟨g,0,none⟩) (T.length+1) X) (U.setCell ⟨K,1,none⟩ (.slice (some ⟨g,0,none⟩) (T.length+1) X)):=by
 have c:=(e.block K (qd a.blk) (fun b=>yz d a.blk (by decide) b.symm)).trans a.blk;have l:=(e.block R (qd a.res) (fun b=>yz d a.res (by decide) b.symm)).trans a.res;have i:=qh U K 1 (.slice (some ⟨g,0,none⟩) (T.length+1) X);refine ⟨c,by rw [heap_setCell c];rfl,(i.block R (qd l) (fun b=>a.ne (by simpa using b.symm))).trans l,a.ne,?_,⟨T++[v],?_,?_⟩,?_⟩
 ·exact (a.o0.apart d e rfl (fun k j b=>a.ap k b j)).kept i (Off.block c (by decide)) (Off.block c (by decide))
 ·exact qp (by simpa using o) i (Off.block c (by decide))
 ·exact ((m.kept e (Off.owned d (by decide))).append (show qj N U [v] [x] from ⟨qp n e (Off.owned d (by decide)),trivial⟩)).kept i (Off.block c (by decide))
 ·intro k j b
  obtain rfl:g=k:=by simpa [Value.ownBlock] using b
  rcases f with f | f
  ·exact a.ap g j f
  ·obtain ⟨_,p,-⟩:=a.o0
   have:=(p.lt g j).2;omega
theorem zjd (bj bk:Value)(g:List MStmt)(aE:List MExpr)(bC bD:List Value)(w:World)(aF:TrAt w.heap.size w bj bk g aE bC bD)(aA:∀aS∈g,aS.kind=1→(aS.party=0∨aS.party=1)∧aS.shape.length≤2):
  Calls prog 67 #[.agg #[bj,bk]] w fun d a5=>∃Y aa,d= .returned (.agg #[Y,aa])∧qO w.heap.size a5 Y (qL g 0)∧qO w.heap.size a5 aa (qL g 1)∧Below w.heap.size w a5:=by
 have bE:=Z aF;have bF:=Z aA;have bY:=aF.ssm;obtain ⟨aT,_,_,aU,rfl,_,-,-⟩:=aF.ex.slots;obtain ⟨aG,_,_,aH,rfl,_,-,-⟩:=aF.stm.slots;have a6:=Z (qB w (.cells #[.slice aG g.length aH,.slice aT aE.length aU] 71) (.cells #[.slice none 0 0,.slice none 0 0] 28) (.cells #[.slice none 0 0,.slice none 0 0] 28));have aI:=Z (show ISt w.heap.size (w.heap.size+2) (w.heap.size+1) [] [] (.slice none 0 0) (.slice none 0 0) (((w.alloc (.cells #[.slice aG g.length aH,.slice aT aE.length aU] 71)).alloc (.cells #[.slice none 0 0,.slice none 0 0] 28)).alloc (.cells #[.slice none 0 0,.slice none 0 0] 28)) from
  ⟨by have:=heap_alloc_new ((w.alloc (.cells #[.slice aG g.length aH,.slice aT aE.length aU] 71)).alloc (.cells #[.slice none 0 0,.slice none 0 0] 28)) (.cells #[.slice none 0 0,.slice none 0 0] 28);simpa only [World.size_alloc] using this,
   QH _ (heap_alloc2_new w _ _),by omega,qO.nil _ _,qO.nil _ _,fun an bG=>by simp [Value.ownBlock] at bG⟩)
 clear aF aA;go_enter func67,ntmps67;go_wp2_with fail;generalize ((w.alloc (.cells #[.slice aG g.length aH,.slice aT aE.length aU] 71)).alloc (.cells #[.slice none 0 0,.slice none 0 0] 28)).alloc (.cells #[.slice none 0 0,.slice none 0 0] 28)=bZ at a6 aI ⊢;generalize bl:w.heap.size+2=m at aI ⊢;generalize bm:w.heap.size+1=ao at aI ⊢;have ap:=Z (And.intro bl bm);clear bl bm;go_loopg [9] g.length (fun an bH wr=>∃(l:Nat) (Y aa:Value),l≤g.length∧an=g.length-l∧bH= .int .i64 l∧Hid (ISt w.heap.size m ao (qL (g.take l) 0) (qL (g.take l) 1) Y aa wr)∧Hid (Below w.heap.size w wr))
 case atStart=>exact ⟨0,_,_,Nat.zero_le _,rfl,rfl,aI,a6⟩
 case round=>
  obtain ⟨l,Y,aa,_,_,rfl,aB,G⟩:=hrel;rename World=>wr
  clear aI a6;have aq:=G.size
  by_cases aV:l<g.length
  ·obtain ⟨bI,bJ,_,_,_,bn,bK,_,a7,aW,aX,aY,aZ,a0,a1⟩:=(bE.later G).stmt l aV
   obtain ⟨rfl,rfl⟩:aG=bI∧aH=bJ:=by simpa using bn
   subst bK;have aA:=bF.out g[l] (List.getElem_mem aV);have aC:=Z (zcR g l 0 aV);have aD:=Z (zcR g l 1 aV);have bo:=zdR (g.take l) 0;have bp:=zdR (g.take l) 1;rw [List.length_take] at bo bp;obtain ⟨h,i,rfl,-,-⟩:=qg a7;have b0:(0:Int)≤(l:Int):=by omega
   have b1:(l:Int)<(g.length:Int):=by omega
   have a2:=Z a7;clear bn a7;generalize g[l]=bL at aA aC aD a2 aW aX aY aZ a0 a1;obtain ⟨a3,a8,ab,b,ac,ad⟩:=bL;simp only at aA aC aD a2 aW aX aY aZ a0 a1;obtain ⟨aJ,bq⟩:∃aJ,qL (g.take l) 0=aJ:=⟨_,rfl⟩;obtain ⟨aK,br⟩:∃aK,qL (g.take l) 1=aK:=⟨_,rfl⟩;rw [bq] at bo aB aC;rw [br] at bp aB aD;clear bq br
   by_cases y:a3=1
   ·obtain ⟨bM,_⟩:=aA y
    subst y;have M:=(Below.refl wr.heap.size wr).alloc (Nat.le_refl _) (.cells #[.int .i64 1,.int .i64 a8,.string (qx ab),.slice h b.length i,.int .i64 ac,.int .i64 ad] 149);have a4:=heap_alloc_new wr (.cells #[.int .i64 1,.int .i64 a8,.string (qx ab),.slice h b.length i,.int .i64 ac,.int .i64 ad] 149);rcases bM with a9 | a9
    ·subst a9
     have ae:=Z (aC.trans (by rw [if_pos ⟨rfl,rfl⟩]:_=aJ++[b]));have af:=Z (aD.trans (by rw [if_neg (by simp)];exact List.append_nil _:_=aK));have t:=Z M;have L:=Z (aB.later M);have ar:=Z (Below.owns a2 M);have ag:=Z a4;have au:wr.heap.size<(wr.alloc (.cells #[.int .i64 1,.int .i64 0,.string (qx ab),.slice h b.length i,.int .i64 ac,.int .i64 ad] 149)).heap.size:=by simp
     obtain ⟨v,av,aw⟩:=L.o0;have bN:v.length≤900:=by have:=aw.length;omega
     obtain ⟨ax,ay,ba,-,-⟩:=qg av;obtain rfl:=ba;have s:=Z av;have ah:=Z aw;clear M a4 av aw;go_upto_region 6 with fail;generalize wr.alloc (.cells #[.int .i64 1,.int .i64 0,.string (qx ab),.slice h b.length i,.int .i64 ac,.int .i64 ad] 149)=k at t L ar ag au s ah ⊢;obtain ⟨bO,bb,bP,bc,bQ,bR⟩:=(show k.cell? ⟨wr.heap.size,0,none⟩=some (.int .i64 1)∧k.cell? ⟨wr.heap.size,1,none⟩=some (.int .i64 0)∧k.cell? ⟨wr.heap.size,2,none⟩=some (.string (qx ab))∧k.cell? ⟨wr.heap.size,3,none⟩=some (.slice h b.length i)∧k.cell? ⟨wr.heap.size,4,none⟩=some (.int .i64 ac)∧k.cell? ⟨wr.heap.size,5,none⟩=some (.int .i64 ad) by
      refine ⟨?_,?_,?_,?_,?_,?_⟩<;>simp [World.cell?,ag.out])
     obtain ⟨bS,bT,aL⟩:=L.cells;have b2:=aL 0;have bs:=qd L.blk;clear aL aW aX aY aZ a0 a1;refine rg (fun aM=>aM.cell? ⟨wr.heap.size,1,none⟩=some (.int .i64 0)∧aM.cell? ⟨wr.heap.size,3,none⟩=some (.slice h b.length i)) ⟨bb,bc⟩ (fun o=> ?_);refine tk 0 ?_;refine tk 1 ?_;refine tk 2 ?_;refine tk 3 ?_;refine tk 4 ?_;refine tk 6 ?_;refine tk 7 ?_;refine rd2 5 8 (fun c a=> ?_) (fun c a=> ?_)
     ·skip
      go_simp;refine a _ _ (by assumption) (fun o=>nx ?_);clear a c;refine rd1 8 (fun c a=> ?_)
      (go_simp;go_at_call 69;refine (zs _ b _ (Arr.of_owns (show k.drew.ownsRow 0 3 1 (.slice h b.length i) b.length (ints b) from ar)) (by omega)).mono ?_;rintro d n ⟨bd,rfl,H,N⟩;have ai:=Z H;have u:=(Below.refl k.heap.size k).drew.trans N;have f:=Z u;have z:=Z (L.later u);obtain ⟨aj,ak,rfl,-,-⟩:=qg H;have x:=(u.block wr.heap.size au).trans ag;have O:n.cell? ⟨wr.heap.size,3,none⟩=some (.slice h b.length i):=(by simp [World.cell?,x]);have P:n.cell? ⟨wr.heap.size,1,none⟩=some (.int .i64 0):=(by simp [World.cell?,x]);obtain ⟨be,bf,Q⟩:=z.cells;have bU:=Q 0;have bg:k.heap.size≤n.heap.size:=u.size;have al:wr.heap.size<n.heap.size:=(by omega);have bh:=qd z.blk;have I:w.heap.size≤n.heap.size:=(by omega);have J:=Z x;clear H N u x Q;have az:=And.intro P O;have am:=fun (R:Obj)=>(show (n.alloc R).cell? ⟨wr.heap.size,1,none⟩=some (.int .i64 0)∧(n.alloc R).cell? ⟨wr.heap.size,3,none⟩=some (.slice h b.length i) from ⟨Lib.cell?_alloc_some _ P,Lib.cell?_alloc_some _ O⟩);(try dsimp only))
      refine a _ _ az (fun o=>nx ?_);clear a c;refine rd1 9 (fun c a=> ?_);go_simp;refine a _ _ (am _) (fun o=>nx ?_);clear a c;refine rd1 10 (fun c a=> ?_)
      (refine YA (by rfl) _ _ 27 (by rfl) 24 _ 1 24 underlying27 Qv rfl (by decide) #[.slice aj b.length ak] v.length w.heap.size (.slice ax v.length ay) v (Below.owns s f) (by rfl) (by rfl) rfl (by simp [Value.oneCell']) I (by omega) (by unfold maxLen;omega) ?_;intro an aN p A q B;have e:=z.add0 (Below.owns s f) (ah.later f) (qk ai (by have:=G.size;have:=t.size;show w.heap.size≤k.heap.size;omega)) q B A;have S:=Z e.1;have r:=(q.block wr.heap.size al (fun d=>yz (Below.owns s f) J (by decide) d.symm)).trans J;have C:p.cell? ⟨wr.heap.size,1,none⟩=some (.int .i64 0):=(by simp [World.cell?,r]);have D:p.cell? ⟨wr.heap.size,3,none⟩=some (.slice h b.length i):=(by simp [World.cell?,r]);have T:=And.intro C D;have E:m≠wr.heap.size:=(fun d=>by have:=S.out;rw [d,r] at this;cases this);have U:=fun (F:Value)=>(show (p.setCell ⟨m,0,none⟩ F).cell? ⟨wr.heap.size,1,none⟩=some (.int .i64 0)∧(p.setCell ⟨m,0,none⟩ F).cell? ⟨wr.heap.size,3,none⟩=some (.slice h b.length i) from ⟨(World.cell?_setCell_other _ _ _ _ (by first | (simp;done) | (simp;exact fun d=>absurd d.symm E))).trans C,(World.cell?_setCell_other _ _ _ _ (by first | (simp;done) | (simp;exact fun d=>absurd d.symm E))).trans D⟩);have aO:=(yL e.1).1;have aP:=(yL e.1).2;have aQ:=frz e.1 0;have V:=Z e.2;have W:=Z q;clear A q B e r)
      refine a _ _ T (fun o=>nx ?_);clear a c;refine tk 11 ?_;refine rd1 12 (fun c a=> ?_);go_simp;refine a _ _ (U _) (fun o=>nx ?_);clear a c;refine dn ?_;go_wp2_with fail;go_roundg (g.length-(l+1))
      case measure=>omega
      case rel=>exact ⟨l+1,_,aa,by omega,rfl,by go_num,Z (by rw [ae.out,af.out];exact V),Z (((((G.trans (t.mono aq)).trans (f.mono (by have:=t.size;omega)))).grown W I (fun K y=>((Below.owns s f).lt K y).1)).setCell (p:=⟨m,0,none⟩) (by have:=ap.1;show w.heap.size≤m;omega) _)⟩
     ·skip
      (go_simp;go_at_call 69;refine (zs _ b _ (Arr.of_owns (show k.drew.ownsRow 0 3 1 (.slice h b.length i) b.length (ints b) from ar)) (by omega)).mono ?_;rintro d n ⟨bd,rfl,H,N⟩;have ai:=Z H;have u:=(Below.refl k.heap.size k).drew.trans N;have f:=Z u;have z:=Z (L.later u);obtain ⟨aj,ak,rfl,-,-⟩:=qg H;have x:=(u.block wr.heap.size au).trans ag;have O:n.cell? ⟨wr.heap.size,3,none⟩=some (.slice h b.length i):=(by simp [World.cell?,x]);have P:n.cell? ⟨wr.heap.size,1,none⟩=some (.int .i64 0):=(by simp [World.cell?,x]);obtain ⟨be,bf,Q⟩:=z.cells;have bU:=Q 0;have bg:k.heap.size≤n.heap.size:=u.size;have al:wr.heap.size<n.heap.size:=(by omega);have bh:=qd z.blk;have I:w.heap.size≤n.heap.size:=(by omega);have J:=Z x;clear H N u x Q;have az:=And.intro P O;have am:=fun (R:Obj)=>(show (n.alloc R).cell? ⟨wr.heap.size,1,none⟩=some (.int .i64 0)∧(n.alloc R).cell? ⟨wr.heap.size,3,none⟩=some (.slice h b.length i) from ⟨Lib.cell?_alloc_some _ P,Lib.cell?_alloc_some _ O⟩);(try dsimp only))
      refine a _ _ az (fun o=>nx ?_);clear a c;refine rd2 5 9 (fun c a=> ?_) (fun c a=> ?_)
      ·skip
       go_simp;refine a _ _ (by assumption) (fun o=>nx ?_);clear a c;refine rd1 9 (fun c a=> ?_);go_simp;refine a _ _ (am _) (fun o=>nx ?_);clear a c;refine rd1 10 (fun c a=> ?_)
       (refine YA (by rfl) _ _ 27 (by rfl) 24 _ 1 24 underlying27 Qv rfl (by decide) #[.slice aj b.length ak] v.length w.heap.size (.slice ax v.length ay) v (Below.owns s f) (by rfl) (by rfl) rfl (by simp [Value.oneCell']) I (by omega) (by unfold maxLen;omega) ?_;intro an aN p A q B;have e:=z.add0 (Below.owns s f) (ah.later f) (qk ai (by have:=G.size;have:=t.size;show w.heap.size≤k.heap.size;omega)) q B A;have S:=Z e.1;have r:=(q.block wr.heap.size al (fun d=>yz (Below.owns s f) J (by decide) d.symm)).trans J;have C:p.cell? ⟨wr.heap.size,1,none⟩=some (.int .i64 0):=(by simp [World.cell?,r]);have D:p.cell? ⟨wr.heap.size,3,none⟩=some (.slice h b.length i):=(by simp [World.cell?,r]);have T:=And.intro C D;have E:m≠wr.heap.size:=(fun d=>by have:=S.out;rw [d,r] at this;cases this);have U:=fun (F:Value)=>(show (p.setCell ⟨m,0,none⟩ F).cell? ⟨wr.heap.size,1,none⟩=some (.int .i64 0)∧(p.setCell ⟨m,0,none⟩ F).cell? ⟨wr.heap.size,3,none⟩=some (.slice h b.length i) from ⟨(World.cell?_setCell_other _ _ _ _ (by first | (simp;done) | (simp;exact fun d=>absurd d.symm E))).trans C,(World.cell?_setCell_other _ _ _ _ (by first | (simp;done) | (simp;exact fun d=>absurd d.symm E))).trans D⟩);have aO:=(yL e.1).1;have aP:=(yL e.1).2;have aQ:=frz e.1 0;have V:=Z e.2;have W:=Z q;clear A q B e r)
       refine a _ _ T (fun o=>nx ?_);clear a c;refine tk 11 ?_;refine rd1 12 (fun c a=> ?_);go_simp;refine a _ _ (U _) (fun o=>nx ?_);clear a c;refine dn ?_;go_wp2_with fail;go_roundg (g.length-(l+1))
       case measure=>omega
       case rel=>exact ⟨l+1,_,aa,by omega,rfl,by go_num,Z (by rw [ae.out,af.out];exact V),Z (((((G.trans (t.mono aq)).trans (f.mono (by have:=t.size;omega)))).grown W I (fun K y=>((Below.owns s f).lt K y).1)).setCell (p:=⟨m,0,none⟩) (by have:=ap.1;show w.heap.size≤m;omega) _)⟩
      ·skip
       go_simp;refine a _ _ (am _) (fun o=>nx ?_);clear a c;refine rd1 5 (fun c a=> ?_);go_simp;refine a _ _ (by assumption) (fun o=>nx ?_);clear a c;refine rd1 10 (fun c a=> ?_)
       (refine YA (by rfl) _ _ 27 (by rfl) 24 _ 1 24 underlying27 Qv rfl (by decide) #[.slice aj b.length ak] v.length w.heap.size (.slice ax v.length ay) v (Below.owns s f) (by rfl) (by rfl) rfl (by simp [Value.oneCell']) I (by omega) (by unfold maxLen;omega) ?_;intro an aN p A q B;have e:=z.add0 (Below.owns s f) (ah.later f) (qk ai (by have:=G.size;have:=t.size;show w.heap.size≤k.heap.size;omega)) q B A;have S:=Z e.1;have r:=(q.block wr.heap.size al (fun d=>yz (Below.owns s f) J (by decide) d.symm)).trans J;have C:p.cell? ⟨wr.heap.size,1,none⟩=some (.int .i64 0):=(by simp [World.cell?,r]);have D:p.cell? ⟨wr.heap.size,3,none⟩=some (.slice h b.length i):=(by simp [World.cell?,r]);have T:=And.intro C D;have E:m≠wr.heap.size:=(fun d=>by have:=S.out;rw [d,r] at this;cases this);have U:=fun (F:Value)=>(show (p.setCell ⟨m,0,none⟩ F).cell? ⟨wr.heap.size,1,none⟩=some (.int .i64 0)∧(p.setCell ⟨m,0,none⟩ F).cell? ⟨wr.heap.size,3,none⟩=some (.slice h b.length i) from ⟨(World.cell?_setCell_other _ _ _ _ (by first | (simp;done) | (simp;exact fun d=>absurd d.symm E))).trans C,(World.cell?_setCell_other _ _ _ _ (by first | (simp;done) | (simp;exact fun d=>absurd d.symm E))).trans D⟩);have aO:=(yL e.1).1;have aP:=(yL e.1).2;have aQ:=frz e.1 0;have V:=Z e.2;have W:=Z q;clear A q B e r)
       refine a _ _ T (fun o=>nx ?_);clear a c;refine tk 11 ?_;refine rd1 12 (fun c a=> ?_);go_simp;refine a _ _ (U _) (fun o=>nx ?_);clear a c;refine dn ?_;go_wp2_with fail;go_roundg (g.length-(l+1))
       case measure=>omega
       case rel=>exact ⟨l+1,_,aa,by omega,rfl,by go_num,Z (by rw [ae.out,af.out];exact V),Z (((((G.trans (t.mono aq)).trans (f.mono (by have:=t.size;omega)))).grown W I (fun K y=>((Below.owns s f).lt K y).1)).setCell (p:=⟨m,0,none⟩) (by have:=ap.1;show w.heap.size≤m;omega) _)⟩
    ·subst a9
     have af:=Z (aD.trans (by rw [if_pos ⟨rfl,rfl⟩]:_=aK++[b]));have ae:=Z (aC.trans (by rw [if_neg (by simp)];exact List.append_nil _:_=aJ));have t:=Z M;have L:=Z (aB.later M);have ar:=Z (Below.owns a2 M);have ag:=Z a4;have au:wr.heap.size<(wr.alloc (.cells #[.int .i64 1,.int .i64 1,.string (qx ab),.slice h b.length i,.int .i64 ac,.int .i64 ad] 149)).heap.size:=by simp
     obtain ⟨v,av,aw⟩:=L.o1;have bN:v.length≤900:=by have:=aw.length;omega
     obtain ⟨ax,ay,ba,-,-⟩:=qg av;obtain rfl:=ba;have s:=Z av;have ah:=Z aw;clear M a4 av aw;go_upto_region 6 with fail;generalize wr.alloc (.cells #[.int .i64 1,.int .i64 1,.string (qx ab),.slice h b.length i,.int .i64 ac,.int .i64 ad] 149)=k at t L ar ag au s ah ⊢;obtain ⟨bO,bb,bP,bc,bQ,bR⟩:=(show k.cell? ⟨wr.heap.size,0,none⟩=some (.int .i64 1)∧k.cell? ⟨wr.heap.size,1,none⟩=some (.int .i64 1)∧k.cell? ⟨wr.heap.size,2,none⟩=some (.string (qx ab))∧k.cell? ⟨wr.heap.size,3,none⟩=some (.slice h b.length i)∧k.cell? ⟨wr.heap.size,4,none⟩=some (.int .i64 ac)∧k.cell? ⟨wr.heap.size,5,none⟩=some (.int .i64 ad) by
      refine ⟨?_,?_,?_,?_,?_,?_⟩<;>simp [World.cell?,ag.out])
     obtain ⟨bS,bT,aL⟩:=L.cells;have b3:=aL 1;have bs:=qd L.blk;clear aL aW aX aY aZ a0 a1;refine rg (fun aM=>aM.cell? ⟨wr.heap.size,1,none⟩=some (.int .i64 1)∧aM.cell? ⟨wr.heap.size,3,none⟩=some (.slice h b.length i)) ⟨bb,bc⟩ (fun o=> ?_);refine tk 0 ?_;refine tk 1 ?_;refine tk 2 ?_;refine tk 3 ?_;refine tk 4 ?_;refine tk 6 ?_;refine tk 7 ?_;refine rd2 5 8 (fun c a=> ?_) (fun c a=> ?_)
     ·skip
      go_simp;refine a _ _ (by assumption) (fun o=>nx ?_);clear a c;refine rd1 8 (fun c a=> ?_)
      (go_simp;go_at_call 69;refine (zs _ b _ (Arr.of_owns (show k.drew.ownsRow 0 3 1 (.slice h b.length i) b.length (ints b) from ar)) (by omega)).mono ?_;rintro d n ⟨bd,rfl,H,N⟩;have ai:=Z H;have u:=(Below.refl k.heap.size k).drew.trans N;have f:=Z u;have z:=Z (L.later u);obtain ⟨aj,ak,rfl,-,-⟩:=qg H;have x:=(u.block wr.heap.size au).trans ag;have O:n.cell? ⟨wr.heap.size,3,none⟩=some (.slice h b.length i):=(by simp [World.cell?,x]);have P:n.cell? ⟨wr.heap.size,1,none⟩=some (.int .i64 1):=(by simp [World.cell?,x]);obtain ⟨be,bf,Q⟩:=z.cells;have bV:=Q 1;have bg:k.heap.size≤n.heap.size:=u.size;have al:wr.heap.size<n.heap.size:=(by omega);have bh:=qd z.blk;have I:w.heap.size≤n.heap.size:=(by omega);have J:=Z x;clear H N u x Q;have az:=And.intro P O;have am:=fun (R:Obj)=>(show (n.alloc R).cell? ⟨wr.heap.size,1,none⟩=some (.int .i64 1)∧(n.alloc R).cell? ⟨wr.heap.size,3,none⟩=some (.slice h b.length i) from ⟨Lib.cell?_alloc_some _ P,Lib.cell?_alloc_some _ O⟩);(try dsimp only))
      refine a _ _ az (fun o=>nx ?_);clear a c;refine rd1 9 (fun c a=> ?_);go_simp;refine a _ _ (am _) (fun o=>nx ?_);clear a c;refine rd1 10 (fun c a=> ?_)
      (refine YA (by rfl) _ _ 27 (by rfl) 24 _ 1 24 underlying27 Qv rfl (by decide) #[.slice aj b.length ak] v.length w.heap.size (.slice ax v.length ay) v (Below.owns s f) (by rfl) (by rfl) rfl (by simp [Value.oneCell']) I (by omega) (by unfold maxLen;omega) ?_;intro an aN p A q B;have e:=z.add1 (Below.owns s f) (ah.later f) (qk ai (by have:=G.size;have:=t.size;show w.heap.size≤k.heap.size;omega)) q B A;have S:=Z e.1;have r:=(q.block wr.heap.size al (fun d=>yz (Below.owns s f) J (by decide) d.symm)).trans J;have C:p.cell? ⟨wr.heap.size,1,none⟩=some (.int .i64 1):=(by simp [World.cell?,r]);have D:p.cell? ⟨wr.heap.size,3,none⟩=some (.slice h b.length i):=(by simp [World.cell?,r]);have T:=And.intro C D;have E:m≠wr.heap.size:=(fun d=>by have:=S.out;rw [d,r] at this;cases this);have U:=fun (F:Value)=>(show (p.setCell ⟨m,1,none⟩ F).cell? ⟨wr.heap.size,1,none⟩=some (.int .i64 1)∧(p.setCell ⟨m,1,none⟩ F).cell? ⟨wr.heap.size,3,none⟩=some (.slice h b.length i) from ⟨(World.cell?_setCell_other _ _ _ _ (by first | (simp;done) | (simp;exact fun d=>absurd d.symm E))).trans C,(World.cell?_setCell_other _ _ _ _ (by first | (simp;done) | (simp;exact fun d=>absurd d.symm E))).trans D⟩);have aO:=(yL e.1).1;have aP:=(yL e.1).2;have aQ:=frz e.1 1;have V:=Z e.2;have W:=Z q;clear A q B e r)
      refine a _ _ T (fun o=>nx ?_);clear a c;refine tk 11 ?_;refine rd1 12 (fun c a=> ?_);go_simp;refine a _ _ (U _) (fun o=>nx ?_);clear a c;refine dn ?_;go_wp2_with fail;go_roundg (g.length-(l+1))
      case measure=>omega
      case rel=>exact ⟨l+1,Y,_,by omega,rfl,by go_num,Z (by rw [ae.out,af.out];exact V),Z (((((G.trans (t.mono aq)).trans (f.mono (by have:=t.size;omega)))).grown W I (fun K y=>((Below.owns s f).lt K y).1)).setCell (p:=⟨m,1,none⟩) (by have:=ap.1;show w.heap.size≤m;omega) _)⟩
     ·skip
      (go_simp;go_at_call 69;refine (zs _ b _ (Arr.of_owns (show k.drew.ownsRow 0 3 1 (.slice h b.length i) b.length (ints b) from ar)) (by omega)).mono ?_;rintro d n ⟨bd,rfl,H,N⟩;have ai:=Z H;have u:=(Below.refl k.heap.size k).drew.trans N;have f:=Z u;have z:=Z (L.later u);obtain ⟨aj,ak,rfl,-,-⟩:=qg H;have x:=(u.block wr.heap.size au).trans ag;have O:n.cell? ⟨wr.heap.size,3,none⟩=some (.slice h b.length i):=(by simp [World.cell?,x]);have P:n.cell? ⟨wr.heap.size,1,none⟩=some (.int .i64 1):=(by simp [World.cell?,x]);obtain ⟨be,bf,Q⟩:=z.cells;have bV:=Q 1;have bg:k.heap.size≤n.heap.size:=u.size;have al:wr.heap.size<n.heap.size:=(by omega);have bh:=qd z.blk;have I:w.heap.size≤n.heap.size:=(by omega);have J:=Z x;clear H N u x Q;have az:=And.intro P O;have am:=fun (R:Obj)=>(show (n.alloc R).cell? ⟨wr.heap.size,1,none⟩=some (.int .i64 1)∧(n.alloc R).cell? ⟨wr.heap.size,3,none⟩=some (.slice h b.length i) from ⟨Lib.cell?_alloc_some _ P,Lib.cell?_alloc_some _ O⟩);(try dsimp only))
      refine a _ _ az (fun o=>nx ?_);clear a c;refine rd2 5 9 (fun c a=> ?_) (fun c a=> ?_)
      ·skip
       go_simp;refine a _ _ (by assumption) (fun o=>nx ?_);clear a c;refine rd1 9 (fun c a=> ?_);go_simp;refine a _ _ (am _) (fun o=>nx ?_);clear a c;refine rd1 10 (fun c a=> ?_)
       (refine YA (by rfl) _ _ 27 (by rfl) 24 _ 1 24 underlying27 Qv rfl (by decide) #[.slice aj b.length ak] v.length w.heap.size (.slice ax v.length ay) v (Below.owns s f) (by rfl) (by rfl) rfl (by simp [Value.oneCell']) I (by omega) (by unfold maxLen;omega) ?_;intro an aN p A q B;have e:=z.add1 (Below.owns s f) (ah.later f) (qk ai (by have:=G.size;have:=t.size;show w.heap.size≤k.heap.size;omega)) q B A;have S:=Z e.1;have r:=(q.block wr.heap.size al (fun d=>yz (Below.owns s f) J (by decide) d.symm)).trans J;have C:p.cell? ⟨wr.heap.size,1,none⟩=some (.int .i64 1):=(by simp [World.cell?,r]);have D:p.cell? ⟨wr.heap.size,3,none⟩=some (.slice h b.length i):=(by simp [World.cell?,r]);have T:=And.intro C D;have E:m≠wr.heap.size:=(fun d=>by have:=S.out;rw [d,r] at this;cases this);have U:=fun (F:Value)=>(show (p.setCell ⟨m,1,none⟩ F).cell? ⟨wr.heap.size,1,none⟩=some (.int .i64 1)∧(p.setCell ⟨m,1,none⟩ F).cell? ⟨wr.heap.size,3,none⟩=some (.slice h b.length i) from ⟨(World.cell?_setCell_other _ _ _ _ (by first | (simp;done) | (simp;exact fun d=>absurd d.symm E))).trans C,(World.cell?_setCell_other _ _ _ _ (by first | (simp;done) | (simp;exact fun d=>absurd d.symm E))).trans D⟩);have aO:=(yL e.1).1;have aP:=(yL e.1).2;have aQ:=frz e.1 1;have V:=Z e.2;have W:=Z q;clear A q B e r)
       refine a _ _ T (fun o=>nx ?_);clear a c;refine tk 11 ?_;refine rd1 12 (fun c a=> ?_);go_simp;refine a _ _ (U _) (fun o=>nx ?_);clear a c;refine dn ?_;go_wp2_with fail;go_roundg (g.length-(l+1))
       case measure=>omega
       case rel=>exact ⟨l+1,Y,_,by omega,rfl,by go_num,Z (by rw [ae.out,af.out];exact V),Z (((((G.trans (t.mono aq)).trans (f.mono (by have:=t.size;omega)))).grown W I (fun K y=>((Below.owns s f).lt K y).1)).setCell (p:=⟨m,1,none⟩) (by have:=ap.1;show w.heap.size≤m;omega) _)⟩
      ·skip
       go_simp;refine a _ _ (am _) (fun o=>nx ?_);clear a c;refine rd1 5 (fun c a=> ?_);go_simp;refine a _ _ (by assumption) (fun o=>nx ?_);clear a c;refine rd1 10 (fun c a=> ?_)
       (refine YA (by rfl) _ _ 27 (by rfl) 24 _ 1 24 underlying27 Qv rfl (by decide) #[.slice aj b.length ak] v.length w.heap.size (.slice ax v.length ay) v (Below.owns s f) (by rfl) (by rfl) rfl (by simp [Value.oneCell']) I (by omega) (by unfold maxLen;omega) ?_;intro an aN p A q B;have e:=z.add1 (Below.owns s f) (ah.later f) (qk ai (by have:=G.size;have:=t.size;show w.heap.size≤k.heap.size;omega)) q B A;have S:=Z e.1;have r:=(q.block wr.heap.size al (fun d=>yz (Below.owns s f) J (by decide) d.symm)).trans J;have C:p.cell? ⟨wr.heap.size,1,none⟩=some (.int .i64 1):=(by simp [World.cell?,r]);have D:p.cell? ⟨wr.heap.size,3,none⟩=some (.slice h b.length i):=(by simp [World.cell?,r]);have T:=And.intro C D;have E:m≠wr.heap.size:=(fun d=>by have:=S.out;rw [d,r] at this;cases this);have U:=fun (F:Value)=>(show (p.setCell ⟨m,1,none⟩ F).cell? ⟨wr.heap.size,1,none⟩=some (.int .i64 1)∧(p.setCell ⟨m,1,none⟩ F).cell? ⟨wr.heap.size,3,none⟩=some (.slice h b.length i) from ⟨(World.cell?_setCell_other _ _ _ _ (by first | (simp;done) | (simp;exact fun d=>absurd d.symm E))).trans C,(World.cell?_setCell_other _ _ _ _ (by first | (simp;done) | (simp;exact fun d=>absurd d.symm E))).trans D⟩);have aO:=(yL e.1).1;have aP:=(yL e.1).2;have aQ:=frz e.1 1;have V:=Z e.2;have W:=Z q;clear A q B e r)
       refine a _ _ T (fun o=>nx ?_);clear a c;refine tk 11 ?_;refine rd1 12 (fun c a=> ?_);go_simp;refine a _ _ (U _) (fun o=>nx ?_);clear a c;refine dn ?_;go_wp2_with fail;go_roundg (g.length-(l+1))
       case measure=>omega
       case rel=>exact ⟨l+1,Y,_,by omega,rfl,by go_num,Z (by rw [ae.out,af.out];exact V),Z (((((G.trans (t.mono aq)).trans (f.mono (by have:=t.size;omega)))).grown W I (fun K y=>((Below.owns s f).lt K y).1)).setCell (p:=⟨m,1,none⟩) (by have:=ap.1;show w.heap.size≤m;omega) _)⟩
   ·have b4:((a3:Int)==1)=false:=by simp;omega
    have b5:(a3==1)=false:=by simpa using y
    have ae:=Z (aC.trans (by rw [if_neg (by simp [y])];exact List.append_nil _:_=aJ));have af:=Z (aD.trans (by rw [if_neg (by simp [y])];exact List.append_nil _:_=aK));have M:=(Below.refl wr.heap.size wr).alloc (Nat.le_refl _) (.cells #[.int .i64 a3,.int .i64 a8,.string (qx ab),.slice h b.length i,.int .i64 ac,.int .i64 ad] 149);have t:=Z M;clear M y;go_wp2_with fail;go_roundg (g.length-(l+1))
    case measure=>omega
    case rel=>exact ⟨l+1,Y,aa,by omega,rfl,by go_num,Z (by rw [ae.out,af.out];exact aB.later t),Z (G.trans (t.mono aq))⟩
  ·obtain rfl:l=g.length:=by omega
   have X:=aB.out;rw [List.take_length] at X;have aR:=Z X;obtain ⟨_,_,-⟩:=X.cells;have bs:=qd X.blk;have b6:=qd X.res;have bt:=frz X.res;have b7:=bt 0;have b8:=bt 1;have b9:=(yL X.res).1;have ca:=(yL X.res).2;obtain ⟨bu,bv,rfl⟩:=X.o0.form;obtain ⟨bw,bx,rfl⟩:=X.o1.form;clear X;go_wp2_with fail;have bi:=heap_setCell (j:=0) aR.res (.slice bu (qL g 0).length bv);have bW:=heap_setCell (j:=1) bi (.slice bw (qL g 1).length bx);have K:∀{bz:Value} {bA:List (List Int)},qO w.heap.size wr bz bA→qO w.heap.size ((wr.setCell ⟨ao,0,none⟩ (.slice bu (qL g 0).length bv)).setCell ⟨ao,1,none⟩ (.slice bw (qL g 1).length bx)) bz bA:=fun bX=>
    (bX.kept (qh _ _ _ _) (Off.block aR.res (by decide)) (Off.block aR.res (by decide))).kept (qh _ _ _ _) (Off.block bi (by decide)) (Off.block bi (by decide))
   have bB:w.heap.size≤ao:=by have:=ap.2;omega
   exact bodyPost_ret (results_cell_row rfl _ _ ao 28 #[_,_] _ _ rfl bW underlying28 rfl zmM) rfl ⟨_,_,rfl,K aR.o0,K aR.o1,(G.setCell (p:=⟨ao,0,none⟩) bB _).setCell (p:=⟨ao,1,none⟩) bB _⟩
end Go.Proofs.YtklofgfkaaoipaaGreatDoor
