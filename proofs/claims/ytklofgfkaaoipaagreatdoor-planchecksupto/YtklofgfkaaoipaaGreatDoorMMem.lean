/-
  WORDS ON MEMORY over any program: a slice that is read ('Arr'), what is appended by one element, and how these are carried from world to world.
-/
import Derived.WalkKit
import Derived.WalkSpells
import Derived.Lib.Hide
import Derived.Maps.AppendAt
import Derived.Laws.AppendOwnNone
import Derived.Test.YtklofgfkaaoipaaGreatDoorProg
import Derived.Maps.Range
import Derived.Deep.Draws
import Derived.Deep.LoopGhost
import Derived.Deep.QuietTactic
import Derived.BigQuiet
import Derived.WalkLawsBesides
import Derived.LaidEql
import Derived.Stop.Asserts
import Derived.RowKitTokens
import Derived.Deep.AppendLies
import Derived.Laws.OwnMore
import Derived.Deep.RegionHeld3
import Derived.IntWalk
import Derived.Laws.MakeOwn
import Derived.Laws.Rows
import Derived.Test.YtklofgfkaaoipaaGreatDoorMHd
set_option maxHeartbeats 16000000
set_option maxRecDepth 100000
set_option linter.unusedSimpArgs false
set_option linter.unusedVariables false
namespace Go.Proofs.YtklofgfkaaoipaaGreatDoor
open Go.RowKit Go.Proofs.Tryz
variable {B B' k n b j g:Nat}{w A W w1 D:World}{v:Value}{h:List Value}{e t E:TypeId}{P:Program}{ops:Array Oper}{rest:List Oper}{o:Oper}{Q:Exit→Act→World→Prop}{F:Array Value}{fr:Nat×Nat}{x a:Obj}{l:List (List Int)}
def Arr (B:Nat)(w:World)(k:Nat)(v:Value)(n:Nat)(e:List Value):Prop:=
 ∃b a,v= .slice b n a∧n≤a∧a≤maxLen∧(b=none→a=0)∧e.length=n * k∧
  (n=0∨∃c f,b=some ⟨c,f,none⟩∧c<B∧∀d,d<n * k→w.cell? ⟨c,f+d,none⟩=e[d]?)
theorem Arr.nil (B:Nat)(w:World)(k:Nat):Arr B w k (.slice none 0 0) 0 []:=
 ⟨none,0,rfl,Nat.le_refl _,by unfold maxLen;omega,fun _=>rfl,by simp,.inl rfl⟩
theorem Arr.later (a:Arr B w k v n h)(e:Below B w A)(u:B≤B'):Arr B' A k v n h:=by
 obtain ⟨f,g,i,j,l,m,o,a⟩:=a;refine ⟨f,g,i,j,l,m,o,?_⟩;rcases a with a | ⟨b,c,q,r,s⟩
 ·exact .inl a
 ·exact .inr ⟨b,c,q,by omega,fun d t=>(e.cell (p:=⟨b,c+d,none⟩) r).trans (s d t)⟩
theorem Arr.open (a:Arr B w k v n h):
  ∃c b,v= .slice c n b∧n≤b∧b≤maxLen∧h.length=n * k∧(0<n→∃d f,c=some ⟨d,f,none⟩∧d<B∧∀e,e<n * k→w.cell? ⟨d,f+e,none⟩=h[e]?):=by
 obtain ⟨c,b,g,i,j,_,l,a⟩:=a;refine ⟨c,b,g,i,j,l,fun _=> ?_⟩;rcases a with a | a
 ·omega
 ·exact a
theorem Arr.len (a:Arr B w k v n h):h.length=n * k:=by
 obtain ⟨_,_,_,_,_,_,b,_⟩:=a;exact b
theorem Arr.of_owns {base:Nat}(a:w.ownsRow base e k v n h):Arr w.heap.size w k v n h:=by
 rcases a.2 with ⟨rfl,rfl⟩ | ⟨b,c,_,rfl,_,d,f,g,_,_⟩
 ·have:h=[]:=by have:=a.1;simpa using this
  subst this;exact Arr.nil _ _ _
 ·refine ⟨_,c,rfl,f,g,(fun a=>by cases a),a.1,.inr ⟨b,0,rfl,lt_of_block d,fun i j=> ?_⟩⟩
  have:=a.cellAt i j;simpa using this
theorem Below.owns {base:Nat}(a:w.ownsRow base e k v n h)(d:Below w.heap.size w A):A.ownsRow base e k v n h:=by
 rcases a.2 with f | ⟨b,g,i,j,l,c,m⟩
 ·exact ⟨a.1,.inl f⟩
 ·exact ⟨a.1,.inr ⟨b,g,i,j,l,(d.block b (lt_of_block c)).trans c,m⟩⟩
theorem qk {base b:Nat}(a:w.ownsRow base e k v n h)(m:b≤base):w.ownsRow b e k v n h:=by
 rcases a.2 with c | ⟨d,f,g,i,_,j,l⟩
 ·exact ⟨a.1,.inl c⟩
 ·exact ⟨a.1,.inr ⟨d,f,g,i,by omega,j,l⟩⟩
theorem yS {a:Act}{w0:World}(p:o.guard=none)(s x:Operand)(t:TypeId)
  (q:o.op= .call {callee:= .builtin .append,args:=#[s,x],argTypes:=#[t,t]}) (e:TypeId) (z:Value) (k i:Nat)
  (r:P.underlying t=some (.slice e)) (u:(P.info? e).map (fun d=>(d.zero,d.size,d.bytes))=some (some z,k,i)) (w:z.cells.size=k) (y:0<k)
  (b:Array Value) (n base:Nat) (v:Value) (j:List Value) (A:w0.ownsRow base e k v n j) (B:a.eval s=v) (C:a.eval x= .slice (some ⟨w0.heap.size,0,none⟩) 1 1)
  (D:b.size=k) (E:∀m∈b.toList,m.oneCell'=true) (O:base≤w0.heap.size) (F:(n+1) * i≤140737488355328) (G:n+1≤maxLen)
  (H:∀c f,f.ownsRow base e k c (n+1) (j++b.toList)→w0.grownBy f v.ownBlock→(c.ownBlock=v.ownBlock∨c.ownBlock=some (w0.heap.size+1))→wpList P ops Q rest (a.put o.dst c) f):
  wpList P ops Q (o::rest) a (w0.alloc (.cells b e)):=by
 obtain ⟨d,I,J,K,L⟩:=info_parts u;refine wpList_append_own_at _ p s x t q base e d z k i r I J K L w y v n j B (A.alloc _) ⟨w0.heap.size,0,none⟩ 1 1 b.toList C (by simp [D]) ?_ E G F (by simp;omega) ?_
 ·intro g m l
  have R:g<b.toList.length:=(List.getElem?_eq_some_iff.1 l).1;have:(w0.alloc (.cells b e)).cell? ⟨w0.heap.size,g,none⟩=b.toList[g]? :=by
   simp only [World.cell?,heap_alloc_new];simp
  rcases g with _ | g
  ·simpa [Addr.add] using this.trans l
  ·simpa [Addr.add] using this.trans l
 ·intro c f M N _ h
  refine H c f M ((World.grownBy_alloc w0 _ _).trans N) ?_;rcases h with h | h
  ·exact .inl h
  ·exact .inr (by simpa using h)
theorem zgk {a:Act}(l:o.guard=none)(s x:Operand)(t:TypeId)
  (p:o.op= .call {callee:= .builtin .append,args:=#[s,x],argTypes:=#[t,t]}) (e:TypeId) (z:Value) (k i:Nat)
  (q:P.underlying t=some (.slice e)) (G:(P.info? e).map (fun b=>(b.zero,b.size,b.bytes))=some (some z,k,i)) (H:z.cells.size=k) (I:0<k)
  (n m base B:Nat) (v r:Value) (g c:List Value) (j:w.ownsRow base e k v n g) (J:Arr B w k r m c) (u:a.eval s=v) (y:a.eval x=r)
  (K:∀A∈c,A.oneCell'=true) (L:base≤w.heap.size) (M:(n+m) * i≤140737488355328) (N:n+m≤maxLen)
  (C:∀d f,f.ownsRow base e k d (n+m) (g++c)→w.grownBy f v.ownBlock→(d.ownBlock=v.ownBlock∨d.ownBlock=some w.heap.size)→wpList P ops Q rest (a.put o.dst d) f):
  wpList P ops Q (o::rest) a w:=by
 obtain ⟨b,D,O,R,S⟩:=info_parts G;obtain ⟨T,U,rfl,_,_,V,h,W⟩:=J;rcases T with _ | X
 ·obtain rfl:=V rfl
  obtain rfl:m=0:=by omega
  obtain rfl:c=[]:=by simpa using h
  refine wpList_append_own_none l s x t p base e b k q D v n g u j y ?_;exact C v w (by simpa using j) (World.grownBy.refl _ _) (.inl rfl)
 ·refine wpList_append_own_at _ l s x t p base e b z k i q D O R S H I v n g u j X m U c y h ?_ K N M L (fun d f Y aa _ ab=>C d f Y aa ab)
  intro E A F;have ac:E<c.length:=(List.getElem?_eq_some_iff.1 F).1;rcases W with ad | ⟨_,_,ae,_,af⟩
  ·subst ad;simp at h;subst h;simp at ac
  ·obtain rfl:=Option.some.inj ae
   rw [Addr.add_lit,af E (by omega),F]
theorem heap_setCell (a:w.heap[b]? =some (.cells F t fr))(v:Value):
  (w.setCell ⟨b,j,none⟩ v).heap[b]? =some (.cells (F.setIfInBounds j v) t fr):=by
 have:b<w.heap.size:=lt_of_block a;simp [World.setCell,Array.getElem?_modify,a]
theorem qe (a:k≠b)(v:Value):(w.setCell ⟨b,j,none⟩ v).heap[k]? =w.heap[k]? :=Below.heap_setCell w _ _ k a
def ZR (B:Nat)(w:World):List Value→List (List Value)→Prop
 |[], []=>True
 |b::c,a::d=>Arr B w 1 b a.length a∧ZR B w c d
 |_,_=>False
theorem ZR.length :∀{a:List Value} {b:List (List Value)},ZR B w a b→a.length=b.length
 |[], [],_=>rfl
 |_::_,_::_,c=>by have:=c.2.length;simp [this]
theorem ZR.later (a:Below B w A)(b:B≤B'):∀{c:List Value} {d:List (List Value)},ZR B w c d→ZR B' A c d
 |[], [],_=>trivial
 |_::_,_::_,e=>⟨e.1.later a b,e.2.later a b⟩
theorem ZR.get :∀{c:List Value} {b:List (List Value)} (_:ZR B w c b) (a:Nat) (e:a<c.length) (f:a<b.length),Arr B w 1 c[a] b[a].length b[a]
 |_::_,_::_,d,0,_,_=>d.1
 |_::_,_::_,d,a+1,e,f=>d.2.get a (by simpa using e) (by simpa using f)
theorem ZR.append :∀{b c:List Value} {d e:List (List Value)},ZR B w b d→ZR B w c e→ZR B w (b++c) (d++e)
 |[],_, [],_,_,a=>a
 |_::_,_,_::_,_,a,f=>⟨a.1,a.2.append f⟩
def ints (l:List Int):List Value:=l.map (Value.int .i64)
theorem qP (l:List Int):(ints l).length=l.length:=by simp [ints]
theorem yd (a b:List Int):ints (a++b)=ints a++ints b:=by simp [ints]
theorem zaV (l:List Int):∀a∈ints l,a.oneCell'=true:=by
 intro a b;simp only [ints,List.mem_map] at b;obtain ⟨_,_,rfl⟩:=b;rfl
theorem yY (l:List Int)(i:Nat)(a:i<l.length):(ints l)[i]? =some (.int .i64 l[i]):=by simp [ints,a]
theorem qD:(prog.info? 3).map (fun a=>(a.zero,a.size,a.bytes))=some (some (.int .i64 0),1,8):=by kernel_rfl
theorem yL {x y:Value}(a:w.heap[b]? =some (.cells #[x,y] t fr)):w.cell? ⟨b,0,none⟩=some x∧w.cell? ⟨b,1,none⟩=some y:=by
 constructor<;>simp [World.cell?,a]
theorem zp5 (d:Below W.heap.size W w1):(∀a b,a<W.heap.size→w1.cell? ⟨a,b,none⟩=W.cell? ⟨a,b,none⟩)∧(∀a b,a<W.heap.size→w1.frozen? ⟨a,b,none⟩=W.frozen? ⟨a,b,none⟩):=
 ⟨fun a b c=>d.cell (p:=⟨a,b,none⟩) c,fun a b c=>d.frozen (p:=⟨a,b,none⟩) c⟩
theorem qd (a:w.heap[g]? =some x):g<w.heap.size:=(Array.getElem?_eq_some_iff.1 a).1
theorem yF (b:Below (w.alloc a).heap.size (w.alloc a) w1):w1.heap[w.heap.size]? =some a∧Below w.heap.size w w1∧w.heap.size+1≤w1.heap.size:=
 ⟨(b.block _ (by rw [World.size_alloc];omega)).trans (heap_alloc_new _ _),((Below.refl _ _).alloc (Nat.le_refl _) _).trans (b.mono (by rw [World.size_alloc];omega)),by have:=b.size;rw [World.size_alloc] at this;exact this⟩
theorem zcV {b:Obj}(c:Below ((w.alloc a).alloc b).heap.size ((w.alloc a).alloc b) w1):w1.heap[w.heap.size]? =some a∧w1.heap[w.heap.size+1]? =some b∧Below w.heap.size w w1∧w.heap.size+2≤w1.heap.size:=
 ⟨(c.block _ (by rw [World.size_alloc,World.size_alloc];omega)).trans (heap_alloc2_old _ _ _),(c.block _ (by rw [World.size_alloc,World.size_alloc];omega)).trans (heap_alloc2_new _ _ _),
  (((Below.refl _ _).alloc (Nat.le_refl _) _).alloc (by rw [World.size_alloc];omega) _).trans (c.mono (by rw [World.size_alloc,World.size_alloc];omega)),by have:=c.size;rw [World.size_alloc,World.size_alloc] at this;exact this⟩
theorem zpe {b c:Obj}(e:Below (((w.alloc a).alloc b).alloc c).heap.size (((w.alloc a).alloc b).alloc c) w1):
  w1.heap[w.heap.size]? =some a∧w1.heap[w.heap.size+1]? =some b∧w1.heap[w.heap.size+2]? =some c∧Below w.heap.size w w1∧w.heap.size+3≤w1.heap.size:=by
 have d:=zcV e;rw [World.size_alloc] at d;obtain ⟨f,g,h,_⟩:=d;obtain ⟨k1,k2,k3⟩:=yF (a:=a) (w:=w) (w1:=w1) (by rw [World.size_alloc];exact h);refine ⟨k1,f,g,k2,by omega⟩
theorem qm (w:World)(a b:Obj):Below w.heap.size w ((w.alloc a).alloc b):=((Below.refl _ _).alloc (Nat.le_refl _) _).alloc (by simp) _
theorem qB (w:World)(a b c:Obj):Below w.heap.size w (((w.alloc a).alloc b).alloc c):=(((Below.refl _ _).alloc (Nat.le_refl _) _).alloc (by simp) _).alloc (by simp;omega) _
def qM (v:Value)(w:World)(e:Ending)(a:World):Prop:=e= .returned v∧Below w.heap.size w a
theorem QH (a:Obj)(b:w.heap[g]? =some x):(w.alloc a).heap[g]? =some x:=(heap_alloc_old w a (qd b)).trans b
theorem zb6 (a b:Obj)(c:w.heap[g]? =some x):((w.alloc a).alloc b).heap[g]? =some x:=QH b (QH a c)
theorem zqO (a b c:Obj)(d:w.heap[g]? =some x):(((w.alloc a).alloc b).alloc c).heap[g]? =some x:=QH c (zb6 a b d)
theorem yz {base:Nat}(d:w.ownsRow base e k v n h)(f:w.heap[b]? =some (.cells F t fr))(g:t≠e):v.ownBlock≠some b:=by
 intro a;rcases d.2 with ⟨rfl,_⟩ | ⟨_,_,_,rfl,_,c,_⟩
 ·simp [Value.ownBlock] at a
 ·simp [Value.ownBlock] at a;subst a
  rw [f] at c;simp only [Option.some.injEq,Obj.cells.injEq] at c;exact g c.2.1
theorem qg {base:Nat}(c:w.ownsRow base e k v n h):
  ∃d f,v= .slice d n f∧n≤f∧(0<n→∃a,d=some ⟨a,0,none⟩∧base≤a∧a<w.heap.size∧∀b,b<n * k→w.cell? ⟨a,b,none⟩=h[b]?):=by
 rcases c.2 with ⟨rfl,rfl⟩ | ⟨a,g,_,rfl,i,j,l,_,_,_⟩
 ·exact ⟨none,0,rfl,Nat.le_refl _,fun c=>by omega⟩
 ·refine ⟨_,g,rfl,l,fun _=>⟨a,rfl,i,qd j,fun b m=> ?_⟩⟩
  have:=c.cellAt b m;simpa using this
theorem qh (W:World)(b j:Nat)(x:Value):W.grownBy (W.setCell ⟨b,j,none⟩ x) (some b):=
 ⟨rfl,rfl,rfl,by simp,fun _ _ a=>qe (fun c=>a (by rw [c])) _⟩
theorem YE (W:World)(b:Nat)(a:Array Value):W.grownBy (W.setRow b a) (some b):=
 ⟨rfl,rfl,rfl,by simp,fun _ _ c=>setRow_other _ _ _ _ (fun d=>c (by rw [d]))⟩
def ZS (B:Nat)(w:World)(v:Value)(l:List (List Int)):Prop:=∃a,a.length=l.length∧Arr B w 1 v a.length a∧ZR B w a (l.map ints)
theorem ZS.later (c:ZS B w v l)(a:Below B w A)(b:B≤B'):ZS B' A v l:=by
 obtain ⟨d,e,f,g⟩:=c;exact ⟨d,e,f.later a b,g.later a b⟩
theorem ZS.form (c:ZS B w v l):∃a b,v= .slice a l.length b:=by
 obtain ⟨_,d,e,_⟩:=c;obtain ⟨a,b,f,_⟩:=e.open;exact ⟨a,b,by rw [f,d]⟩
theorem Qn:(prog.info? 24).map (fun a=>(a.zero,a.size,a.bytes))=some (some (.slice none 0 0),1,24):=by kernel_rfl
def Off (W:World)(B:Nat)(t:TypeId)(c:Option Nat):Prop:=∀a,c=some a→a<B∨W.heap.size≤a∨∃d b e,W.heap[a]? =some (.cells d b e)∧b≠t
theorem Off.none (W:World)(B:Nat)(t:TypeId):Off W B t none:=fun _ a=>by cases a
theorem Off.owned (c:W.ownsRow b E k v n h)(d:E≠t):Off W B t v.ownBlock:=by
 intro e a;rcases c.2 with ⟨rfl,_⟩ | ⟨f,_,_,rfl,_,g,_⟩
 ·cases a
 ·obtain rfl:f=e:=by simpa [Value.ownBlock] using a
  exact .inr (.inr ⟨_,_,_,g,d⟩)
theorem Off.new (c:W.ownsRow b E k v n h){a:World}(d:a.heap.size≤b):Off a B t v.ownBlock:=
 fun e f=> .inr (.inl (Nat.le_trans d (c.lt e f).1))
theorem Off.block {a:Array Value}(b:W.heap[g]? =some (.cells a E fr))(c:E≠t):Off W B t (some g):=
 fun d e=>by
  obtain rfl:g=d:=by simpa using e
  exact .inr (.inr ⟨_,_,_,b,c⟩)
theorem qp {b:Option Nat}(c:W.ownsRow B t k v n h)(e:W.grownBy D b)(f:Off W B t b):D.ownsRow B t k v n h:=by
 refine c.kept e ?_;rcases c.2 with ⟨rfl,_⟩ | ⟨g,_,_,rfl,_,d,_⟩
 ·exact .inl rfl
 ·refine .inr fun i=> ?_
  rcases f g (by rw [←i];rfl) with a | a | ⟨l,m,o,a,j⟩
  ·omega
  ·have:=lt_of_block d;omega
  ·rw [d] at a;cases a;exact j rfl
def qj (B:Nat)(W:World):List Value→List (List Int)→Prop
 |[], []=>True
 |b::c,a::d=>W.ownsRow B 3 1 b a.length (ints a)∧qj B W c d
 |_,_=>False
theorem qj.length :∀{a:List Value} {b:List (List Int)},qj B W a b→a.length=b.length
 |[], [],_=>rfl
 |_::_,_::_,c=>by have:=c.2.length;simp [this]
theorem qj.kept {a:Option Nat}(b:W.grownBy D a)(c:Off W B 3 a):∀{d:List Value} {e:List (List Int)},qj B W d e→qj B D d e
 |[], [],_=>trivial
 |_::_,_::_,f=>⟨qp f.1 b c,qj.kept b c f.2⟩
theorem qj.append :∀{b c:List Value} {d e:List (List Int)},qj B W b d→qj B W c e→qj B W (b++c) (d++e)
 |[],_, [],_,_,a=>a
 |_::_,_,_::_,_,a,f=>⟨a.1,a.2.append f⟩
theorem qj.base (a:B'≤B):∀{b:List Value} {c:List (List Int)},qj B W b c→qj B' W b c
 |[], [],_=>trivial
 |_::_,_::_,d=>⟨qk d.1 a,qj.base a d.2⟩
theorem qj.nest :∀{a:List Value} {b:List (List Int)},qj B W a b→ZR W.heap.size W a (b.map ints)
 |[], [],_=>trivial
 |_::_,d::_,c=>⟨by have:=Arr.of_owns c.1;rw [←qP d] at this;exact this,c.2.nest⟩
theorem qj.get :∀{c:List Value} {b:List (List Int)} (_:qj B W c b) (a:Nat) (e:a<c.length) (f:a<b.length),W.ownsRow B 3 1 c[a] b[a].length (ints b[a])
 |_::_,_::_,d,0,_,_=>d.1
 |_::_,_::_,d,a+1,e,f=>d.2.get a (by simpa using e) (by simpa using f)
theorem qj.one :∀{c:List Value} {d:List (List Int)},qj B W c d→∀b∈c,b.oneCell'=true
 |[], [],_,b,a=>by cases a
 |f::c,g::d,e,b,a=>by
  rcases List.mem_cons.1 a with rfl | a
  ·obtain ⟨_,_,rfl,_⟩:=qg e.1;rfl
  ·exact qj.one e.2 b a
def qO (B:Nat)(W:World)(v:Value)(l:List (List Int)):Prop:=∃a,W.ownsRow B 24 1 v a.length a∧qj B W a l
theorem qO.kept {a:Option Nat}(c:qO B W v l)(b:W.grownBy D a)(d:Off W B 24 a)(e:Off W B 3 a):qO B D v l:=by
 obtain ⟨f,g,h⟩:=c;exact ⟨f,qp g b d,h.kept b e⟩
theorem qO.base (b:qO B W v l)(a:B'≤B):qO B' W v l:=by
 obtain ⟨c,d,e⟩:=b;exact ⟨c,qk d a,e.base a⟩
theorem qO.sh (b:qO B W v l):ZS W.heap.size W v l:=by
 obtain ⟨c,d,a⟩:=b;exact ⟨c,a.length,Arr.of_owns d,a.nest⟩
theorem qO.nil (B:Nat)(W:World):qO B W (.slice none 0 0) []:=⟨[],World.ownsRow_nil _ _ _ _,trivial⟩
theorem qO.form (c:qO B W v l):∃a b,v= .slice a l.length b:=by
 obtain ⟨_,d,e⟩:=c;obtain ⟨a,b,f,_⟩:=qg d;exact ⟨a,b,by rw [f,e.length]⟩
theorem yI (a:Below W.heap.size W D):W.grownBy D none:=⟨a.os,a.tape,a.output,a.size,fun b c _=>a.block b c⟩
theorem Qq {a:Option Nat}(c:W.grownBy D a)(d:B≤W.heap.size)(e:∀b,a=some b→B≤b):Below B W D:=(Below.refl _ _).grown c d e
theorem QL {k:IntKind}{a b:Int}(c:a=b):Ending.returned (.int k a)= .returned (.int k b):=by rw [c]
theorem ql {e:Func}{p q:Tmp}{a:TypeId}(f:e.results=#[.cell p a,.tmp q])(b:Array Value)(w:World)(g:Nat)(t:TypeId)(c:Array Value)(fr:Nat×Nat)(d:TypeDesc)
  (h:b.getD p undef= .pointer (some ⟨g,0,none⟩)) (i:w.heap[g]? =some (.cells c t fr))
  (j:P.underlying a=some d) (k:(match d with | .struct _ | .array _ _=>true | _=>false)=true) (l:(P.info? a).map (·.size)=some c.size):
  (results e b).run P w= .ok (.tuple #[.agg c,b.getD q undef]) w:=by
 have m:b[p]?.getD undef= .pointer (some ⟨g,0,none⟩):=by simpa using h
 simp [results,f,m,asAddr,run_loadVar_row w g t a c fr d i j k l]
theorem qC (a:Below B w A)(n:Nat):Below B w (A.drewN n):=⟨a.os,a.tape,a.output,a.size,a.block⟩
def Qt:List Int→Int→Int
 |[],a=>a
 |b::c,a=>if b<1 then 0 else if 16<b then 0 else if 32<a * b then 0 else Qt c (a * b)
def qN (s:List Int):Int:=if Qt s 1=0 then 0 else if 2<s.length then 0 else Qt s 1
theorem zbV:∀(c:List Int) (a:Int),1≤a→a≤32→0≤Qt c a∧Qt c a≤32
 |[],a,d,e=>by simp only [Qt];omega
 |b::f,a,d,e=>by
  rw [Qt]
  split
  ·omega
  ·split
   ·omega
   ·split
    ·omega
    ·have:1≤a * b:=by
      have:(1:Int) * 1≤a * b:=Int.mul_le_mul d (by omega) (by omega) (by omega);omega
     exact zbV f (a * b) this (by omega)
theorem zfL (s:List Int):0≤qN s∧qN s≤32:=by
 have:=zbV s 1 (by omega) (by omega);unfold qN;split
 ·omega
 ·split<;>omega
theorem zB (v:Value)(s:List Int)(w:World)(f:Arr w.heap.size w 1 v s.length (ints s)):
  Calls prog 34 #[v] w fun o p=>o= .returned (.int .i64 (qN s))∧w=p:=by
 obtain ⟨_,_,rfl,_,q,r,g⟩:=f.open;have t:=Z g;unfold maxLen at q;clear f r g;go_enter func34,ntmps34;go_wp2_with fail;go_loopg [3,8] s.length (fun u x y wr=>∃(b:Nat) (c:Int),b≤s.length∧u=s.length-b∧y= .int .i64 b∧x= .int .i64 c∧1≤c∧c≤32∧Hid (Qt (s.drop b) c=Qt s 1)∧w=wr)
 case atStart=>exact ⟨0,1,Nat.zero_le _,rfl,rfl,rfl,by omega,by omega,rfl,rfl⟩
 case round=>
  obtain ⟨b,c,_,_,rfl,rfl,z,A,h,rfl⟩:=hrel
  by_cases i:b<s.length
  ·obtain ⟨B,C,rfl,_,j⟩:=t.out (by omega)
   have D:w.cell? ⟨B,C+b,none⟩=some (.int .i64 s[b]):=by rw [j b (by omega),yY s b i]
   have a:=h.out;rw [List.drop_eq_getElem_cons i,Qt] at a;generalize s[b]=e at D a;clear j
   by_cases k:e<1
   ·rw [if_pos k] at a
    have d:=Z a;clear a;go_wp2_with fail;go_ret;exact ⟨QL (by rw [qN,if_pos d.symm]),rfl⟩
   ·rw [if_neg k] at a
    by_cases l:16<e
    ·rw [if_pos l] at a
     have d:=Z a;clear a;go_wp2_with fail;go_ret;exact ⟨QL (by rw [qN,if_pos d.symm]),rfl⟩
    ·rw [if_neg l] at a
     have:(1:Int) * 1≤c * e:=Int.mul_le_mul z (by omega) (by omega) (by omega);have:c * e≤32 * 16:=Int.mul_le_mul A (by omega) (by omega) (by omega);have:0≤c * e:=by omega
     have:c * e≤512:=by omega
     by_cases m:32<c * e
     ·rw [if_pos m] at a
      have d:=Z a;clear a;go_wp2_with fail;go_ret;exact ⟨QL (by rw [qN,if_pos d.symm]),rfl⟩
     ·rw [if_neg m] at a
      have d:=Z a;clear a;go_wp2_with fail;go_roundg (s.length-(b+1))
      case measure=>omega
      case rel=>exact ⟨b+1,c * e,by omega,rfl,by go_num,rfl,by omega,by omega,d,rfl⟩
  ·obtain rfl:b=s.length:=by omega
   have a:=h.out;rw [List.drop_length,Qt] at a;have d:=Z a;clear a
   by_cases n:2<s.length
   ·go_wp2_with fail
    go_ret;exact ⟨QL (by rw [qN];simp [n]),rfl⟩
   ·go_wp2_with fail
    go_ret;exact ⟨QL (by rw [qN,←d.out,if_neg (by omega),if_neg n]),rfl⟩
end Go.Proofs.YtklofgfkaaoipaaGreatDoor
namespace Go.Proofs.YtklofgfkaaoipaaGreatDoor
open Go.RowKit Go.Extern.Stop Go.Stop Go.Extern Go.Proofs.Tryz
variable {w h:World}{B:Nat}
def yC (w:World):Prop:=w.cell? ⟨0,0,none⟩=some (.iface 201 (.agg #[.pointer (some ⟨7,34,none⟩)]))
theorem yC.below (a:yC w)(b:Below w.heap.size w h):yC h:=cell_later b a
@[go_sem] theorem zpY (t:Addr)(w:World):(ReflectliteValue.unpack (.iface 81 (.pointer (some t)))).run prog w
  = .ok (.agg #[.pointer (some ⟨7,81,none⟩),.pointer (some ⟨w.heap.size,0,none⟩),.int .u64 150]) (w.alloc (.cells #[.pointer (some t)] 81)):=by kernel_rfl
@[go_sem] theorem zqS (a:Addr)(w:World):(ReflectliteValue.methodAny (ReflectliteValue.valueError "reflectlite.Value.Type" 0) (fun b _ _ _=>ReflectliteType.toType b) #[.agg #[.pointer (some ⟨7,81,none⟩),.pointer (some a),.int .u64 150]]).run prog w
  = .ok (.iface 201 (.agg #[.pointer (some ⟨7,81,none⟩)])) w:=by kernel_rfl
theorem zoF (a:Addr)(w:World):(ReflectliteValue.parts (.agg #[.pointer (some ⟨7,81,none⟩),.pointer (some a),.int .u64 150])).run prog w= .ok (some (81,a,150)) w:=by kernel_rfl
@[go_sem] theorem zpX (t:Addr)(w:World):(ReflectliteValue.unpack (.iface 66 (.pointer (some t)))).run prog w
  = .ok (.agg #[.pointer (some ⟨7,66,none⟩),.pointer (some ⟨w.heap.size,0,none⟩),.int .u64 150]) (w.alloc (.cells #[.pointer (some t)] 66)):=by kernel_rfl
@[go_sem] theorem zqR (a:Addr)(w:World):(ReflectliteValue.methodAny (ReflectliteValue.valueError "reflectlite.Value.Type" 0) (fun b _ _ _=>ReflectliteType.toType b) #[.agg #[.pointer (some ⟨7,66,none⟩),.pointer (some a),.int .u64 150]]).run prog w
  = .ok (.iface 201 (.agg #[.pointer (some ⟨7,66,none⟩)])) w:=by kernel_rfl
theorem zkt (a:Addr)(w:World):(ReflectliteValue.parts (.agg #[.pointer (some ⟨7,66,none⟩),.pointer (some a),.int .u64 150])).run prog w= .ok (some (66,a,150)) w:=by kernel_rfl
@[go_sem] theorem zqh (w:World):((ReflectliteType.abiMethod fun a=>Functor.map (fun b:Nat=>Value.int IntKind.u8 (b:Int)) (Rtype.kind a)) #[.pointer (some ⟨7,81,none⟩)]).run prog w= .ok (.int .u8 22) w:=by kernel_rfl
@[go_sem] theorem zqB (w:World):((ReflectliteType.abiMethod fun a=>Functor.map (fun b:Nat=>Value.int IntKind.u8 (b:Int)) (Rtype.kind a)) #[.pointer (some ⟨7,80,none⟩)]).run prog w= .ok (.int .u8 22) w:=by kernel_rfl
@[go_sem] theorem zqg (w:World):((ReflectliteType.abiMethod fun a=>Functor.map (fun b:Nat=>Value.int IntKind.u8 (b:Int)) (Rtype.kind a)) #[.pointer (some ⟨7,66,none⟩)]).run prog w= .ok (.int .u8 22) w:=by kernel_rfl
@[go_sem] theorem zqA (w:World):((ReflectliteType.abiMethod fun a=>Functor.map (fun b:Nat=>Value.int IntKind.u8 (b:Int)) (Rtype.kind a)) #[.pointer (some ⟨7,37,none⟩)]).run prog w= .ok (.int .u8 2) w:=by kernel_rfl
@[go_sem] theorem zqb (w:World):(ReflectliteType.method ReflectliteType.elem #[.agg #[.pointer (some ⟨7,81,none⟩)]]).run prog w= .ok (.iface 201 (.agg #[.pointer (some ⟨7,80,none⟩)])) w:=by kernel_rfl
@[go_sem] theorem zqa (w:World):(ReflectliteType.method ReflectliteType.elem #[.agg #[.pointer (some ⟨7,66,none⟩)]]).run prog w= .ok (.iface 201 (.agg #[.pointer (some ⟨7,37,none⟩)])) w:=by kernel_rfl
@[go_sem] theorem zo6 (w:World):(ReflectliteType.relation "Implements" ReflectliteType.implements_ #[.agg #[.pointer (some ⟨7,80,none⟩)],.iface 201 (.agg #[.pointer (some ⟨7,34,none⟩)])]).run prog w= .ok (.bool true) w:=by kernel_rfl
@[go_sem] theorem zqD (v:Value)(w:World):(ReflectliteType.typeOf #[.iface 80 v]).run prog w= .ok (.iface 201 (.agg #[.pointer (some ⟨7,80,none⟩)])) w:=by kernel_rfl
@[go_sem] theorem zo5 (w:World):(ReflectliteType.relation "Implements" ReflectliteType.implements_ #[.agg #[.pointer (some ⟨7,37,none⟩)],.iface 201 (.agg #[.pointer (some ⟨7,34,none⟩)])]).run prog w= .ok (.bool true) w:=by kernel_rfl
@[go_sem] theorem zqC (v:Value)(w:World):(ReflectliteType.typeOf #[.iface 37 v]).run prog w= .ok (.iface 201 (.agg #[.pointer (some ⟨7,37,none⟩)])) w:=by kernel_rfl
@[go_sem] theorem zp4 (w:World):(ReflectliteType.relation "AssignableTo" ReflectliteType.assignableTo #[.agg #[.pointer (some ⟨7,80,none⟩)],.iface 201 (.agg #[.pointer (some ⟨7,80,none⟩)])]).run prog w= .ok (.bool true) w:=by kernel_rfl
@[go_sem] theorem zp3 (w:World):(ReflectliteType.relation "AssignableTo" ReflectliteType.assignableTo #[.agg #[.pointer (some ⟨7,80,none⟩)],.iface 201 (.agg #[.pointer (some ⟨7,37,none⟩)])]).run prog w= .ok (.bool false) w:=by kernel_rfl
@[go_sem] theorem zp2 (w:World):(ReflectliteType.relation "AssignableTo" ReflectliteType.assignableTo #[.agg #[.pointer (some ⟨7,37,none⟩)],.iface 201 (.agg #[.pointer (some ⟨7,80,none⟩)])]).run prog w= .ok (.bool false) w:=by kernel_rfl
@[go_sem] theorem zp1 (w:World):(ReflectliteType.relation "AssignableTo" ReflectliteType.assignableTo #[.agg #[.pointer (some ⟨7,37,none⟩)],.iface 201 (.agg #[.pointer (some ⟨7,37,none⟩)])]).run prog w= .ok (.bool true) w:=by kernel_rfl
@[go_sem] theorem zpz (a:Value)(w:World):(Go.method 515 201 (.agg #[a]) "Kind").run prog w= .ok (295,a) w:=by kernel_rfl
@[go_sem] theorem zpy (a:Value)(w:World):(Go.method 515 201 (.agg #[a]) "Elem").run prog w= .ok (313,.agg #[a]) w:=by kernel_rfl
@[go_sem] theorem zln (a:Value)(w:World):(Go.method 515 201 (.agg #[a]) "Implements").run prog w= .ok (314,.agg #[a]) w:=by kernel_rfl
@[go_sem] theorem zjl (a:Value)(w:World):(Go.method 515 201 (.agg #[a]) "AssignableTo").run prog w= .ok (311,.agg #[a]) w:=by kernel_rfl
@[go_sem] theorem zlm (a:Value)(w:World):(Go.method 515 201 (.agg #[a]) "Comparable").run prog w= .ok (312,.agg #[a]) w:=by kernel_rfl
theorem rlm (z:Sem Value)(f:TypeId→Addr→Nat→Nat→Sem Value)(v:Value):
  ReflectliteValue.method z f #[v]=(do match ←ReflectliteValue.parts v with | none=>z | some (b,c,a)=>f b c a (a%32)):=rfl
@[go_sem] theorem zqz (a p:Addr)(W:World)(b:W.cell? a=some (.pointer (some p))):
  (ReflectliteValue.method (ReflectliteValue.valueError "reflectlite.Value.IsNil" 0) ReflectliteValue.isNil #[.agg #[.pointer (some ⟨7,81,none⟩),.pointer (some a),.int .u64 150]]).run prog W= .ok (.bool false) W:=by
 rw [rlm];simp only [Sem.run_bind,zoF,Result.andThen];simp [ReflectliteValue.isNil,loadVar,isAgg,underlying,underlying81,b,Result.andThen]
@[go_sem] theorem zqy (a p:Addr)(W:World)(b:W.cell? a=some (.pointer (some p))):
  (ReflectliteValue.method (ReflectliteValue.valueError "reflectlite.Value.IsNil" 0) ReflectliteValue.isNil #[.agg #[.pointer (some ⟨7,66,none⟩),.pointer (some a),.int .u64 150]]).run prog W= .ok (.bool false) W:=by
 rw [rlm];simp only [Sem.run_bind,zkt,Result.andThen];simp [ReflectliteValue.isNil,loadVar,isAgg,underlying,underlying66,b,Result.andThen]
@[go_sem] theorem zpr (args:Array Value)(w:World):(callFunc 60 args).run prog w=((ReflectliteValue.unpack (args.getD 0 (.tuple #[])):Sem Value).run prog w).andThen fun a b=> .ok (.value a) b:=
 run_callFunc_extern (e:=(fun args=>ReflectliteValue.unpack (args.getD 0 (.tuple #[])))) func60 (by kernel_rfl) (by kernel_rfl) (by kernel_rfl) (by kernel_rfl) args w
@[go_sem] theorem zqx (args:Array Value)(w:World):(callFunc 61 args).run prog w=(((ReflectliteValue.methodAny (ReflectliteValue.valueError "reflectlite.Value.Type" 0) (fun a _ _ _=>ReflectliteType.toType a)) args:Sem Value).run prog w).andThen fun b c=> .ok (.value b) c:=
 run_callFunc_extern (e:=(ReflectliteValue.methodAny (ReflectliteValue.valueError "reflectlite.Value.Type" 0) (fun a _ _ _=>ReflectliteType.toType a))) func61 (by kernel_rfl) (by kernel_rfl) (by kernel_rfl) (by kernel_rfl) args w
@[go_sem] theorem zqe (args:Array Value)(w:World):(callFunc 62 args).run prog w=(((ReflectliteValue.method (ReflectliteValue.valueError "reflectlite.Value.IsNil" 0) ReflectliteValue.isNil) args:Sem Value).run prog w).andThen fun a b=> .ok (.value a) b:=
 run_callFunc_extern (e:=(ReflectliteValue.method (ReflectliteValue.valueError "reflectlite.Value.IsNil" 0) ReflectliteValue.isNil)) func62 (by kernel_rfl) (by kernel_rfl) (by kernel_rfl) (by kernel_rfl) args w
@[go_sem] theorem zqw (args:Array Value)(w:World):(callFunc 295 args).run prog w=(((ReflectliteType.abiMethod fun a=>do pure (.int .u8 (←Rtype.kind a))) args:Sem Value).run prog w).andThen fun b c=> .ok (.value b) c:=
 run_callFunc_extern (e:=(ReflectliteType.abiMethod fun a=>do pure (.int .u8 (←Rtype.kind a)))) func295 (by kernel_rfl) (by kernel_rfl) (by kernel_rfl) (by kernel_rfl) args w
@[go_sem] theorem zqv (args:Array Value)(w:World):(callFunc 313 args).run prog w=(((ReflectliteType.method ReflectliteType.elem) args:Sem Value).run prog w).andThen fun a b=> .ok (.value a) b:=
 run_callFunc_extern (e:=(ReflectliteType.method ReflectliteType.elem)) func313 (by kernel_rfl) (by kernel_rfl) (by kernel_rfl) (by kernel_rfl) args w
@[go_sem] theorem znZ (args:Array Value)(w:World):(callFunc 314 args).run prog w=(((ReflectliteType.relation "Implements" ReflectliteType.implements_) args:Sem Value).run prog w).andThen fun a b=> .ok (.value a) b:=
 run_callFunc_extern (e:=(ReflectliteType.relation "Implements" ReflectliteType.implements_)) func314 (by kernel_rfl) (by kernel_rfl) (by kernel_rfl) (by kernel_rfl) args w
@[go_sem] theorem zpQ (args:Array Value)(w:World):(callFunc 95 args).run prog w=((ReflectliteType.typeOf args:Sem Value).run prog w).andThen fun a b=> .ok (.value a) b:=
 run_callFunc_extern (e:=ReflectliteType.typeOf) func95 (by kernel_rfl) (by kernel_rfl) (by kernel_rfl) (by kernel_rfl) args w
@[go_sem] theorem zl9 (args:Array Value)(w:World):(callFunc 311 args).run prog w=(((ReflectliteType.relation "AssignableTo" ReflectliteType.assignableTo) args:Sem Value).run prog w).andThen fun a b=> .ok (.value a) b:=
 run_callFunc_extern (e:=(ReflectliteType.relation "AssignableTo" ReflectliteType.assignableTo)) func311 (by kernel_rfl) (by kernel_rfl) (by kernel_rfl) (by kernel_rfl) args w
@[go_sem] theorem zqf (args:Array Value)(w:World):(callFunc 96 args).run prog w=(((ReflectliteValue.method (ReflectliteValue.valueError "reflectlite.Value.Elem" 0) ReflectliteValue.elem) args:Sem Value).run prog w).andThen fun a b=> .ok (.value a) b:=
 run_callFunc_extern (e:=(ReflectliteValue.method (ReflectliteValue.valueError "reflectlite.Value.Elem" 0) ReflectliteValue.elem)) func96 (by kernel_rfl) (by kernel_rfl) (by kernel_rfl) (by kernel_rfl) args w
@[go_sem] theorem zqH (args:Array Value)(w:World):(callFunc 97 args).run prog w=((ReflectliteValue.set args:Sem Value).run prog w).andThen fun a b=> .ok (.value a) b:=
 run_callFunc_extern (e:=ReflectliteValue.set) func97 (by kernel_rfl) (by kernel_rfl) (by kernel_rfl) (by kernel_rfl) args w
@[go_sem] theorem zph (v:Value)(w:World):(Instr.typeAssert (.iface 80 v) 34 206 true).run prog w= .ok (.tuple #[.nilIface,.bool false]) w:=run_typeAssert_lacksB underlying206 (by kernel_rfl) (by kernel_rfl) ..
@[go_sem] theorem zpi (v:Value)(w:World):(Instr.typeAssert (.iface 80 v) 34 209 true).run prog w= .ok (.tuple #[.iface 80 v,.bool true]) w:=run_typeAssert_hasB underlying209 (by kernel_rfl) ..
@[go_sem] theorem zo1 (v:Value)(w:World):(Instr.typeAssert (.iface 80 v) 34 211 true).run prog w= .ok (.tuple #[.nilIface,.bool false]) w:=run_typeAssert_lacksB underlying211 (by kernel_rfl) (by kernel_rfl) ..
@[go_sem] theorem zpf (v:Value)(w:World):(Instr.typeAssert (.iface 37 v) 34 206 true).run prog w= .ok (.tuple #[.nilIface,.bool false]) w:=run_typeAssert_lacksB underlying206 (by kernel_rfl) (by kernel_rfl) ..
@[go_sem] theorem zpg (v:Value)(w:World):(Instr.typeAssert (.iface 37 v) 34 209 true).run prog w= .ok (.tuple #[.nilIface,.bool false]) w:=run_typeAssert_lacksB underlying209 (by kernel_rfl) (by kernel_rfl) ..
@[go_sem] theorem zo0 (v:Value)(w:World):(Instr.typeAssert (.iface 37 v) 34 211 true).run prog w= .ok (.tuple #[.nilIface,.bool false]) w:=run_typeAssert_lacksB underlying211 (by kernel_rfl) (by kernel_rfl) ..
@[go_sem] theorem zow (a:Value)(w:World):(Go.method 515 80 a "Unwrap").run prog w= .ok (301,a) w:=by kernel_rfl
theorem zaz {a:Addr}{v:Value}(c:w.cell? a=some v):a.block<w.heap.size:=by
 rcases Nat.lt_or_ge a.block w.heap.size with b | b
 ·exact b
 ·simp [World.cell?,Array.getElem?_eq_none b] at c
theorem zd7 (b:Int)(t:Addr)(w:World)(a:yC w)(e:w.cell? t=some (.pointer none)):
  Calls prog 29 #[.iface 37 (.int .i64 b),.iface 81 (.pointer (some t))] w fun c d=>c= .returned (.bool false)∧Below w.heap.size w d:=by
 unfold yC at a;have:0<w.heap.size:=zaz a;go_enter func29,ntmps29;go_wp2;refine wp_loop_rounds 1 ?_;rw [rounds_succ];go_wp2;go_ret;exact ⟨rfl,by repeat (first | exact Below.refl _ _ | refine Below.alloc ?_ (by first | simp;done | (simp;omega)) _)⟩
def zH (B:Nat)(w:World):List (ByteArray×Int)→Int→Value→Prop
 |[],a,b=>b= .iface 37 (.int .i64 a)
 |(f,g)::d,a,b=>∃c e,b= .iface 80 (.pointer (some ⟨c,0,none⟩))∧c<B∧
   w.heap[c]? =some (.cells #[.string f,.int .i64 g,.int .i64 (d.length+1:Nat),e] 83 (0,0))∧zH B w d a e
theorem zH.form :∀{b:List (ByteArray×Int)} {c:Int} {a:Value},zH B w b c a→∃d e,a= .iface d e
 |[],_,_,f=>⟨_,_,f⟩
 |(_,_)::_,_,_,⟨_,_,g,_⟩=>⟨_,_,g⟩
theorem zH.later {B':Nat}(a:Below B w h)(f:B≤B'):∀{b:List (ByteArray×Int)} {c:Int} {d:Value},zH B w b c d→zH B' h b c d
 |[],_,_,g=>g
 |(_,_)::_,_,_,⟨e,i,j,k,l,m⟩=>⟨e,i,j,by omega,(a.block e k).trans l,m.later a f⟩
theorem yV (b:ByteArray)(c d:Int)(w:World)(h:yC w):
  Calls prog 14 #[.iface 37 (.int .i64 c),.string b,.int .i64 d] w fun e a=>∃f,e= .returned f∧zH a.heap.size a [(b,d)] c f∧Below w.heap.size w a:=by
 go_enter func14,ntmps14;go_wp2_with fail;refine (zd7 _ _ _ (h.below ((Below.refl _ _).alloc (Nat.le_refl _) _)) (by simp)).mono ?_;rintro e i ⟨rfl,g⟩;have j:=g.size;simp only [World.size_alloc] at j;have k:Below w.heap.size w i:=((Below.refl _ _).alloc (Nat.le_refl _) _).trans (g.mono (by simp));go_wp2;go_ret;exact ⟨_,rfl,⟨_,_,rfl,by simp,heap_alloc_new _ _,rfl⟩,k.alloc (by omega) _⟩
end Go.Proofs.YtklofgfkaaoipaaGreatDoor
namespace Go.Proofs.YtklofgfkaaoipaaGreatDoor
open Go.RowKit Go.Proofs.Tryz
variable {P:Program}{ops:Array Oper}{o:Oper}{a:Act}{K:Act→World→Prop}{Q:Exit→Act→World→Prop}{E:Prop}{w:World}{B k n b:Nat}{h:List Value}{l:List Int}
theorem yU {w0:World}(p:o.guard=none)(s x:Operand)(t:TypeId)
  (q:o.op= .call {callee:= .builtin .append,args:=#[s,x],argTypes:=#[t,t]}) (e:TypeId) (z:Value) (k i:Nat)
  (r:P.underlying t=some (.slice e)) (u:(P.info? e).map (fun c=>(c.zero,c.size,c.bytes))=some (some z,k,i)) (w:z.cells.size=k) (y:0<k)
  (b:Array Value) (n base:Nat) (v:Value) (j:List Value) (A:w0.ownsRow base e k v n j) (B:a.eval s=v) (C:a.eval x= .slice (some ⟨w0.heap.size,0,none⟩) 1 1)
  (D:b.size=k) (F:∀l∈b.toList,l.oneCell'=true) (S:base≤w0.heap.size) (G:(n+1) * i≤140737488355328) (H:n+1≤maxLen)
  (I:∀f g d,d.ownsRow base e k (.slice (some ⟨f,0,none⟩) (n+1) g) (n+1) (j++b.toList)→w0.grownBy d v.ownBlock→K (a.put o.dst (.slice (some ⟨f,0,none⟩) (n+1) g)) d):
  if Region.wanted o (yielded ops a.tmps)=true then Oper.wp P o a (w0.alloc (.cells b e)) K Q else E:=by
 obtain ⟨c,J,L,M,N⟩:=info_parts u;refine step_append_lies _ p s x t q base e c z k i r J L M N w y v n j B (A.alloc _) ⟨w0.heap.size,0,none⟩ 1 1 b.toList C (by simp [D]) ?_ F (by omega) H G (by simp;omega) (w0.heap.size+1) (by simp) ?_
 ·intro h l m
  have:(w0.alloc (.cells b e)).cell? ⟨w0.heap.size,h,none⟩=b.toList[h]? :=by
   simp only [World.cell?,heap_alloc_new];simp
  rcases h with _ | h
  ·simpa [Addr.add] using this.trans m
  ·simpa [Addr.add] using this.trans m
 ·intro f g d O R _ _
  exact I f g d O ((World.grownBy_alloc w0 _ _).trans R)
theorem zcO (G:o.guard=none)(s x:Operand)(t:TypeId)
  (H:o.op= .call {callee:= .builtin .append,args:=#[s,x],argTypes:=#[t,t]}) (e:TypeId) (z:Value) (k l:Nat)
  (A:P.underlying t=some (.slice e)) (I:(P.info? e).map (fun f=>(f.zero,f.size,f.bytes))=some (some z,k,l)) (J:z.cells.size=k) (L:0<k)
  (n m base B:Nat) (v p:Value) (g d:List Value) (q:w.ownsRow base e k v n g) (M:Arr B w k p m d) (N:a.eval s=v) (O:a.eval x=p)
  (R:∀h∈d,h.oneCell'=true) (S:base≤w.heap.size) (T:(n+m) * l≤140737488355328) (U:n+m≤maxLen)
  (V:∀b c,c.ownsRow base e k b (n+m) (g++d)→w.grownBy c v.ownBlock→(b.ownBlock=v.ownBlock∨b.ownBlock=some w.heap.size)→K (a.put o.dst b) c):
  if Region.wanted o (yielded ops a.tmps)=true then Oper.wp P o a w K Q else E:=by
 obtain ⟨f,C,W,X,Y⟩:=info_parts I;have aa:Region.wanted o (yielded ops a.tmps)=true:=by simp [Region.wanted,G]
 rw [if_pos aa];have ab:∃b c,(Builtin.append_ #[t,t] o.type #[v,p]).run P w= .ok b c∧c.ownsRow base e k b (n+m) (g++d)∧w.grownBy c v.ownBlock∧(b.ownBlock=v.ownBlock∨b.ownBlock=some w.heap.size):=by
  obtain ⟨ac,ad,rfl,_,_,ae,j,af⟩:=M;rcases ac with _ | D
  ·obtain rfl:=ae rfl
   obtain rfl:m=0:=by omega
   obtain rfl:d=[]:=by simpa using j
   exact ⟨v,w,run_append_owned_none (P:=P) (w:=w) base t o.type e f k A C v n g q,by simpa using q,World.grownBy.refl _ _,.inl rfl⟩
  ·have ag:∀i h,d[i]? =some h→w.cell? (D.add i)=some h:=by
    intro i h F;have ah:i<d.length:=(List.getElem?_eq_some_iff.1 F).1;rcases af with ai | ⟨_,_,aj,_,ak⟩
    ·subst ai;simp at j;subst j;simp at ah
    ·obtain rfl:=Option.some.inj aj
     rw [Addr.add_lit,ak i (by omega),F]
   obtain ⟨b,c,r,u,y,_,al⟩:=run_append_own_at (P:=P) w base t o.type e f z k l A C W X Y J L v n g q D m ad d j ag R U T S;exact ⟨b,c,r,u,y,al⟩
 obtain ⟨b,c,am,r,u,y⟩:=ab;unfold Oper.wp;simp [execOp,H,resolve,invoke,builtin,N,O,am,Result.andThen];exact V b c r u y
theorem Arr.take {a:Option Addr}{c:Nat}(b:Arr B w k (.slice a n c) n h)(m:Nat)(d:m≤n):Arr B w k (.slice a m c) m (h.take (m * k)):=by
 obtain ⟨e,f,g,_,i,j,_,b⟩:=b;obtain ⟨l,o⟩:a=e∧c=f:=by simpa using g
 subst l o;have:m * k≤n * k:=Nat.mul_le_mul_right _ d;refine ⟨a,c,rfl,by omega,i,j,by rw [List.length_take];omega,?_⟩;rcases b with b | ⟨p,q,r,s,t⟩
 ·exact .inl (by omega)
 ·refine .inr ⟨p,q,r,s,fun u v=> ?_⟩
  rw [t u (by omega),List.getElem?_take,if_pos v]
theorem Qu (i j:Value)(a b:List Int)(w:World)(e:Arr w.heap.size w 1 i a.length (ints a))(k:Arr w.heap.size w 1 j b.length (ints b)):
  Calls prog 21 #[i,j] w fun x y=>x= .returned (.bool (decide (a=b)))∧∃z,y=w.drewN z:=by
 obtain ⟨_,_,rfl,_,A,B,l⟩:=e.open;obtain ⟨_,_,rfl,_,C,D,m⟩:=k.open;have E:=Z l;have F:=Z m;unfold maxLen at A C;clear e k B D l m
 by_cases f:a.length=b.length
 ·have G:((a.length:Int) != (b.length:Int))=false:=by simp [f]
  have n:=Z f;clear f;go_enter func21,ntmps21;go_wp2_with fail;go_loopg [13] a.length (fun H I wr=>∃(c o:Nat),c≤a.length∧H=a.length-c∧I= .int .i64 c∧Hid (a.take c=b.take c)∧wr=w.drewN o)
  case atStart=>exact ⟨0,0,Nat.zero_le _,rfl,rfl,by simp [Hid],rfl⟩
  case round=>
   obtain ⟨c,o,_,_,rfl,p,rfl⟩:=hrel
   by_cases q:c<a.length
   ·have r:c<b.length:=by have:=n.out;omega
    obtain ⟨J,K,rfl,_,s⟩:=E.out (by omega);obtain ⟨L,M,rfl,_,t⟩:=F.out (by omega);have u:w.cell? ⟨J,K+c,none⟩=some (.int .i64 a[c]):=by rw [s c (by omega)];simp [ints,q]
    have g:w.cell? ⟨L,M+c,none⟩=some (.int .i64 b[c]):=by rw [t c (by omega)];simp [ints,r]
    have:(0:Int)≤(c:Int):=by omega
    have:(c:Int)<(a.length:Int):=by omega
    have:(c:Int)<(b.length:Int):=by omega
    clear s t
    by_cases d:a[c]=b[c]
    ·have N:=Z (show a.take (c+1)=b.take (c+1) by rw [List.take_succ_eq_append_getElem q,List.take_succ_eq_append_getElem r,p.out,d])
     rw [←d] at g;generalize a[c]=v at u g;clear d;go_wp2_with fail;go_quiet (fail);go_wp2_with fail;go_roundg (a.length-(c+1))
     case measure=>omega
     case rel=>exact ⟨c+1,_,by omega,rfl,by go_num,N,rfl⟩
    ·have h:=Z (show decide (a=b)=false by
      simp only [decide_eq_false_iff_not];rintro rfl;exact d rfl)
     generalize a[c]=v at u d;generalize b[c]=O at g d;have:((v:Int) != (O:Int))=true:=by simp;omega
     clear d;go_wp2_with fail;go_quiet (fail);go_wp2_with fail;go_ret;exact ⟨by rw [h.out];rfl,by first | exact ⟨_,rfl⟩ | exact ⟨_,World.drewN_drewN _ _ _⟩⟩
   ·obtain rfl:c=a.length:=by omega
    have P:=Z (show decide (a=b)=true by
     have e:=p.out;rw [List.take_length,List.take_of_length_le (by have:=n.out;omega)] at e;simp [e])
    go_wp2_with fail;go_ret;exact ⟨by rw [P.out];rfl,_,rfl⟩
 ·have h:=Z (show decide (a=b)=false by simp only [decide_eq_false_iff_not];rintro rfl;exact f rfl)
  have G:((a.length:Int) != (b.length:Int))=true:=by simp;omega
  go_enter func21,ntmps21;go_wp2_with fail;go_ret;exact ⟨by rw [h.out];rfl,0,rfl⟩
theorem Below.set {W a:World}(b:Below B W a){S:Nat}(c:B≤S)(j:Nat)(x:Value):Below B W (a.setCell ⟨S,j,none⟩ x):=b.setCell (p:=⟨S,j,none⟩) c x
theorem YS (n:Nat):madeCells (Value.int .i64 0).cells n=(ints (List.replicate n 0)).toArray:=by
 apply Array.toList_inj.1
 show (madeCells #[.int .i64 0] n).toList=_;rw [toList_madeCells_one];simp [ints]
theorem qV (a:w.heap[b]? =some (.cells (ints l).toArray 3 (0,0)))(k:Nat)(c:k<l.length):
  w.cell? ⟨b,k,none⟩=some (.int .i64 (l.getD k 0))∧w.frozen? ⟨b,k,none⟩=false:=by
 constructor
 ·rw [cell_of_row _ _ _ _ _ _ a];simp [ints,List.getD,c]
 ·simp [World.frozen?,a]
theorem zo (a:w.heap[b]? =some (.cells (ints l).toArray 3 (0,0)))(k:Nat)(x:Int):
  (w.setCell ⟨b,k,none⟩ (.int .i64 x)).heap[b]? =some (.cells (ints (l.set k x)).toArray 3 (0,0)):=by
 rw [heap_setCell a];simp [ints,List.map_set]
theorem zh9 {c:World}{base:Nat}{e:TypeId}{v:Value}(a:w.ownsRow base e k v n h)(g:∀b,v.ownBlock=some b→c.heap[b]? =w.heap[b]?):c.ownsRow base e k v n h:=by
 rcases a.2 with i | ⟨d,j,l,f,m,o,p⟩
 ·exact ⟨a.1,.inl i⟩
 ·exact ⟨a.1,.inr ⟨d,j,l,f,m,(g d (by rw [f];rfl)).trans o,p⟩⟩
end Go.Proofs.YtklofgfkaaoipaaGreatDoor
