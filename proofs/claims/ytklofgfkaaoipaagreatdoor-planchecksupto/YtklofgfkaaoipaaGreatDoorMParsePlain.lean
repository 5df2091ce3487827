/-
  THE PLAIN MIRROR of parse.Parse: tokens as a tree; and what a step of it never does.
-/
import Derived.Test.YtklofgfkaaoipaaGreatDoorMLexPlain
import Derived.StillTailTactics
import Derived.Deep.RegionHeld3
import Derived.Deep.RegionWith
import Derived.Laws.Rows
import Derived.RegionTactic
import Derived.OwnWalk
import Derived.BigRegion
import Derived.Test.YtklofgfkaaoipaaGreatDoorMMem
import Derived.Deep.RegionLaw
import Derived.Deep.DeepCutAuto
import Derived.Test.YtklofgfkaaoipaaGreatDoorMHd
set_option maxHeartbeats 16000000
set_option maxRecDepth 100000
set_option linter.unusedSimpArgs false
set_option linter.unusedVariables false
namespace Go.Proofs.YtklofgfkaaoipaaGreatDoor
open Go.Proofs.Tryz
variable {T:List MTok}
structure MExpr where
 kind:Nat
 name:List Nat
 num:Nat
 args:List Nat
 pos:Nat
structure MStmt where
 kind:Nat
 party:Nat
 name:List Nat
 shape:List Int
 expr:Nat
 pos:Nat
structure PS where
 pos:Nat
 stmts:List MStmt
 exprs:List MExpr
 deep:Nat
 err:Option Int
def zqr:MTok:=⟨0, [],0,0⟩
def qA (a:List MTok)(s:PS):MTok:=a.getD s.pos zqr
def zR (s:PS)(e:Int):PS:=match s.err with | none=>{s with err:=some e} | some _=>s
def pIs (a:List MTok)(s:PS)(x:List Nat):Bool:=s.err.isNone&&(((qA a s).kind==3||(qA a s).kind==4)&&(qA a s).text==x)
def qr (s:PS):PS:={s with pos:=s.pos+1}
def zv (a:List MTok)(s:PS)(x:List Nat):PS:=if pIs a s x then qr s else zR s 130
def Yy (a:List MTok)(s:PS):PS×List Nat:=if s.err.isSome||(qA a s).kind != 1 then (zR s 130, []) else (qr s,(qA a s).text)
def ze (a:List MTok)(s:PS):PS×Nat:=if s.err.isSome||(qA a s).kind != 2||decide (1048576<(qA a s).num) then (zR s 130,0) else (qr s,(qA a s).num)
def Qo (s:PS)(e:MExpr):PS×Nat:=if s.err.isSome then (s,0) else ({s with exprs:=s.exprs++[e]},s.exprs.length)
def zN (s:PS):PS:={s with deep:=s.deep+1}
def pUp (s:PS):PS:={s with deep:=s.deep-1}
def zY (t:MTok):Nat×Nat:=
 if t.kind≠4 then (0,0) else if t.text=[114,101,108,117] then (10,1) else if t.text=[115,117,109] then (11,1) else if t.text=[97,114,103,109,97,120] then (12,1)
 else if t.text=[109,97,120] then (13,2) else if t.text=[109,117,120] then (14,3) else (0,0)
def zeT (g:PS→PS×Nat)(c:List MTok):Nat→Bool→PS→List Nat→PS×List Nat
 |0,_,a,b=>(a,b)
 |e+1,first,a,b=>let d:=g (if first then a else zv c a [44]);zeT g c e false d.1 (b++[d.2])
inductive PK where
 |expr | sum | sumL (a:Nat) | prod | prodL (a:Nat) | sign | post | postL (a:Nat) | atom
def pGo (b:List MTok):Nat→PK→PS→PS×Nat
 |0,_,a=>(a,0)
 |c+1,.expr,a=>
  let d:=pGo b c .sum a
  if pIs b d.1 [60] then let f:=pGo b c .sum (qr d.1);Qo f.1 ⟨8, [],0, [d.2,f.2],(qA b d.1).pos⟩ else d
 |c+1,.sum,a=>let d:=pGo b c .prod a;pGo b c (.sumL d.2) d.1
 |c+1,.sumL e,a=>
  if pIs b a [43] then let f:=pGo b c .prod (qr a);let d:=Qo f.1 ⟨4, [],0, [e,f.2],(qA b a).pos⟩;pGo b c (.sumL d.2) d.1
  else if pIs b a [45] then let f:=pGo b c .prod (qr a);let d:=Qo f.1 ⟨5, [],0, [e,f.2],(qA b a).pos⟩;pGo b c (.sumL d.2) d.1
  else (a,e)
 |c+1,.prod,a=>let d:=pGo b c .sign a;pGo b c (.prodL d.2) d.1
 |c+1,.prodL e,a=>
  if pIs b a [42] then let f:=pGo b c .sign (qr a);let d:=Qo f.1 ⟨6, [],0, [e,f.2],(qA b a).pos⟩;pGo b c (.prodL d.2) d.1
  else if pIs b a [64] then let f:=pGo b c .sign (qr a);let d:=Qo f.1 ⟨7, [],0, [e,f.2],(qA b a).pos⟩;pGo b c (.prodL d.2) d.1
  else (a,e)
 |c+1,.sign,a=>
  if pIs b a [45] then
   if a.deep=32 then (zR a 5,0)
   else let e:=pGo b c .sign (qr (zN a));Qo (pUp e.1) ⟨3, [],0, [e.2],(qA b a).pos⟩
  else pGo b c .post a
 |c+1,.post,a=>let d:=pGo b c .atom a;pGo b c (.postL d.2) d.1
 |c+1,.postL e,a=>
  if pIs b a [62,62] then let h:=ze b (qr a);let d:=Qo h.1 ⟨9, [],h.2, [e],(qA b a).pos⟩;pGo b c (.postL d.2) d.1 else (a,e)
 |c+1,.atom,a=>
  let g:=qA b a
  if a.err.isSome then (a,0)
  else if g.kind=2 then Qo (qr a) ⟨1, [],g.num, [],g.pos⟩
  else if g.kind=1 then Qo (qr a) ⟨2,g.text,0, [],g.pos⟩
  else if pIs b a [40]=false∧(zY g).2=0 then (zR a 130,0)
  else if a.deep=32 then (zR a 5,0)
  else if (zY g).2=0 then let e:=pGo b c .expr (qr (zN a));(pUp (zv b e.1 [41]),e.2)
  else let i:=zeT (pGo b c .expr) b (zY g).2 true (zv b (qr (zN a)) [40]) [];Qo (pUp (zv b i.1 [41])) ⟨(zY g).1, [],0,i.2,g.pos⟩
def zcG (c:List MTok):Nat→PS→List Int→PS×List Int
 |0,a,b=>(a,b)
 |e+1,a,b=>if pIs c a [44] then let d:=ze c (qr a);zcG c e d.1 (b++[(d.2:Int)]) else (a,b)
def Y3 (a:List MTok)(s:PS):PS×List Int:=
 let s:=zv a s [91]
 if pIs a s [93] then (qr s, []) else let b:=ze a s;let c:=zcG a (a.length+1) b.1 [(b.2:Int)];(zv a c.1 [93],c.2)
def Qm:PK→Nat
 |.expr=>6 | .sum=>5 | .sumL _=>1 | .prod=>4 | .prodL _=>1 | .sign=>3 | .post=>2 | .postL _=>1 | .atom=>1
def yu (a:List MTok)(k:PK)(s:PS):Nat:=16 * (a.length-s.pos)+Qm k
def zcF (a:List MTok):Nat:=16 * a.length+16
def Zq (a:List MTok)(s:PS):PS×MStmt:=
 let c:=(qA a s).pos
 if s.stmts.length=64 then (zR s 5,⟨0,0, [], [],0,c⟩)
 else if pIs a s [105,110,112,117,116] then let d:=ze a (qr s);let b:=Yy a d.1;let e:=Y3 a b.1;(e.1,⟨1,d.2,b.2,e.2,0,c⟩)
 else if pIs a s [108,101,116] then let b:=Yy a (qr s);let f:=pGo a (zcF a) .expr (zv a b.1 [61]);(f.1,⟨2,0,b.2, [],f.2,c⟩)
 else if pIs a s [111,117,116,112,117,116] then let b:=Yy a (qr s);(b.1,⟨3,0,b.2, [],0,c⟩)
 else (zR s 130,⟨0,0, [], [],0,c⟩)
def ZZ (a:List MTok)(s:PS):PS:=let b:=Zq a s;let s:=zv a b.1 [59];{s with stmts:=s.stmts++[b.2]}
def za6 (b:List MTok):Nat→PS→PS
 |0,a=>a
 |c+1,a=>if a.err.isNone&&(qA b a).kind != 0 then za6 b c (ZZ b a) else a
def zeC (b:List MTok):Except Int (List MStmt×List MExpr):=
 let a:=za6 b (b.length+1) ⟨0, [], [],0,none⟩
 match a.err with
 |some c=> .error c
 |none=> .ok (a.stmts,a.exprs)
def zh0 (l:List Nat):Except Int (List MStmt×List MExpr):=match zfN l with | .error a=> .error a | .ok b=>zeC b
structure Adv (T:List MTok)(s s':PS):Prop where
 pos:s.pos≤s'.pos
 top:s.pos≤T.length→s'.pos≤T.length
 deep:s'.deep=s.deep
 stmts:s'.stmts=s.stmts
 exprs:s'.exprs.length+s.pos≤s.exprs.length+s'.pos
theorem Adv.refl (a:List MTok)(s:PS):Adv a s s:=⟨Nat.le_refl _,id,rfl,rfl,Nat.le_refl _⟩
variable {s s':PS}
theorem Adv.trans {b:PS}(a:Adv T s s')(k:Adv T s' b):Adv T s b:=
 ⟨Nat.le_trans a.pos k.pos,fun c=>k.top (a.top c),k.deep.trans a.deep,k.stmts.trans a.stmts,by have:=a.exprs;have:=k.exprs;omega⟩
theorem znn (s:PS)(e:Int):(zR s e).pos=s.pos∧(zR s e).stmts=s.stmts∧(zR s e).exprs=s.exprs∧(zR s e).deep=s.deep:=by unfold zR;split<;>exact ⟨rfl,rfl,rfl,rfl⟩
theorem Adv.fail (b:List MTok)(s:PS)(e:Int):Adv b s (zR s e):=by obtain ⟨a,c,d,f⟩:=znn s e;exact ⟨by omega,by rw [a];exact id,f,c,by rw [d,a];omega⟩
theorem Zi (b:(qA T s).kind≠0):s.pos<T.length:=by
 rcases Nat.lt_or_ge s.pos T.length with a | a
 ·exact a
 ·exfalso;apply b;unfold qA;rw [List.getD_eq_getElem?_getD,List.getElem?_eq_none a];rfl
theorem zD {x:List Nat}(a:pIs T s x=true):s.pos<T.length∧s.err=none:=by
 simp only [pIs,Bool.and_eq_true,Bool.or_eq_true,beq_iff_eq,Option.isNone_iff_eq_none] at a;exact ⟨Zi (by omega),a.1⟩
theorem Adv.next (a:s.pos<T.length):Adv T s (qr s):=⟨by simp [qr],fun _=>a,rfl,rfl,by simp [qr]⟩
theorem Adv.want (a:List MTok)(s:PS)(x:List Nat):Adv a s (zv a s x):=by
 unfold zv;split
 ·rename_i b;exact .next (zD b).1
 ·exact .fail _ _ _
theorem Adv.name (a:List MTok)(s:PS):Adv a s (Yy a s).1:=by
 unfold Yy;split
 ·exact .fail _ _ _
 ·rename_i b;exact .next (Zi (by simp at b;omega))
theorem Adv.number (a:List MTok)(s:PS):Adv a s (ze a s).1:=by
 unfold ze;split
 ·exact .fail _ _ _
 ·rename_i b;exact .next (Zi (by simp at b;omega))
theorem Adv.put (e:MExpr)(c:s.pos<T.length)(b:Adv T (qr s) s'):Adv T s (Qo s' e).1:=by
 have a:=(Adv.next c).trans b;unfold Qo;split
 ·exact a
 ·refine ⟨a.pos,a.top,a.deep,a.stmts,?_⟩
  have:=b.exprs;simp only [qr,List.length_append,List.length_cons,List.length_nil] at this ⊢;omega
theorem Adv.sunk (a:Adv T (qr (zN s)) s'):Adv T (qr s) (pUp s'):=
 ⟨a.pos,a.top,by have:=a.deep;simp only [qr,zN,pUp] at this ⊢;omega,a.stmts,a.exprs⟩
theorem Adv.args {g:PS→PS×Nat}(d:∀a,Adv T a (g a).1):∀(b:Nat) (c:Bool) (a:PS) (e:List Nat),Adv T a (zeT g T b c a e).1
 |0,_,a,_=> .refl _ _
 |b+1,c,a,e=>by
  refine Adv.trans ?_ (Adv.args d b false _ _);refine Adv.trans ?_ (d _);cases c
  ·exact .want _ _ _
  ·exact .refl _ _
theorem Adv.go (b:List MTok):∀(a:Nat) (g:PK) (c:PS),Adv b c (pGo b a g c).1
 |0,_,c=> .refl _ _
 |a+1,.expr,c=>by
  have e:=Adv.go b a .sum c;simp only [pGo];split
  ·rename_i d;exact e.trans (Adv.put _ (zD d).1 (Adv.go b a .sum _))
  ·exact e
 |a+1,.sum,c=>(Adv.go b a .prod c).trans (Adv.go b a (.sumL _) _)
 |a+1,.sumL e,c=>by
  simp only [pGo];split
  ·rename_i d;exact (Adv.put _ (zD d).1 (Adv.go b a .prod _)).trans (Adv.go b a (.sumL _) _)
  ·split
   ·rename_i d;exact (Adv.put _ (zD d).1 (Adv.go b a .prod _)).trans (Adv.go b a (.sumL _) _)
   ·exact .refl _ _
 |a+1,.prod,c=>(Adv.go b a .sign c).trans (Adv.go b a (.prodL _) _)
 |a+1,.prodL e,c=>by
  simp only [pGo];split
  ·rename_i d;exact (Adv.put _ (zD d).1 (Adv.go b a .sign _)).trans (Adv.go b a (.prodL _) _)
  ·split
   ·rename_i d;exact (Adv.put _ (zD d).1 (Adv.go b a .sign _)).trans (Adv.go b a (.prodL _) _)
   ·exact .refl _ _
 |a+1,.sign,c=>by
  simp only [pGo];split
  ·rename_i d
   split
   ·exact .fail _ _ _
   ·exact Adv.put _ (zD d).1 (Adv.sunk (Adv.go b a .sign _))
  ·exact Adv.go b a .post c
 |a+1,.post,c=>(Adv.go b a .atom c).trans (Adv.go b a (.postL _) _)
 |a+1,.postL e,c=>by
  simp only [pGo];split
  ·rename_i d;exact (Adv.put _ (zD d).1 (Adv.number b _)).trans (Adv.go b a (.postL _) _)
  ·exact .refl _ _
 |a+1,.atom,c=>by
  simp only [pGo];split
  ·exact .refl _ _
  ·split
   ·exact Adv.put _ (Zi (by omega)) (.refl _ _)
   ·split
    ·exact Adv.put _ (Zi (by omega)) (.refl _ _)
    ·split
     ·exact .fail _ _ _
     ·rename_i d
      have f:c.pos<b.length:=by
       rcases hi:pIs b c [40] with _ | _
       ·exact Zi fun _=>d ⟨hi,by unfold zY;rw [if_pos (by omega)]⟩
       ·exact (zD hi).1
      split
      ·exact .fail _ _ _
      ·split
       ·exact (Adv.next f).trans (Adv.sunk ((Adv.go b a .expr _).trans (.want _ _ _)))
       ·exact Adv.put _ f (Adv.sunk ((Adv.want b _ _).trans ((Adv.args (fun c=>Adv.go b a .expr c) _ _ _ _).trans (.want _ _ _))))
end Go.Proofs.YtklofgfkaaoipaaGreatDoor
namespace Go.Proofs.YtklofgfkaaoipaaGreatDoor
open Go.RowKit Go.Proofs.Tryz
variable {V K I M D G:List Value}{B b k n P g a:Nat}{W J L H:World}{t:TypeId}{v h A E F N:Value}{T:List MTok}{e:Option Int}
structure PMod (B:Nat)(V V':List Value)(W W':World):Prop where
 low:Below B W W'
 ty:∀(b:Nat) (cs:Array Value) (t:TypeId) (fr:Nat×Nat),W.heap[b]? =some (Obj.cells cs t fr)→t≠222→t≠146→W'.heap[b]? =some (Obj.cells cs t fr)
 new:∀u∈V',u∈V∨∀g,u.ownBlock=some g→W.heap.size≤g
theorem PMod.refl (B:Nat)(W:World):PMod B V V W W:=⟨Below.refl _ _,fun _ _ _ _ a _ _=>a,fun _ a=> .inl a⟩
theorem PMod.trans {c:List Value}(b:PMod B V K W J)(k:PMod B K c J L):PMod B V c W L:=
 ⟨b.low.trans k.low,fun d e f g j a h=>k.ty d e f g (b.ty d e f g j a h) a h,fun i l=>by
  rcases k.new i l with a | a
  ·exact b.new i a
  ·exact .inr fun m n=>Nat.le_trans b.low.size (a m n)⟩
theorem PMod.below (a:Below W.heap.size W H)(c:B≤W.heap.size):PMod B V V W H:=⟨a.mono c,fun d _ _ _ b _ _=>(a.block d (qd b)).trans b,fun _ a=> .inl a⟩
theorem PMod.cons (a:PMod B V I W H)(x:Value)(d:∀c,x.ownBlock=some c→W.heap.size≤c):PMod B V (x::I) W H:=
 ⟨a.low,a.ty,fun e b=>by
  rcases List.mem_cons.1 b with rfl | b
  ·exact .inr d
  ·exact a.new e b⟩
theorem PMod.grown {g:Option Nat}(h:W.grownBy H g)(k:B≤W.heap.size)(i:∀a,g=some a→B≤a∧∀d b e,W.heap[a]? =some (Obj.cells d b e)→b=222∨b=146):PMod B V V W H:=by
 refine ⟨Qq h k fun a l=>(i a l).1,fun j d b e f m n=>(h.block j (qd f) fun o=> ?_).trans f,fun _ c=> .inl c⟩;rcases (i j o.symm).2 d b e f with c | c
 ·exact m c
 ·exact n c
theorem PMod.owns (e:PMod B V I W H)(a:W.ownsRow b t k v n M)(f:t≠222)(g:t≠146):H.ownsRow b t k v n M:=by
 rcases a.2 with h | ⟨c,i,d,j,l,m,o⟩
 ·exact ⟨a.1,.inl h⟩
 ·exact ⟨a.1,.inr ⟨c,i,d,j,l,e.ty c d t _ m f g,o⟩⟩
theorem PMod.nest (a:PMod B V I W H):∀{c:List Value} {d:List (List Int)},qj b W c d→qj b H c d
 |[], [],_=>trivial
 |_::_,_::_,e=>⟨a.owns e.1 (by decide) (by decide),a.nest e.2⟩
theorem PMod.err (b:PMod B V I W H){d:ByteArray}{a c:Int}(f:zH W.heap.size W [(d,a)] c v):zH H.heap.size H [(d,a)] c v:=by
 obtain ⟨e,g,h,_,i,j⟩:=f;exact ⟨e,g,h,by have:=b.low.size;omega,b.ty e _ _ _ i (by decide) (by decide),j⟩
def ecl:List MExpr→List Value→List Value
 |a::b,c::d=> .int .i64 a.kind:: .string (qx a.name):: .int .u64 a.num::c:: .int .i64 a.pos::ecl b d
 |_,_=>[]
def scl:List MStmt→List Value→List Value
 |a::b,c::d=> .int .i64 a.kind:: .int .i64 a.party:: .string (qx a.name)::c:: .int .i64 a.expr:: .int .i64 a.pos::scl b d
 |_,_=>[]
def zdW (W:World)(e:Option Int)(v:Value):Prop:=match e with
 |none=>v= .nilIface
 |some a=>∃b c,zH W.heap.size W [(b,c)] a v
structure PSt (B P:Nat)(T:List MTok)(tv:Value)(s:PS)(sv ev rv:Value)(svs evs:List Value)(W:World):Prop where
 blk:W.heap[P]? =some (.cells #[tv,.int .i64 s.pos,sv,ev,.int .i64 s.deep,rv] 222 (0,0))
 toks:W.ownsRow 0 217 4 tv T.length (Yd T)
 stm:W.ownsRow B 149 6 sv s.stmts.length (scl s.stmts svs)
 exp:W.ownsRow B 146 5 ev s.exprs.length (ecl s.exprs evs)
 sn:qj B W svs (s.stmts.map (·.shape))
 en:qj B W evs (s.exprs.map fun e=>e.args.map Int.ofNat)
 err:zdW W s.err rv
 le:B≤P
 tl:T.length≤513
 pl:s.pos≤T.length
 tb:∀t∈T,∀c∈t.text,c<256
 dl:s.deep≤32
 b0:0<B
 eT:yC W
variable {s:PS}
theorem PSt.lt (a:PSt B P T h s A E F D G W):P<W.heap.size:=qd a.blk
theorem zdW.later (a:zdW W e v)(b:Below W.heap.size W H):zdW H e v:=by
 cases e with
 |none=>exact a
 |some g=>obtain ⟨c,d,f⟩:=a;exact ⟨c,d,f.later b b.size⟩
theorem PSt.later (a:PSt B P T h s A E F D G W)(b:Below W.heap.size W H):PSt B P T h s A E F D G H:=
 ⟨(b.block _ a.lt).trans a.blk,Below.owns a.toks b,Below.owns a.stm b,Below.owns a.exp b,(PMod.below (V:=[]) b (Nat.zero_le _)).nest a.sn,(PMod.below (V:=[]) b (Nat.zero_le _)).nest a.en,a.err.later b,a.le,a.tl,a.pl,a.tb,a.dl,a.b0,a.eT.below b⟩
theorem PMod.errT (a:PMod B V I W H)(b:0<B)(c:yC W):yC H:=by unfold yC;rw [a.low.cell (p:=⟨0,0,none⟩) b];exact c
theorem PMod.errV (b:PMod B V I W H)(a:zdW W e v):zdW H e v:=by
 cases e with
 |none=>exact a
 |some g=>obtain ⟨c,d,f⟩:=a;exact ⟨c,d,b.err f⟩
theorem PSt.step {s':PS}{b c:Value}{d e:List Value}(a:PSt B P T h s A E F D G W)(f:PMod B V I W H)
  (g:H.heap[P]? =some (.cells #[h,.int .i64 s'.pos,b,c,.int .i64 s'.deep,N] 222 (0,0))) (i:H.ownsRow B 149 6 b s'.stmts.length (scl s'.stmts d))
  (j:H.ownsRow B 146 5 c s'.exprs.length (ecl s'.exprs e)) (k:qj B H d (s'.stmts.map (·.shape))) (l:qj B H e (s'.exprs.map fun m=>m.args.map Int.ofNat))
  (err:zdW H s'.err N) (n:s'.pos≤T.length) (o:s'.deep≤32):PSt B P T h s' b c N d e H:=
 ⟨g,f.owns a.toks (by decide) (by decide),i,j,k,l,err,a.le,a.tl,n,a.tb,o,a.b0,f.errT a.b0 a.eT⟩
theorem PMod.set (a:PSt B P T h s A E F D G W)(j:Nat)(x:Value):PMod B G G W (W.setCell ⟨P,j,none⟩ x):=
 PMod.grown (qh W P j x) (by have:=a.le;have:=a.lt;omega) (fun c d=>by
  obtain rfl:P=c:=by simpa using d
  exact ⟨a.le,fun _ _ _ b=>by rw [a.blk] at b;cases b;exact .inl rfl⟩)
theorem PSt.own (a:PSt B P T h s A E F D G W)(j:Nat)(x:Value)(c:W.ownsRow b t k v n M)(d:t≠222):
  (W.setCell ⟨P,j,none⟩ x).ownsRow b t k v n M:=qp c (qh W P j x) (Off.block a.blk (Ne.symm d))
theorem PSt.seterr (a:PSt B P T h s A E F D G W)(b:zdW (W.setCell ⟨P,5,none⟩ N) e N):
  PSt B P T h {s with err:=e} A E N D G (W.setCell ⟨P,5,none⟩ N):=
 a.step (PMod.set a 5 _) (by rw [heap_setCell a.blk];rfl) (a.own 5 _ a.stm (by decide)) (a.own 5 _ a.exp (by decide)) (a.sn.kept (qh W P 5 N) (Off.block a.blk (by decide))) (a.en.kept (qh W P 5 N) (Off.block a.blk (by decide))) b a.pl a.dl
theorem PSt.setpos (a:PSt B P T h s A E F D G W)(b:s.pos<T.length):
  PSt B P T h (qr s) A E F D G (W.setCell ⟨P,1,none⟩ (.int .i64 ((s.pos:Int)+1))):=
 a.step (PMod.set a 1 _) (by rw [heap_setCell a.blk];rfl) (a.own 1 _ a.stm (by decide)) (a.own 1 _ a.exp (by decide)) (a.sn.kept (qh W P 1 _) (Off.block a.blk (by decide))) (a.en.kept (qh W P 1 _) (Off.block a.blk (by decide))) ((PMod.set a 1 _).errV a.err) b a.dl
theorem PSt.setdeep (a:PSt B P T h s A E F D G W)(d:Nat)(b:d≤32):
  PSt B P T h {s with deep:=d} A E F D G (W.setCell ⟨P,4,none⟩ (.int .i64 d)):=
 a.step (PMod.set a 4 _) (by rw [heap_setCell a.blk];rfl) (a.own 4 _ a.stm (by decide)) (a.own 4 _ a.exp (by decide)) (a.sn.kept (qh W P 4 _) (Off.block a.blk (by decide))) (a.en.kept (qh W P 4 _) (Off.block a.blk (by decide))) ((PMod.set a 4 _).errV a.err) a.pl b
theorem PSt.cells (b:PSt B P T h s A E F D G W):
  (W.cell? ⟨P,0,none⟩=some h∧W.cell? ⟨P,1,none⟩=some (.int .i64 s.pos)∧W.cell? ⟨P,2,none⟩=some A∧W.cell? ⟨P,3,none⟩=some E∧W.cell? ⟨P,4,none⟩=some (.int .i64 s.deep)∧W.cell? ⟨P,5,none⟩=some F)∧
  ∀a,W.frozen? ⟨P,a,none⟩=false:=by
 have c:=b.blk;refine ⟨⟨?_,?_,?_,?_,?_,?_⟩,fun a=> ?_⟩<;>simp [World.cell?,World.frozen?,c]
def zV (B P:Nat)(c:List MTok)(d e:Value)(f V:List Value)(s':PS)(W a:World):Prop:=∃b,PMod B V b W a∧∃g h,PSt B P c d s' e g h f b a
def zbQ (B P:Nat)(a:List MTok)(b c:Value)(d V:List Value)(s':PS)(v:Value)(W:World)(e:Ending)(f:World):Prop:=e= .returned v∧zV B P a b c d V s' W f
theorem PMod.post (a:PMod B V K W J)(k:zV B P T h A D K s J L):zV B P T h A D V s W L:=by
 obtain ⟨b,c,d⟩:=k;exact ⟨b,a.trans c,d⟩
theorem PMod.alloc (a:PMod B V K W J)(b:B≤J.heap.size)(o:Obj):PMod B V K W (J.alloc o):=a.trans (PMod.below ((Below.refl _ _).alloc (Nat.le_refl _) _) b)
theorem PMod.fresh (a:PMod B V K W J)(b:B≤J.heap.size)(o:Obj)(n c:Nat):PMod B V (.slice (some ⟨J.heap.size,0,none⟩) n c::K) W (J.alloc o):=
 (a.alloc b o).cons _ fun _ d=>by have:=a.low.size;simp [Value.ownBlock] at d;omega
theorem zfb:∀(b:List MTok) (a:Nat) (e:a<b.length),(Yd b)[a * 4]? =some (.int .i64 b[a].kind)∧(Yd b)[a * 4+1]? =some (.string (qx b[a].text))∧(Yd b)[a * 4+2]? =some (.int .u64 b[a].num)∧(Yd b)[a * 4+3]? =some (.int .i64 b[a].pos)
 |f::b,0,_=>by simp [Yd,MTok.cells]
 |f::b,a+1,e=>by
  have ih:=zfb b a (by simpa using e);have d:∀c,(Yd (f::b))[(a+1) * 4+c]? =(Yd b)[a * 4+c]? :=fun c=>by
   have:(a+1) * 4+c=a * 4+c+4:=by omega
   rw [this];simp [Yd,MTok.cells]
  have g:=d 0;simp only [Nat.add_zero] at g;rw [g,d 1,d 2,d 3];simpa using ih
theorem zp0 {z a b c d:Value}{e f g h:Value}(i:J.heap[W.heap.size]? =some (.cells #[e,f,g,h] 217 (0,0)))(j:Below W.heap.size W J):
  ((((J.setCell ⟨W.heap.size,0,none⟩ a).setCell ⟨W.heap.size,1,none⟩ b).setCell ⟨W.heap.size,2,none⟩ c).setCell ⟨W.heap.size,3,none⟩ d).heap[W.heap.size]? =some (.cells #[a,b,c,d] 217 (0,0))∧
  Below W.heap.size W ((((J.setCell ⟨W.heap.size,0,none⟩ a).setCell ⟨W.heap.size,1,none⟩ b).setCell ⟨W.heap.size,2,none⟩ c).setCell ⟨W.heap.size,3,none⟩ d):=
 ⟨by rw [heap_setCell (heap_setCell (heap_setCell (heap_setCell i _) _) _) _];rfl,(((j.setCell (p:=⟨W.heap.size,0,none⟩) (Nat.le_refl _) _).setCell (p:=⟨W.heap.size,1,none⟩) (Nat.le_refl _) _).setCell (p:=⟨W.heap.size,2,none⟩) (Nat.le_refl _) _).setCell (p:=⟨W.heap.size,3,none⟩) (Nat.le_refl _) _⟩
theorem zfU (W:World)(o:Obj)(n:Nat):((W.alloc o).drewN n).heap[W.heap.size]? =some o∧Below W.heap.size W ((W.alloc o).drewN n):=
 ⟨heap_alloc_new W o,qC ((Below.refl _ _).alloc (Nat.le_refl _) _) n⟩
theorem qS (e:PSt B P T h s A E F D G W):
  Calls prog 100 #[.pointer (some ⟨P,0,none⟩)] W fun t u=>t= .returned (zj6 (qA T s))∧Below W.heap.size W u:=by
 obtain ⟨⟨_,_,-,-,-,-⟩,-⟩:=e.cells;have:=e.lt;obtain ⟨_,v,rfl,_,k⟩:=qg e.toks;have:=e.tl;have:v≤9223372036854775807:=by
  rcases e.toks.2 with ⟨l,_⟩ | ⟨w,_,_,l,_,_,_,x,_⟩
  ·simp at l;omega
  ·unfold maxLen at x;simp at l;omega
 by_cases n:s.pos<T.length
 ·obtain ⟨w,rfl,-,_,f⟩:=k (by omega)
  obtain ⟨o,p,q,r⟩:=zfb T s.pos n;have:=(f (s.pos * 4) (by omega)).trans o;have:=(f (s.pos * 4+1) (by omega)).trans p;have:=(f (s.pos * 4+2) (by omega)).trans q;have:=(f (s.pos * 4+3) (by omega)).trans r;have m:=Z (show qA T s=T[s.pos] by unfold qA;rw [List.getD_eq_getElem?_getD,List.getElem?_eq_getElem n];rfl);rw [m.out];clear f o p q r k e;generalize T[s.pos]=j at *;have:(0:Int)≤(s.pos:Int):=by omega
  have y:(s.pos:Int)<(T.length:Int):=by omega
  go_enter func100,ntmps100;go_wp2_with fail;go_quiet (fail);go_wp2_with fail;go_region;go_wp2_with fail;have g:=zfU W (.cells #[.int .i64 0,.string ⟨#[]⟩,.int .u64 0,.int .i64 0] 217) (nq+1);have i:=zp0 (z:=undef) (a:= .int .i64 j.kind) (b:= .string (qx j.text)) (c:= .int .u64 j.num) (d:= .int .i64 j.pos) g.1 g.2;exact bodyPost_ret (results_cell_row rfl _ _ W.heap.size 217 #[_,_,_,_] _ _ rfl i.1 underlying217 rfl QA) rfl ⟨rfl,i.2⟩
 ·have m:=Z (show qA T s=zqr by unfold qA;rw [List.getD_eq_getElem?_getD,List.getElem?_eq_none (by omega)];rfl)
  rw [m.out];have y:(T.length:Int)≤(s.pos:Int):=by omega
  have:¬(s.pos:Int)<(T.length:Int):=by omega
  clear k e;go_enter func100,ntmps100;go_wp2_with fail;go_quiet (fail);go_wp2_with fail;have g:=zfU W (.cells #[.int .i64 0,.string ⟨#[]⟩,.int .u64 0,.int .i64 0] 217) nq;have i:=zp0 (z:=undef) (a:= .int .i64 0) (b:= .string ⟨#[]⟩) (c:= .int .u64 0) (d:= .int .i64 0) g.1 g.2;exact bodyPost_ret (results_cell_row rfl _ _ W.heap.size 217 #[_,_,_,_] _ _ rfl i.1 underlying217 rfl QA) rfl ⟨rfl,i.2⟩
theorem yD (t:MTok)(w:World):(Instr.field 217 (zj6 t) 3).run prog w= .ok (.int .i64 t.pos) w:=by kernel_rfl
theorem Yg (a:PSt B P T h s A E F D G W)(c:Int):
  Calls prog 152 #[.pointer (some ⟨P,0,none⟩),.int .i64 c] W (zbQ B P T h A D G (zR s c) (.tuple #[]) W):=by
 obtain ⟨⟨-,-,-,-,-,_⟩,e⟩:=a.cells;have w:=a.lt;rcases he:s.err with _ | p
 ·have q:F= .nilIface:=by have:=a.err;rw [he] at this;exact this
  subst q;have f:=Z (show zR s c={s with err:=some c} by unfold zR;rw [he]);rw [f.out];have b:=Z a;have r:=Z a.eT;have x:=e 5;have y:=fun t=>yD (qA T s) t
  clear a he e;go_enter func152,ntmps152;go_wp2_with (first | (go_at_call 100;refine (qS b).mono ?_;rintro i _ ⟨rfl,j⟩;have g:=Z j;clear j) | (go_at_call 14;refine (yV _ _ _ _ (r.below g)).mono ?_;rintro i _ ⟨_,rfl,k,l⟩;have u:=Z k;obtain ⟨_,_,rfl,-⟩:=k;have m:=Z (g.trans (l.mono g.size));have d:=Z (b.later m);have z:=d.cells.2 5;have k5:=d.cells.1.2.2.2.2.2;clear l));go_end0;refine ⟨rfl,_,((PMod.below m (by have:=b.le;omega)).trans (PMod.set d 5 _)),_,_,d.seterr ⟨_,_,(PMod.set d 5 _).err u⟩⟩
 ·have f:=Z (show zR s c=s by unfold zR;rw [he])
  rw [f.out];obtain ⟨n,o,v⟩:∃n o,zH W.heap.size W [(n,o)] p F:=by have:=a.err;rw [he] at this;exact this
  have b:=Z a;obtain ⟨_,i,rfl,-,-,-⟩:=v;clear a he e;go_enter func152,ntmps152;go_wp2_with fail;go_end0;exact ⟨rfl,_,PMod.refl _ _,_,_,b⟩
theorem znI {l:List Nat}(a:∀b∈l,b<256)(x:ByteArray):((qx l).toList==x.toList)=(l==qF x):=by
 rw [←zgC,zaB a,qF,ByteArray.toList_eq]
theorem PSt.bytes (c:PSt B P T h s A E F D G W):∀b∈(qA T s).text,b<256:=by
 unfold qA;rw [List.getD_eq_getElem?_getD];rcases Nat.lt_or_ge s.pos T.length with a | a
 ·rw [List.getElem?_eq_getElem a];exact c.tb _ (List.getElem_mem a)
 ·rw [List.getElem?_eq_none a];intro b d;cases d
abbrev QV (t:MTok):Obj:= .cells #[.int .i64 t.kind,.string (qx t.text),.int .u64 t.num,.int .i64 t.pos] 217
theorem YZ (t:MTok)(w:World):(Instr.field 217 (zj6 t) 0).run prog w= .ok (.int .i64 t.kind) w:=by kernel_rfl
theorem zce (t:MTok)(w:World):(Instr.field 217 (zj6 t) 1).run prog w= .ok (.string (qx t.text)) w:=by kernel_rfl
theorem zj7 (t:MTok)(w:World):(Instr.field 217 (zj6 t) 2).run prog w= .ok (.int .u64 t.num) w:=by kernel_rfl
theorem zV.same (a:PSt B P T h s A E F D G W)(b:Below W.heap.size W H):zV B P T h A D G s W H:=
 ⟨_,PMod.below b (by have:=a.le;have:=a.lt;omega),_,_,a.later b⟩
theorem PMod.pre (a:Below W.heap.size W J)(b:B≤W.heap.size)(c:PMod B V I J L):PMod B V I W L:=(PMod.below a b).trans c
theorem PSt.blt (a:PSt B P T h s A E F D G W):B≤W.heap.size:=by have:=a.le;have:=a.lt;omega
theorem zV.next (a:PSt B P T h s A E F D G W)(b:Below W.heap.size W H)(c:s.pos<T.length):
  zV B P T h A D G (qr s) W (H.setCell ⟨P,1,none⟩ (.int .i64 ((s.pos:Int)+1))):=
 ⟨_,PMod.pre b a.blt (PMod.set (a.later b) 1 _),_,_,(a.later b).setpos c⟩
theorem PSt.alloc (a:PSt B P T h s A E F D G W)(o:Obj):PSt B P T h s A E F D G (W.alloc o):=a.later ((Below.refl _ _).alloc (Nat.le_refl _) _)
theorem zV.alloc (b:zV B P T h A D V s W H)(o:Obj):zV B P T h A D V s W (H.alloc o):=by
 obtain ⟨_,c,_,_,a⟩:=b;exact ⟨_,c.trans (PMod.below ((Below.refl _ _).alloc (Nat.le_refl _) _) a.blt),_,_,a.alloc o⟩
theorem zV.pre (a:Below W.heap.size W J)(b:B≤W.heap.size)(c:zV B P T h A D V s J L):zV B P T h A D V s W L:=(PMod.below a b).post c
theorem PSt.errs (c:PSt B P T h s A E F D G W):
  (s.err=none∧F= .nilIface)∨∃b d e,s.err=some b∧F= .iface d e:=by
 have a:=c.err;unfold zdW at a
 split at a
 ·exact .inl ⟨by assumption,a⟩
 ·rename_i b _
  obtain ⟨_,_,_,_,f,-,-,-⟩:=a;exact .inr ⟨b,_,_,by assumption,f⟩
theorem Y4 (g:PSt B P T h s A E F D G W)(x:ByteArray)(n:List Nat)(u:qF x=n):
  Calls prog 197 #[.pointer (some ⟨P,0,none⟩),.string x] W fun i v=>i= .returned (.bool (pIs T s n))∧Below W.heap.size W v:=by
 subst u;have q:=znI g.bytes x;have c:=Z g;have d:pIs T s (qF x)=(s.err.isNone&&(((qA T s).kind==3||(qA T s).kind==4)&&((qx (qA T s).text).toList==x.toList))):=by rw [q];rfl
 clear q;obtain ⟨b,l⟩:∃b,qA T s=b:=⟨_,rfl⟩;have k:=Z l;rw [l] at d;clear l;have:=fun m=>YZ b m
 have:=fun m=>zce b m
 rcases g.errs with ⟨j,rfl⟩ | ⟨_,_,_,j,rfl⟩
 ·have r:((b.kind:Int)==3)=(b.kind==3):=by rw [Bool.eq_iff_iff];simp;omega
  have t:((b.kind:Int)==4)=(b.kind==4):=by rw [Bool.eq_iff_iff];simp;omega
  rw [j,←r,←t] at d;clear g j r t;rcases k3:((b.kind:Int)==3) with _ | _
  ·rcases k4:((b.kind:Int)==4) with _ | _
   ·have e:=Z (show pIs T s (qF x)=false by rw [d,k3,k4];rfl)
    rw [e.out];clear d;go_enter func197,ntmps197;go_wp2_with (go_at_call 100;refine (qS c).mono ?_;rw [k.out];rintro i o ⟨rfl,a⟩;have f:=Z (a.alloc a.size (QV b));have p:=(c.later a).lt;have k5:=(c.later a).cells.1.2.2.2.2.2;clear a);go_ret;exact ⟨rfl,f⟩
   ·have e:=Z (show pIs T s (qF x)=((qx b.text).toList==x.toList) by rw [d,k3,k4];rfl)
    rw [e.out];clear d;go_enter func197,ntmps197;go_wp2_with (go_at_call 100;refine (qS c).mono ?_;rw [k.out];rintro i o ⟨rfl,a⟩;have f:=Z (a.alloc a.size (QV b));have p:=(c.later a).lt;have k5:=(c.later a).cells.1.2.2.2.2.2;clear a);go_ret;exact ⟨rfl,f⟩
  ·have e:=Z (show pIs T s (qF x)=((qx b.text).toList==x.toList) by rw [d,k3];rfl)
   rw [e.out];clear d;go_enter func197,ntmps197;go_wp2_with (go_at_call 100;refine (qS c).mono ?_;rw [k.out];rintro i o ⟨rfl,a⟩;have f:=Z (a.alloc a.size (QV b));have p:=(c.later a).lt;have k5:=(c.later a).cells.1.2.2.2.2.2;clear a);go_ret;exact ⟨rfl,f⟩
 ·have e:=Z (show pIs T s (qF x)=false by rw [d,j];rfl)
  rw [e.out];clear d g j;go_enter func197,ntmps197;go_wp2_with (go_at_call 100;refine (qS c).mono ?_;rw [k.out];rintro i o ⟨rfl,a⟩;have f:=Z (a.alloc a.size (QV b));have p:=(c.later a).lt;have k5:=(c.later a).cells.1.2.2.2.2.2;clear a);go_ret;exact ⟨rfl,f⟩
theorem yp (c:PSt B P T h s A E F D G W)(x:ByteArray)(n:List Nat)(f:qF x=n):
  Calls prog 153 #[.pointer (some ⟨P,0,none⟩),.string x] W (zbQ B P T h A D G (if pIs T s n then qr s else s) (.bool (pIs T s n)) W):=by
 have b:=Z c;rcases hi:pIs T s n with _ | _
 ·rw [if_neg (by simp)]
  have d:=Z hi;clear c hi;go_enter func153,ntmps153;go_wp2_with (go_at_call 197;refine (Y4 b x n f).mono ?_;rw [d.out];rintro g i ⟨rfl,a⟩;have e:=Z a;clear a);go_ret;exact ⟨rfl,zV.same b e⟩
 ·rw [if_pos rfl]
  have j:=(zD hi).1;have:=c.tl;have:(s.pos:Int)<513:=by omega
  have d:=Z hi;clear c hi;go_enter func153,ntmps153;go_wp2_with (go_at_call 197;refine (Y4 b x n f).mono ?_;rw [d.out];rintro g i ⟨rfl,a⟩;have e:=Z a;have:=(b.later a).cells.1.2.1;have:=(b.later a).cells.2 1;clear a);go_ret;exact ⟨rfl,zV.next b e j⟩
theorem Qp (a:PSt B P T h s A E F D G W)(x:ByteArray)(n:List Nat)(c:qF x=n):
  Calls prog 157 #[.pointer (some ⟨P,0,none⟩),.string x] W (zbQ B P T h A D G (zv T s n) (.tuple #[]) W):=by
 have d:=Z a;unfold zv;rcases hi:pIs T s n with _ | _
 ·rw [if_neg (by simp)]
  have b:=Z hi;clear a hi;go_enter func157,ntmps157;go_wp2_with (first | (go_at_call 153;refine (yp d x n c).mono ?_;rw [b.out,if_neg (by simp)];rintro e k ⟨rfl,_,f,_,_,g⟩;have l:=Z f;have m:=Z g;clear f g) | (go_at_call 152;refine (Yg m _).mono ?_;rintro e _ ⟨rfl,i⟩;have o:=Z i;clear i));go_end0;exact ⟨rfl,l.post o⟩
 ·rw [if_pos rfl]
  have b:=Z hi;clear a hi;go_enter func157,ntmps157;go_wp2_with (go_at_call 153;refine (yp d x n c).mono ?_;rw [b.out,if_pos rfl];rintro e k ⟨rfl,j⟩;have p:=Z j;clear j);go_end0;exact ⟨rfl,p⟩
theorem zeI (d:PSt B P T h s A E F D G W):
  Calls prog 155 #[.pointer (some ⟨P,0,none⟩)] W (zbQ B P T h A D G (Yy T s).1 (.string (qx (Yy T s).2)) W):=by
 have b:=Z d;obtain ⟨c,k⟩:∃c,qA T s=c:=⟨_,rfl⟩;have n:=Z k;have:=fun o=>YZ c o
 have:=fun o=>zce c o
 have f:Yy T s=if s.err.isSome||c.kind != 1 then (zR s 130, []) else (qr s,c.text):=by unfold Yy;rw [k]
 have l:c.kind≠0→s.pos<T.length:=fun d=>Zi (by rw [k];exact d)
 clear k;rcases d.errs with ⟨g,rfl⟩ | ⟨_,_,_,g,rfl⟩
 ·by_cases i:c.kind=1
  ·rw [f,g,i,if_neg (by simp)]
   have k1:((c.kind:Int)==1)=true:=by simp [i]
   have t:=l (by omega);have:=d.tl;have:(s.pos:Int)<513:=by omega
   clear d g f l i;go_enter func155,ntmps155;go_wp2_with (go_at_call 100;refine (qS b).mono ?_;rw [n.out];rintro m q ⟨rfl,a⟩;have e:=Z a;have r:=(b.later a).lt;have k5:=(b.later a).cells.1.2.2.2.2.2;have:=(b.later a).cells.1.2.1;have:=(b.later a).cells.2 1;clear a);go_ret;exact ⟨rfl,(zV.next b e t).alloc _⟩
  ·rw [f,if_pos (by simp [i])]
   have k1:((c.kind:Int)==1)=false:=by simp;omega
   clear d g f l i;go_enter func155,ntmps155;go_wp2_with (first | (go_at_call 100;refine (qS b).mono ?_;rw [n.out];rintro m q ⟨rfl,a⟩;have e:=Z (a.alloc a.size (QV c));have r:=(b.later a).lt;have k5:=(b.later a).cells.1.2.2.2.2.2;clear a) | (go_at_call 152;refine (Yg (b.later e) _).mono ?_;rintro m u ⟨rfl,j⟩;have p:=Z j;clear j));go_ret;exact ⟨rfl,zV.pre e b.blt p⟩
 ·rw [f,if_pos (by simp [g])]
  clear d g f l;go_enter func155,ntmps155;go_wp2_with (first | (go_at_call 100;refine (qS b).mono ?_;rw [n.out];rintro m q ⟨rfl,a⟩;have e:=Z (a.alloc a.size (QV c));have r:=(b.later a).lt;have k5:=(b.later a).cells.1.2.2.2.2.2;clear a) | (go_at_call 152;refine (Yg (b.later e) _).mono ?_;rintro m u ⟨rfl,j⟩;have p:=Z j;clear j));go_ret;exact ⟨rfl,zV.pre e b.blt p⟩
theorem Z0 (e:PSt B P T h s A E F D G W):
  Calls prog 154 #[.pointer (some ⟨P,0,none⟩)] W (zbQ B P T h A D G (ze T s).1 (.int .i64 (ze T s).2) W):=by
 have b:=Z e;obtain ⟨c,n⟩:∃c,qA T s=c:=⟨_,rfl⟩;have o:=Z n;have:=fun p=>YZ c p
 have:=fun p=>zj7 c p
 have f:ze T s=if s.err.isSome||c.kind != 2||decide (1048576<c.num) then (zR s 130,0) else (qr s,c.num):=by unfold ze;rw [n]
 have l:c.kind≠0→s.pos<T.length:=fun e=>Zi (by rw [n];exact e)
 clear n;rcases e.errs with ⟨i,rfl⟩ | ⟨_,_,_,i,rfl⟩
 ·by_cases j:c.kind=2
  ·have k1:((c.kind:Int) != 2)=false:=by simp [j]
   by_cases v:c.num≤1048576
   ·rw [f,i,j,if_neg (by simp;omega)]
    have k2:decide ((1048576:Int)<(c.num:Int))=false:=by simp;omega
    have k3:(c.num:Int)≤1048576:=by omega
    have u:=l (by omega);have:=e.tl;have:(s.pos:Int)<513:=by omega
    clear e i f l j;go_enter func154,ntmps154;go_wp2_with (go_at_call 100;refine (qS b).mono ?_;rw [o.out];rintro k q ⟨rfl,a⟩;have d:=Z a;have r:=(b.later a).lt;have k5:=(b.later a).cells.1.2.2.2.2.2;have:=(b.later a).cells.1.2.1;have:=(b.later a).cells.2 1;clear a);go_ret;exact ⟨rfl,(zV.next b d u).alloc _⟩
   ·rw [f,if_pos (by simp;omega)]
    have k2:decide ((1048576:Int)<(c.num:Int))=true:=by simp;omega
    clear e i f l j;go_enter func154,ntmps154;go_wp2_with (first | (go_at_call 100;refine (qS b).mono ?_;rw [o.out];rintro k q ⟨rfl,a⟩;have d:=Z (a.alloc a.size (QV c));have r:=(b.later a).lt;have k5:=(b.later a).cells.1.2.2.2.2.2;clear a) | (go_at_call 152;refine (Yg (b.later d) _).mono ?_;rintro k t ⟨rfl,g⟩;have m:=Z g;clear g));go_ret;exact ⟨rfl,zV.pre d b.blt m⟩
  ·rw [f,if_pos (by simp [j])]
   have k1:((c.kind:Int) != 2)=true:=by simp;omega
   clear e i f l j;go_enter func154,ntmps154;go_wp2_with (first | (go_at_call 100;refine (qS b).mono ?_;rw [o.out];rintro k q ⟨rfl,a⟩;have d:=Z (a.alloc a.size (QV c));have r:=(b.later a).lt;have k5:=(b.later a).cells.1.2.2.2.2.2;clear a) | (go_at_call 152;refine (Yg (b.later d) _).mono ?_;rintro k t ⟨rfl,g⟩;have m:=Z g;clear g));go_ret;exact ⟨rfl,zV.pre d b.blt m⟩
 ·rw [f,if_pos (by simp [i])]
  clear e i f l;go_enter func154,ntmps154;go_wp2_with (first | (go_at_call 100;refine (qS b).mono ?_;rw [o.out];rintro k q ⟨rfl,a⟩;have d:=Z (a.alloc a.size (QV c));have r:=(b.later a).lt;have k5:=(b.later a).cells.1.2.2.2.2.2;clear a) | (go_at_call 152;refine (Yg (b.later d) _).mono ?_;rintro k t ⟨rfl,g⟩;have m:=Z g;clear g));go_ret;exact ⟨rfl,zV.pre d b.blt m⟩
theorem zam (b:PSt B P T h s A E F D G W):
  Calls prog 247 #[.pointer (some ⟨P,0,none⟩)] W (zbQ B P T h A D G (if s.deep=32 then zR s 5 else zN s) (.bool (s.deep != 32)) W):=by
 obtain ⟨⟨-,-,-,-,_,-⟩,c⟩:=b.cells;have:=c 4;have d:=Z b;have e:=b.dl;have:=b.lt
 by_cases a:s.deep=32
 ·rw [if_pos a,show (s.deep != 32)=false by simp [a]]
  have k4:((s.deep:Int)==32)=true:=by simp [a]
  clear b c e a;go_enter func247,ntmps247;go_wp2_with (go_at_call 152;refine (Yg d _).mono ?_;rintro _ _ ⟨rfl,f⟩;have g:=Z f;clear f);go_ret;exact ⟨rfl,g⟩
 ·rw [if_neg a,show (s.deep != 32)=true by simp [a]]
  have k4:((s.deep:Int)==32)=false:=by simp;omega
  have k5:(s.deep:Int)<32:=by omega
  have i:s.deep+1≤32:=by omega
  clear b c e a;go_enter func247,ntmps247;go_wp2_with fail;go_ret;exact ⟨rfl,_,PMod.set d 4 _,_,_,d.setdeep (s.deep+1) i⟩
theorem zbU:∀(b:List MExpr) (c:List Value) (a:MExpr) (d:Value),c.length=b.length→ecl (b++[a]) (c++[d])=ecl b c++[.int .i64 a.kind,.string (qx a.name),.int .u64 a.num,d,.int .i64 a.pos]
 |[], [],_,_,_=>rfl
 |f::b,g::c,a,d,e=>by
  simp only [List.cons_append,ecl];rw [zbU b c a d (by simpa using e)]
theorem zks (h:W.ownsRow b t k v n M)(c:v.ownBlock=some g):∀d a e,W.heap[g]? =some (Obj.cells d a e)→a=t:=by
 intro d a e f;rcases h.2 with ⟨rfl,_⟩ | ⟨i,_,_,rfl,_,j,_⟩
 ·cases c
 ·obtain rfl:i=g:=by simpa [Value.ownBlock] using c
  rw [j] at f;cases f;rfl
theorem PSt.addexpr {b:World}(a:PSt B P T h s A E F D G W)(e:MExpr)(g c:Value)
  (q:W.ownsRow B 3 1 g e.args.length (ints (e.args.map Int.ofNat))) (i:W.grownBy b E.ownBlock)
  (r:b.ownsRow B 146 5 c (s.exprs.length+1) (ecl s.exprs G++[.int .i64 e.kind,.string (qx e.name),.int .u64 e.num,g,.int .i64 e.pos])):
  b.heap[P]? =some (.cells #[h,.int .i64 s.pos,A,E,.int .i64 s.deep,F] 222 (0,0))∧P<b.heap.size∧PMod B (g::G) (G++[g]) W (b.setCell ⟨P,3,none⟩ c)∧
  PSt B P T h {s with exprs:=s.exprs++[e]} A c F D (G++[g]) (b.setCell ⟨P,3,none⟩ c):=by
 have t:PMod B G G W b:=PMod.grown i a.blt fun k j=>⟨(a.exp.lt k j).1,fun l m n d=> .inr (zks a.exp j l m n d)⟩
 have d:b.heap[P]? =some (.cells #[h,.int .i64 s.pos,A,E,.int .i64 s.deep,F] 222 (0,0)):=(i.block P a.lt fun u=>yz a.exp a.blk (by decide) u.symm).trans a.blk;have v:PMod B G G b (b.setCell ⟨P,3,none⟩ c):=PMod.grown (qh b P 3 c) (by have:=i.size;have:=a.blt;omega) (fun k j=>by
  obtain rfl:P=k:=by simpa using j
  exact ⟨a.le,fun l m n o=>by rw [d] at o;cases o;exact .inl rfl⟩)
 have f:=t.trans v;have w:(b.setCell ⟨P,3,none⟩ c).ownsRow B 149 6 A s.stmts.length (scl s.stmts D):=by
  refine qp (qp a.stm i (Off.owned a.exp (by decide))) (qh b P 3 c) (Off.block d (by decide))
 refine ⟨d,qd d,⟨f.low,f.ty,fun _ p=> .inl (by simp only [List.mem_append,List.mem_cons,List.not_mem_nil,or_false] at p ⊢;exact p.symm)⟩,a.step f (by rw [heap_setCell d];rfl) w ?_ ?_ ?_ (f.errV a.err) a.pl a.dl⟩
 ·have x:G.length=s.exprs.length:=by have:=a.en.length;simpa using this
  simp only [List.length_append,List.length_cons,List.length_nil];rw [zbU _ _ _ _ x];exact qp r (qh b P 3 c) (Off.block d (by decide))
 ·exact f.nest a.sn
 ·simp only [List.map_append,List.map_cons,List.map_nil]
  exact (f.nest a.en).append (f.nest (show qj B W [g] [e.args.map Int.ofNat] from ⟨by rw [List.length_map];exact q,trivial⟩))
theorem zc5:(prog.info? 146).map (fun a=>(a.zero,a.size,a.bytes))=some (some (.agg #[.int .i64 0,.string ⟨#[]⟩,.int .u64 0,.slice none 0 0,.int .i64 0]),5,64):=by kernel_rfl
theorem yo {P:Program}{ops:Array Oper}{o:Oper}{a:Act}{h:Act→World→Prop}{l:Exit→Act→World→Prop}{m:Prop}{w0:World}(p:o.guard=none)(s x:Operand)(t:TypeId)
  (q:o.op= .call {callee:= .builtin .append,args:=#[s,x],argTypes:=#[t,t]}) (e:TypeId) (z:Value) (k c:Nat)
  (r:P.underlying t=some (.slice e)) (u:(P.info? e).map (fun d=>(d.zero,d.size,d.bytes))=some (some z,k,c)) (w:z.cells.size=k) (y:0<k)
  (b:Array Value) (n base:Nat) (v:Value) (f:List Value) (A:w0.drew.ownsRow base e k v n f) (B:a.eval s=v) (C:a.eval x= .slice (some ⟨w0.heap.size,0,none⟩) 1 1)
  (D:b.size=k) (E:∀F∈b.toList,F.oneCell'=true) (G:base≤w0.heap.size) (H:(n+1) * c≤140737488355328) (I:n+1≤maxLen)
  (J:∀i j g,g.ownsRow base e k (.slice (some ⟨i,0,none⟩) (n+1) j) (n+1) (f++b.toList)→w0.drew.grownBy g v.ownBlock→h (a.put o.dst (.slice (some ⟨i,0,none⟩) (n+1) j)) g):
  if Region.wanted o (yielded ops a.tmps)=true then Oper.wp P o a ((w0.alloc (.cells b e)).drew) h l else m:=
 yU (w0:=w0.drew) p s x t q e z k c r u w y b n base v f A B C D E G H I J
theorem Y5 (a:PSt B P T h s A E F D G W)(e:MExpr)(j:Value)
  (g:W.ownsRow B 3 1 j e.args.length (ints (e.args.map Int.ofNat))) (O:s.exprs.length≤1000):
  Calls prog 199 #[.pointer (some ⟨P,0,none⟩),.agg #[.int .i64 e.kind,.string (qx e.name),.int .u64 e.num,j,.int .i64 e.pos]] W (zbQ B P T h A D (j::G) (Qo s e).1 (.int .i64 (Qo s e).2) W):=by
 obtain ⟨⟨-,-,-,_,-,_⟩,m⟩:=a.cells;have n:=Z a;have z:=Z g;have:=a.lt;have C:=a.blt;obtain ⟨b,c,rfl,-,-⟩:=qg g;rcases a.errs with ⟨d,rfl⟩ | ⟨_,_,_,d,rfl⟩
 ·have f:Qo s e=({s with exprs:=s.exprs++[e]},s.exprs.length):=by unfold Qo;rw [d];rfl
  rw [f];obtain ⟨o,p,rfl,_,-⟩:=qg a.exp;clear a g d f m;go_enter func199,ntmps199;go_upto_region 3 with fail;have k:=Z ((n.alloc (.cells #[.int .i64 e.kind,.string (qx e.name),.int .u64 e.num,.slice b e.args.length c,.int .i64 e.pos] 146)).later (Below.refl _ _).drew);have l:=((Below.refl W.heap.size W).alloc (Nat.le_refl _) (.cells #[.int .i64 e.kind,.string (qx e.name),.int .u64 e.num,.slice b e.args.length c,.int .i64 e.pos] 146)).drew;have H:=Z (Below.owns z l);have I:=Z l;have J:=k.blt;clear l;go_cut [] from 10 to 21 (fun q=>∃(r:Nat) (t:Option Addr),Hid (PMod B (.slice b e.args.length c::G) (G++[.slice b e.args.length c]) W q)∧Hid (PSt B P T h {s with exprs:=s.exprs++[e]} A (.slice t (s.exprs.length+1) r) .nilIface D (G++[.slice b e.args.length c]) q))
  case first=>
   first | (go_region_law (refine yo (by rfl) _ _ 69 (by rfl) 146 _ 5 64 underlying69 zc5 rfl (by decide) #[.int .i64 e.kind,.string (qx e.name),.int .u64 e.num,.slice b e.args.length c,.int .i64 e.pos] s.exprs.length B (.slice o s.exprs.length p) (ecl s.exprs G) k.exp (by rfl) (by rw [World.size_alloc];rfl) rfl (by simp [Value.oneCell']) J (by omega) (by unfold maxLen;omega) ?_;intro K L u v w;have i:=k.addexpr e _ _ H w v;have:=(show u.frozen? ⟨P,3,none⟩=false by simp [World.frozen?,i.1]);have k4:=(show u.cell? ⟨P,3,none⟩=some (.slice o s.exprs.length p) by simp [World.cell?,i.1]);have x:=Z i;clear v w i)) | (fail "region")
   all_goals
    go_wp2_with fail;go_meet;exact ⟨L,some ⟨K,0,none⟩,PMod.pre I C x.2.2.1,x.2.2.2⟩
  case rest=>
  obtain ⟨r,t,M,y⟩:=hcut;have:=y.cells.1.2.2.2.1;go_wp2_with fail;go_ret;exact ⟨rfl,_,M,_,_,y⟩
 ·have f:Qo s e=(s,0):=by unfold Qo;rw [d];rfl
  rw [f];clear a g d f m;go_enter func199,ntmps199;go_wp2_with fail;go_ret;exact ⟨rfl,(show zV B P T h A D (.slice b e.args.length c::G) s W W from ⟨_,⟨Below.refl _ _,fun _ _ _ _ a _ _=>a,fun _ N=> .inl (List.mem_cons_of_mem _ N)⟩,_,_,n⟩).alloc _⟩
def GoC (B P:Nat)(b:List MTok)(d:Value)(f:Nat)(k:PK)(i:FuncId):Prop:=
 ∀{a:PS} {e j l:Value} {g h:List Value} {c:World},PSt B P b d a e j l g h c→a.exprs.length≤a.pos→yu b k a≤f→
  Calls prog i #[.pointer (some ⟨P,0,none⟩)] c (zbQ B P b d e g h (pGo b f k a).1 (.int .i64 (pGo b f k a).2) c)
theorem PSt.el (a:PSt B P T h s A E F D G W)(b:s.exprs.length≤s.pos):s.exprs.length≤1000:=by have:=a.tl;have:=a.pl;omega
theorem za7 (c:B≤g)(d:W.heap[g]? =some (.cells #[.int .i64 a,.int .i64 b] 3 (0,0))):W.ownsRow B 3 1 (.slice (some ⟨g,0,none⟩) 2 2) 2 (ints ([a,b].map Int.ofNat)):=
 ⟨rfl,.inr ⟨g,2,_,rfl,c,d,Nat.le_refl _,by unfold maxLen;omega,rfl,rfl⟩⟩
theorem zkr (b:B≤g)(c:W.heap[g]? =some (.cells #[.int .i64 a] 3 (0,0))):W.ownsRow B 3 1 (.slice (some ⟨g,0,none⟩) 1 1) 1 (ints ([a].map Int.ofNat)):=
 ⟨rfl,.inr ⟨g,1,_,rfl,b,c,Nat.le_refl _,by unfold maxLen;omega,rfl,rfl⟩⟩
theorem zdb (l:List Nat)(a:∀b∈l,b<256)(x:List UInt8):((qx l).toList==x)=(l==yA x):=by
 rw [←zgC,zaB a]
theorem Y7 (t:MTok)(q:∀r∈t.text,r<256)(w:World):Calls prog 274 #[zj6 t] w fun s u=>s= .returned (.tuple #[.int .i64 (zY t).1,.int .i64 (zY t).2])∧Below w.heap.size w u:=by
 have:=fun w=>YZ t w
 have:=fun w=>zce t w
 by_cases m:t.kind=4
 ·have k4:((t.kind:Int) != 4)=false:=by simp [m]
  have j:∀(n:List UInt8) (o:List Nat),yA n=o→((qx t.text).toList==n)=decide (t.text=o):=by
   rintro n o rfl;rw [zdb _ q,Bool.eq_iff_iff];simp
  have b:=j [114,101,108,117] _ rfl;have d:=j [115,117,109] _ rfl;have e:=j [97,114,103,109,97,120] _ rfl;have i:=j [109,97,120] _ rfl;have f:=j [109,117,120] _ rfl;have p:zY t=if t.text=[114,101,108,117] then (10,1) else if t.text=[115,117,109] then (11,1) else if t.text=[97,114,103,109,97,120] then (12,1)
   else if t.text=[109,97,120] then (13,2) else if t.text=[109,117,120] then (14,3) else (0,0):=by unfold zY;rw [if_neg (by simp [m])]
  have g:=Z p;clear j p
  by_cases a:t.text=[114,101,108,117]
  ·rw [g.out,if_pos a]
   replace b:_=true:=b.trans (decide_eq_true a)
   clear a;clear d e i f;go_enter func274,ntmps274;go_wp2;go_ret2;exact ⟨rfl,(Below.refl _ _).alloc (Nat.le_refl _) _⟩
  by_cases c:t.text=[115,117,109]
  ·rw [g.out,if_neg a,if_pos c]
   replace b:_=false:=b.trans (decide_eq_false a)
   replace d:_=true:=d.trans (decide_eq_true c)
   clear c;clear e i f;go_enter func274,ntmps274;go_wp2;go_ret2;exact ⟨rfl,(Below.refl _ _).alloc (Nat.le_refl _) _⟩
  by_cases h:t.text=[97,114,103,109,97,120]
  ·rw [g.out,if_neg a,if_neg c,if_pos h]
   replace b:_=false:=b.trans (decide_eq_false a)
   replace d:_=false:=d.trans (decide_eq_false c)
   replace e:_=true:=e.trans (decide_eq_true h)
   clear h;clear i f;go_enter func274,ntmps274;go_wp2;go_ret2;exact ⟨rfl,(Below.refl _ _).alloc (Nat.le_refl _) _⟩
  by_cases k:t.text=[109,97,120]
  ·rw [g.out,if_neg a,if_neg c,if_neg h,if_pos k]
   replace b:_=false:=b.trans (decide_eq_false a)
   replace d:_=false:=d.trans (decide_eq_false c)
   replace e:_=false:=e.trans (decide_eq_false h)
   replace i:_=true:=i.trans (decide_eq_true k)
   clear k;clear f;go_enter func274,ntmps274;go_wp2;go_ret2;exact ⟨rfl,(Below.refl _ _).alloc (Nat.le_refl _) _⟩
  replace b:_=false:=b.trans (decide_eq_false a)
  replace d:_=false:=d.trans (decide_eq_false c)
  replace e:_=false:=e.trans (decide_eq_false h)
  replace i:_=false:=i.trans (decide_eq_false k)
  by_cases l:t.text=[109,117,120]
  ·rw [g.out,if_neg a,if_neg c,if_neg h,if_neg k,if_pos l]
   replace f:_=true:=f.trans (decide_eq_true l)
   clear l;go_enter func274,ntmps274;go_wp2;go_ret2;exact ⟨rfl,(Below.refl _ _).alloc (Nat.le_refl _) _⟩
  ·rw [g.out,if_neg a,if_neg c,if_neg h,if_neg k,if_neg l]
   replace f:_=false:=f.trans (decide_eq_false l)
   go_enter func274,ntmps274;go_wp2;go_ret2;exact ⟨rfl,(Below.refl _ _).alloc (Nat.le_refl _) _⟩
 ·have k4:((t.kind:Int) != 4)=true:=by simp;omega
  have g:=Z (show zY t=(0,0) by unfold zY;rw [if_pos m]);rw [g.out];go_enter func274,ntmps274;go_wp2;go_ret2;exact ⟨rfl,(Below.refl _ _).alloc (Nat.le_refl _) _⟩
theorem zkW {f:Nat}(ih:GoC B P T h f .sum 198):GoC B P T h (f+1) .expr 158:=by
 intro k _ _ _ _ _ _ l w x;have y:yu T .sum k≤f:=by simp only [yu,Qm] at x ⊢;omega
 obtain ⟨M,e⟩:∃p,pGo T f .sum k=p:=⟨_,rfl⟩;have g:=Adv.go T f .sum k;rw [e] at g;obtain ⟨a,m⟩:=M;simp only at g;have n:pGo T (f+1) .expr k=if pIs T a [60] then Qo (pGo T f .sum (qr a)).1 ⟨8, [],0, [m,(pGo T f .sum (qr a)).2],(qA T a).pos⟩ else (a,m):=by simp only [pGo,e]
 have z:=Z l;have A:=Z e;have:=l.blt;rcases hi:pIs T a [60] with _ | _
 ·rw [n,if_neg (by rw [hi];simp)]
  have q:=Z hi;clear l hi n e;go_enter func158,ntmps158;go_wp2_with (first | (go_at_call 153;refine (yp r _ [60] rfl).mono ?_;rw [q.out,if_neg (by simp)];rintro b N ⟨rfl,C⟩;have O:=Z C;clear C) | (go_at_call 100;refine (qS c).mono ?_;rintro b Q ⟨rfl,d⟩;have r:=Z (c.later d);have s:=Z (t.trans (PMod.below d c.blt));have R:=fun u=>yD (qA T a) u;clear d) | (go_at_call 198;refine (ih z w y).mono ?_;rw [A.out];rintro b S ⟨rfl,U,i,V,W,j⟩;have t:=Z i;have c:=Z j;clear i j));go_ret;exact ⟨rfl,s.post O⟩
 ·rw [n,if_pos hi]
  obtain ⟨X,v⟩:∃p,pGo T f .sum (qr a)=p:=⟨_,rfl⟩;have D:=Adv.go T f .sum (qr a);rw [v] at D ⊢;obtain ⟨E,F⟩:=X;have:=(zD hi).1;have Y:E.exprs.length≤E.pos:=by have G:=g.exprs;have aa:=D.exprs;simp only [qr] at aa;omega
  have ab:(qr a).exprs.length≤(qr a).pos:=by have G:=g.exprs;simp only [qr];omega
  have ac:yu T .sum (qr a)≤f:=by have G:=g.pos;simp only [yu,Qm,qr] at x ⊢;omega
  have ad:=Z v;have q:=Z hi;clear l hi n e v;go_enter func158,ntmps158;go_wp2_with (first | (go_at_call 199;refine (Y5 (o.alloc (.cells #[.int .i64 m,.int .i64 F] 3)) ⟨8, [],0, [m,F],(qA T a).pos⟩ _ (za7 o.blt (heap_alloc_new _ _)) (o.el Y)).mono ?_;rintro b _ ⟨rfl,H⟩;have ae:=Z H;clear H) | (go_at_call 198;refine (ih af ab ac).mono ?_;rw [ad.out];rintro b _ ⟨rfl,_,I,_,_,J⟩;have ag:=Z (ah.trans I);have o:=Z J;clear I J) | (go_at_call 153;refine (yp r _ [60] rfl).mono ?_;rw [q.out,if_pos rfl];rintro b N ⟨rfl,_,K,_,_,L⟩;have ah:=Z (s.trans K);have af:=Z L;clear K L) | (go_at_call 100;refine (qS c).mono ?_;rintro b Q ⟨rfl,d⟩;have r:=Z (c.later d);have s:=Z (t.trans (PMod.below d c.blt));have R:=fun u=>yD (qA T a) u;clear d) | (go_at_call 198;refine (ih z w y).mono ?_;rw [A.out];rintro b S ⟨rfl,U,i,V,W,j⟩;have t:=Z i;have c:=Z j;clear i j));go_ret;exact ⟨rfl,(ag.fresh o.blt _ _ _).post ae⟩
end Go.Proofs.YtklofgfkaaoipaaGreatDoor
