/-
  THE CONTRACT of fault.Code over an Errno in places: Go's own errors.As is walked.
-/
import Derived.Test.YtklofgfkaaoipaaGreatDoorMMem
import Derived.Test.YtklofgfkaaoipaaGreatDoorMOps
import Derived.Deep.LoopGhost
import Derived.Test.YtklofgfkaaoipaaGreatDoorMHd
set_option maxHeartbeats 16000000
set_option maxRecDepth 100000
set_option linter.unusedSimpArgs false
set_option linter.unusedVariables false
namespace Go.Proofs.YtklofgfkaaoipaaGreatDoor
open Go.RowKit Go.Extern.Stop Go.Stop Go.Extern Go.Proofs.Tryz
theorem zkd {W:World}{a:Addr}{v:Value}{o:Obj}(b:W.cell? a=some v):(W.alloc o).cell? a=some v:=cell_later ((Below.refl _ _).alloc (Nat.le_refl _) o) b
theorem zpD (a:Addr)(w:World):(ReflectliteValue.parts (.agg #[.pointer (some ⟨7,37,none⟩),.pointer (some a),.int .u64 130])).run prog w= .ok (some (37,a,130)) w:=by kernel_rfl
theorem zoE (a:Addr)(w:World):(ReflectliteValue.parts (.agg #[.pointer (some ⟨7,37,none⟩),.pointer (some a),.int .u64 386])).run prog w= .ok (some (37,a,386)) w:=by kernel_rfl
@[go_sem] theorem zqt (c:Int)(w:World):(ReflectliteValue.unpack (.iface 37 (.int .i64 c))).run prog w
  = .ok (.agg #[.pointer (some ⟨7,37,none⟩),.pointer (some ⟨w.heap.size,0,none⟩),.int .u64 130]) (w.alloc (.cells #[.int .i64 c] 37)):=by kernel_rfl
theorem mkN (p:Addr)(w:World):(ReflectliteValue.mk 37 p ReflectliteValue.flagAddr).run prog w= .ok (.agg #[.pointer (some ⟨7,37,none⟩),.pointer (some p),.int .u64 386]) w:=by kernel_rfl
theorem zpn (w:World):(Rtype.elem? 66).run prog w= .ok (some 37) w:=by kernel_rfl
@[go_sem] theorem zqG (a p:Addr)(W:World)(b:W.cell? a=some (.pointer (some p))):
  (ReflectliteValue.method (ReflectliteValue.valueError "reflectlite.Value.Elem" 0) ReflectliteValue.elem #[.agg #[.pointer (some ⟨7,66,none⟩),.pointer (some a),.int .u64 150]]).run prog W
   = .ok (.agg #[.pointer (some ⟨7,37,none⟩),.pointer (some p),.int .u64 386]) W:=by
 rw [rlm];simp only [Sem.run_bind,zkt,Result.andThen];simp [ReflectliteValue.elem,loadVar,isAgg,underlying,underlying66,b,Result.andThen,zpn,mkN]
theorem zqF (w:World):(Rtype.directlyAssignable 37 37).run prog w= .ok true w:=by kernel_rfl
theorem rls (v x:Value):ReflectliteValue.set #[v,x]=(do
  let (some (dst,a,fl),some (src,b,_)):=(←ReflectliteValue.parts v,←ReflectliteValue.parts x)
   |unsupported (.noEntry "extern/(internal/reflectlite.Value).Set.zeroValue")
  if fl / ReflectliteValue.flagAddr%2==0 then unsupported (.noEntry "extern/(internal/reflectlite.Value).Set.unaddressable")
  let c ←loadVar src b
  if ←Rtype.directlyAssignable dst src then storeVar dst a c
  else if ←Rtype.implements dst src then
   if (←Rtype.kind src)==20 then
    match c with
    |.nilIface=>unsupported (.noEntry "extern/reflectlite: a nil value of one interface type handed on as a value of another")
    |_=>storeVar dst a c
   else storeVar dst a (.iface src c)
  else panicString ("reflectlite.Set: value of type " ++(←Rtype.spelt src)++ " is not assignable to type " ++(←Rtype.spelt dst))
  pure (.tuple #[])):=rfl
@[go_sem] theorem zqU (a t:Addr)(c:Int)(y:Value)(W:World)(b:W.cell? a=some (.int .i64 c))(d:W.cell? t=some y)(e:W.frozen? t=false):
  (ReflectliteValue.set #[.agg #[.pointer (some ⟨7,37,none⟩),.pointer (some t),.int .u64 386],.agg #[.pointer (some ⟨7,37,none⟩),.pointer (some a),.int .u64 130]]).run prog W
   = .ok (.tuple #[]) (W.setCell t (.int .i64 c)):=by
 rw [rls];simp only [Sem.run_bind,zpD,zoE,Result.andThen];simp [ReflectliteValue.flagAddr,loadVar,isAgg,underlying,underlying37,b,Result.andThen,zqF,storeVar,Value.cells,storeCells,Addr.add];rw [run_store prog W t _ _ (by rfl)];simp [d,e]
theorem zhj (l:List (ByteArray×Int))(f:Int)(v:Value)(w:World)(B b t q:Nat)(r:zH B w l f v)(h:w.heap[t]? =some (.cells #[.int .i64 0] 37 (0,0)))(m:w.cell? ⟨q,0,none⟩=some (.pointer (some ⟨t,0,none⟩)))(s:b≤t):
  Calls prog 63 #[v,.iface 66 (.pointer (some ⟨t,0,none⟩)),.agg #[.pointer (some ⟨7,66,none⟩),.pointer (some ⟨q,0,none⟩),.int .u64 150],.iface 201 (.agg #[.pointer (some ⟨7,37,none⟩)])] w
   fun n o=>n= .returned (.bool true)∧Below b w o∧o.cell? ⟨t,0,none⟩=some (.int .i64 f):=by
 have F:=qd h;have G:q<w.heap.size:=zaz m;have H:∀a,(w.alloc a).cell? ⟨q,0,none⟩=some (.pointer (some ⟨t,0,none⟩)):=fun a=>(zkd m)
 have I:∀a c,((w.alloc a).alloc c).cell? ⟨t,0,none⟩=some (.int .i64 0):=fun a c=>by have:=zb6 a c h;simp [World.cell?,this]
 have J:∀a c,((w.alloc a).alloc c).frozen? ⟨t,0,none⟩=false:=fun a c=>by have:=zb6 a c h;simp [World.frozen?,this]
 have u:=Z (show ∀a c d,Below b w (((w.setCell ⟨t,0,none⟩ d).alloc a).alloc c) from fun a c d=>(((Below.refl b w).setCell s d).alloc (by rw [World.size_setCell];omega) a).alloc (by rw [World.size_alloc,World.size_setCell];omega) c);have x:=Z (show ∀a c,(((w.setCell ⟨t,0,none⟩ (.int .i64 f)).alloc a).alloc c).cell? ⟨t,0,none⟩=some (.int .i64 f) from fun a c=>by
  have y:=zb6 a c (heap_setCell (j:=0) h (.int .i64 f));simp [World.cell?,y])
 clear h;go_enter func63,ntmps63;go_wp2;go_loopg [0] l.length (fun z d wr=>wr=w.alloc (.cells #[.pointer (some ⟨7,66,none⟩),.pointer (some ⟨q,0,none⟩),.int .u64 150] 124)∧∃e,e.length=z∧zH B w e f d)
 case atStart=>exact ⟨rfl,l,rfl,r⟩
 case round=>
  obtain ⟨rfl,e,i,g⟩:=hrel
  match e,g with
  |[],g=>
   unfold zH at g;subst g;go_wp2;go_ret;exact ⟨rfl,u _ _ _,x _ _⟩
  |(K,L)::e,g=>
   obtain ⟨A,n,rfl,_,p,k⟩:=g;obtain ⟨C,d,rfl⟩:=k.form;have M:∀a,(w.alloc a).cell? ⟨A,3,none⟩=some (.iface C d):=fun a=>zkd (by simp [World.cell?,p])
   have D:=Z k;simp only [List.length_cons] at i;have E:=Z i;clear p k i;go_wp2;go_roundg e.length
   case measure=>have:=E.out;omega
   case rel=>exact ⟨rfl,e,rfl,D⟩
theorem zmi (l:List (ByteArray×Int))(e:Int)(v:Value)(w:World)(B b t:Nat)(f:zH B w l e v)(i:B≤w.heap.size)(j:yC w)(g:w.heap[t]? =some (.cells #[.int .i64 0] 37 (0,0)))(k:b≤t):
  Calls prog 29 #[v,.iface 66 (.pointer (some ⟨t,0,none⟩))] w fun d h=>d= .returned (.bool true)∧Below b w h∧h.cell? ⟨t,0,none⟩=some (.int .i64 e):=by
 obtain ⟨_,_,rfl⟩:=f.form;have:=qd g;have m:=Z f;have n:=Z g;have:0<w.heap.size:=zaz j;unfold yC at j;clear f g;go_enter func29,ntmps29;have o:=Z (show ∀a c,a=(.cells #[.pointer (some ⟨t,0,none⟩)] 66)→((w.alloc a).alloc c).cell? ⟨w.heap.size,0,none⟩=some (.pointer (some ⟨t,0,none⟩)) from fun a c d=>by
  subst d;have p:=QH c (heap_alloc_new w (.cells #[.pointer (some ⟨t,0,none⟩)] 66));simp [World.cell?,p])
 have q:=Z (show ∀a c,Below b w ((w.alloc a).alloc c) from fun a c=>((Below.refl b w).alloc (by omega) a).alloc (by rw [World.size_alloc];omega) c);have r:=Z (show ∀a c,Below w.heap.size w ((w.alloc a).alloc c) from fun a c=>((Below.refl _ w).alloc (Nat.le_refl _) a).alloc (by rw [World.size_alloc];omega) c);go_wp2_with (first | (go_at_call 63;refine (zhj l e _ _ w.heap.size b t w.heap.size (m.later ((r _ _).mono i) i) (zb6 _ _ n) (o _ _ rfl) k).mono ?_;rintro d h ⟨rfl,s,u⟩;have x:=(q _ _).trans s) | go_in);go_ret;exact ⟨rfl,x,u⟩
theorem zma (l:List (ByteArray×Int))(a:Int)(v:Value)(w:World)(B:Nat)(b:zH B w l a v)(d:B≤w.heap.size)(c:yC w):
  Calls prog 8 #[v] w (qM (.int .i64 a) w):=by
 obtain ⟨_,_,rfl⟩:=b.form;have e:=Z b;have f:=Z c;clear b c;go_enter func8,ntmps8;go_wp2_with (go_at_call 29;refine (zmi l a _ _ B w.heap.size w.heap.size (e.later ((Below.refl _ _).alloc d _) (Nat.le_refl _)) (by rw [World.size_alloc];omega) (f.below ((Below.refl _ _).alloc (Nat.le_refl _) _)) (heap_alloc_new _ _) (Nat.le_refl _)).mono ?_;rintro _ _ ⟨rfl,g,_⟩);go_ret;exact ⟨rfl,((Below.refl _ _).alloc (Nat.le_refl _) _).trans g⟩
end Go.Proofs.YtklofgfkaaoipaaGreatDoor
