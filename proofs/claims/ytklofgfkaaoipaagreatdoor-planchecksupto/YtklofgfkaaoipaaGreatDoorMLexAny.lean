/-
  THE CONTRACT of lex.one, joined.
-/
import Derived.Test.YtklofgfkaaoipaaGreatDoorMLexOne4
import Derived.Lib.ParseIntBCases
import Derived.OwnWalk
import Derived.Test.YtklofgfkaaoipaaGreatDoorMHd
set_option maxHeartbeats 16000000
set_option maxRecDepth 100000
set_option linter.unusedSimpArgs false
set_option linter.unusedVariables false
namespace Go.Proofs.YtklofgfkaaoipaaGreatDoor
open Go.RowKit Go.Proofs.Tryz
variable {c:Nat}{r:List Nat}
theorem zfP (p:Nat→Bool):∀(c:List Nat) (b:Nat),b∈c.takeWhile p→p b=true
 |[],_,a=>by cases a
 |d::c,b,a=>by
  rcases hp:p d with _ | _
  ·simp [hp] at a
  ·simp only [List.takeWhile_cons,hp,if_true,List.mem_cons] at a
   rcases a with rfl | a
   ·exact hp
   ·exact zfP p c b a
theorem zoK (c:UInt8):decide (0≤Lib.indexByte [43,45,42,64,60,61,40,41,91,93,44,59] c)=zjZ.contains c.toNat:=by
 have b:∀a:Fin 256,decide (0≤Lib.indexByte [43,45,42,64,60,61,40,41,91,93,44,59] (UInt8.ofNat a.val))=zjZ.contains a.val:=by decide +kernel
 have:=b ⟨c.toNat,c.toNat_lt⟩;simpa using this
theorem zjS (c:UInt8)(l:List UInt8):Lib.hasPrefix (c::l) [62,62]=(decide (c.toNat=62)&&decide ((yA l).head? =some 62)):=by
 have d:∀a:UInt8,(62==a)=decide (a.toNat=62):=fun a=>by
  rw [Bool.eq_iff_iff];simp only [beq_iff_eq,decide_eq_true_eq];exact ⟨fun b=>by rw [←b];rfl,fun b=>UInt8.toNat_inj.1 (by rw [b];rfl)⟩
 cases l with
 |nil=>simp [Lib.hasPrefix,List.isPrefixOf,yA,d]
 |cons e l=>simp [Lib.hasPrefix,List.isPrefixOf,yA,d]
theorem zgP (s:ByteArray)(k:Nat)(w:World)(x:YP w)(c:k<s.size)(h:s.size≤4096):
  Calls prog 99 #[.string s,.int .i64 k] w (ZU w (zh8 k s[k].toNat ((qF s).drop (k+1)))):=by
 have r:=zgQ s k c;unfold zh8;rw [←r];rcases hd:qZ s[k].toNat with _ | _
 ·rw [if_neg (by simp)]
  by_cases j:yR s[k].toNat=true∧s[k].toNat≠95
  ·rw [if_pos j]
   exact znc s k w c h hd j.1 j.2 _ rfl
  ·rw [if_neg j]
   have y:yR s[k].toNat=false∨s[k].toNat=95:=by
    rcases b:yR s[k].toNat with _ | _
    ·exact .inl rfl
    ·exact .inr (Classical.byContradiction fun d=>j ⟨b,d⟩)
   have e:(s.extract k s.size).data.toList=s[k]::s.data.toList.drop (k+1):=by
    rw [Lib.extract_to_end,List.drop_eq_getElem_cons (by rw [Array.length_toList];exact c)];rfl
   have q:=zjS s[k] (s.data.toList.drop (k+1));rw [←e,show yA (s.data.toList.drop (k+1))=(qF s).drop (k+1) by rw [qF,yA,yA,List.map_drop]] at q
   by_cases d:s[k].toNat=62∧((qF s).drop (k+1)).head? =some 62
   ·rw [if_pos d]
    have z:yR s[k].toNat=false:=by rw [d.1];decide
    exact zlA s k w c hd z (by rw [q,d.1,d.2];rfl)
   ·rw [if_neg d]
    have A:Lib.hasPrefix (s.extract k s.size).data.toList [62,62]=false:=by
     rw [q,Bool.and_eq_false_iff,decide_eq_false_iff_not,decide_eq_false_iff_not];rcases Classical.em (s[k].toNat=62) with b | b
     ·exact .inr fun B=>d ⟨b,B⟩
     ·exact .inl b
    exact zlz s k w c h hd y A _ (zoK s[k])
 ·rw [if_pos rfl]
  simp only;obtain ⟨a,f⟩:∃a,a=((qF s).drop k).takeWhile qZ:=⟨_,rfl⟩;rw [←f];have n:k+a.length≤s.size:=by
   have:=Yh qZ ((qF s).drop k);rw [←f,List.length_drop,zO] at this;omega
  have l:(((qF s).drop k).takeWhile qZ).length=a.length:=by rw [f]
  have e:yA (s.extract k (k+a.length)).data.toList=a:=by rw [zcl,←l,ZQ,←f]
  have C:∀t∈yA (s.extract k (k+a.length)).data.toList,qZ t=true:=by
   rw [e,f];intro t D;exact zfP _ _ _ D
  have u:=zcI (s.extract k (k+a.length)).data.toList 0 C (by omega);rw [e] at u;have E:(s.extract k (k+a.length)).data.toList≠[]:=by
   intro b;rw [b] at e;rw [r,List.takeWhile_cons,hd,if_pos rfl,←e] at f;cases f
  have i:Lib.parseUintB 64 (s.extract k (k+a.length)).data.toList=if za5 0 a<18446744073709551616 then .ok (za5 0 a) else .range:=by
   rw [Lib.parseUintB_64,Lib.parseMag,if_neg E,u]
  by_cases m:za5 0 a<18446744073709551616
  ·rw [if_pos m] at i
   have F:((qF s).drop k).drop a.length=(qF s).drop (k+a.length):=by rw [List.drop_drop]
   rw [F]
   by_cases g:s[k].toNat≠48∨a.length=1
   ·by_cases G:k+a.length=s.size
    ·rw [List.drop_of_length_le (by rw [zO];omega),if_pos ⟨m,g,rfl⟩]
     exact zoA s k a.length w c h hd l n _ i g G a e
    ·have v:k+a.length<s.size:=by omega
     have o:=znb s k a.length w c h hd l n _ i g v a e _ rfl;have p:(((qF s).drop (k+a.length)).head?.map yR).getD false=yR s[k+a.length].toNat:=by rw [zgQ s _ v];rfl
     rcases hb:yR s[k+a.length].toNat with _ | _
     ·rw [hb] at o p;rw [if_pos ⟨m,g,p⟩];exact o
     ·rw [hb] at o p;rw [if_neg (fun b=>by rw [p] at b;cases b.2.2)];exact o
   ·rw [if_neg (fun b=>g b.2.1)]
    exact znd s k a.length w c h hd l n _ i (Classical.byContradiction fun b=>g (.inl b)) (fun b=>g (.inr b))
  ·rw [if_neg m] at i
   rw [if_neg (fun b=>m b.1)];exact zly s k a.length w x c h hd l n i
def zch (w:World)(r:Except Int (List MTok))(e:Ending)(b:World):Prop:=
 Below w.heap.size w b∧match r with
  |.ok c=>∃a,e= .returned (.tuple #[a,.nilIface])∧b.ownsRow w.heap.size 217 4 a c.length (Yd c)
  |.error d=>∃a f g,e= .returned (.tuple #[.slice none 0 0,a])∧zH b.heap.size b [(f,g)] d a
theorem zbN {p:Nat→Bool}(a:p c=true):1≤((c::r).takeWhile p).length:=by simp [List.takeWhile_cons,a]
theorem zna {pos:Nat}{t:MTok}(a:zh8 pos c r=some t):1≤t.text.length∧t.text.length≤r.length+1:=by
 unfold zh8 at a
 split at a
 ·rename_i b
  simp only at a
  split at a
  ·obtain rfl:=Option.some.inj a
   exact ⟨zbN b,by have:=Yh qZ (c::r);simpa using this⟩
  ·cases a
 ·split at a
  ·rename_i d
   simp only at a
   split at a
   ·obtain rfl:=Option.some.inj a
    exact ⟨zbN (by unfold Q7;rw [d.1];rfl),by have:=Yh Q7 (c::r);simpa using this⟩
   ·cases a
  ·split at a
   ·rename_i e
    obtain rfl:=Option.some.inj a;have:r≠[]:=by rintro rfl;simp at e
    have:=List.length_pos_iff.2 this;simp only [List.length_cons,List.length_nil];omega
   ·split at a
    ·obtain rfl:=Option.some.inj a
     simp
    ·cases a
theorem ze1 (s:ByteArray)(w:World)(S:yC w)(T:YP w):Calls prog 64 #[.string s] w (zch w (zfN (qF s))):=by
 have j:=Z (zO s);have E:=Z S;have F:=Z T;clear S T;unfold zfN;rw [j.out]
 by_cases G:4096<s.size
 ·rw [if_pos G]
  have an:(4096:Int)<(s.size:Int):=by omega
  go_enter func64,ntmps64;go_wp2_with (go_at_call 14;refine (yV _ _ _ _ E).mono ?_;rintro f m ⟨U,rfl,i,e⟩;have p:=Z i;have d:=Z e;clear i e);go_ret2;exact ⟨d,_,_,_,rfl,p⟩
 ·rw [if_neg G]
  have q:s.size≤4096:=by omega
  clear G;obtain ⟨H,I⟩:∃H,H=zbM s.size (s.size+1) (zJ false (qF s)) []:=⟨_,rfl⟩;have ab:=Z I;rw [←I];clear I;go_enter func64,ntmps64;go_wp2_with (go_at_call 98;refine (ziw s 0 _ (Nat.zero_le _) q).mono ?_;rintro f J ⟨rfl,rfl⟩);go_loopg [4,5] (s.size+1) (fun ac ad ae wr=>∃(a k:Nat) (g:List MTok),a≤s.size∧s.size-a<ac∧ae= .int .i64 a∧s.size-a<k∧g.length≤512∧Hid (H=zbM s.size k ((qF s).drop a) g)∧Hid (wr.ownsRow w.heap.size 217 4 ad g.length (Yd g))∧Hid (Below w.heap.size w wr))
  case atStart=>
   have z:=zdP (qF s) 0 (Nat.zero_le _);exact ⟨Zj (qF s) 0,s.size+1, [],by have:=z.2.1;rw [j.out] at this;exact this,by omega,rfl,by omega,by simp,by unfold Hid;rw [z.1,ab.out];rfl,World.ownsRow_nil _ _ _ _,Below.refl _ _⟩
  case round=>
   obtain ⟨a,k,g,_,_,rfl,_,_,V,r,d⟩:=hrel
   by_cases t:a<s.size
   ·obtain ⟨n,rfl⟩:∃n,k=n+1:=⟨k-1,by omega⟩
    have b:=V.out;rw [zgQ s a t] at b;simp only [zbM] at b;have K:(s[a].toNat::(qF s).drop (a+1)).length=s.size-a:=by rw [List.length_cons,List.length_drop,j.out];omega
    rw [K,show s.size-(s.size-a)=a by omega] at b;obtain ⟨af,ag,rfl,ah,A⟩:=qg r;have ao:(g.length:Int)≤512:=by omega
    rcases ho:zh8 a s[a].toNat ((qF s).drop (a+1)) with _ | h
    ·rw [ho] at b
     simp only at b;have B:=Z ho;have l:=Z b;clear ho b K A;go_wp2_with (first | (go_at_call 99;refine (zgP s a _ (F.below d) t q).mono ?_;rw [B.out];rintro f m ⟨e,_,_,W,_,rfl⟩;have c:=Z (d.trans (e.mono d.size));clear e) | (go_at_call 14;refine (yV _ _ _ _ (E.below (c.alloc c.size _))).mono ?_;rintro f ai ⟨U,rfl,i,u⟩;have p:=Z i;have L:=Z ((c.alloc c.size _).trans (u.mono (c.alloc c.size _).size));clear i u));go_ret2;rw [l.out];exact ⟨L,_,_,_,rfl,p⟩
    ·rw [ho] at b
     simp only at b;have aj:=zna ho;rw [List.length_drop,j.out] at aj;have B:=Z ho;clear ho K A
     by_cases v:g.length=512
     ·rw [if_pos v] at b
      have l:=Z b;have ak:((g.length:Int)==512)=true:=by simp [v]
      clear b v;go_wp2_with (first | (go_at_call 99;refine (zgP s a _ (F.below d) t q).mono ?_;rw [B.out];rintro f m ⟨e,rfl⟩;have c:=Z (d.trans (e.mono d.size));clear e) | (go_at_call 14;refine (yV _ _ _ _ (E.below (c.alloc c.size _))).mono ?_;rintro f ai ⟨U,rfl,i,u⟩;have p:=Z i;have L:=Z ((c.alloc c.size _).trans (u.mono (c.alloc c.size _).size));clear i u));go_ret2;rw [l.out];exact ⟨L,_,_,_,rfl,p⟩
     ·rw [if_neg v] at b
      have ak:((g.length:Int)==512)=false:=by simp;omega
      have ap:g.length<512:=by omega
      have aq:=zf7 h.text;have C:=zdP (qF s) (a+h.text.length) (by rw [j.out];omega);rw [←zgQ s a t,List.drop_drop,←C.1] at b;have X:=C.2.1;rw [j.out] at X;have ar:=C.2.2;have l:=Z b;have al:∀D,Calls prog 98 #[.string s,.int .i64 ((a:Int)+(h.text.length:Int))] D fun f J=>f= .returned (.int .i64 (Zj (qF s) (a+h.text.length)))∧D=J:=fun D=>by
       have z:=ziw s (a+h.text.length) D (by omega) q
       rwa [Int.natCast_add] at z
      clear b v C;go_wp2_with (first | (go_at_call 99;refine (zgP s a _ (F.below d) t q).mono ?_;rw [B.out];rintro f m ⟨e,rfl⟩;have M:=Z (Below.owns r e);have c:=Z (d.trans (e.mono d.size));have N:=c.size;clear e) | (at_builtin;go_must (refine yS rfl _ _ 133 rfl 217 _ 4 40 underlying133 zfC rfl (by decide) #[_,_,_,_] _ _ _ _ (M.alloc _) rfl (by rw [World.size_alloc];rfl) rfl (by intro am x;simp at x;rcases x with rfl | rfl | rfl | rfl<;>rfl) (by rw [World.size_alloc];omega) (by omega) (by unfold maxLen;omega) ?_;intro W Y y o _;have O:=Z y;have aa:=(o.block m.heap.size (by rw [World.size_alloc];omega) (fun f=>by have:=(M.lt _ f.symm).2;omega)).trans (heap_alloc_new m _);have au:Y.cell? ⟨m.heap.size,1,none⟩=some (.string (qx h.text)):=(by simp [World.cell?,aa]);clear aa;have P:=Z ((c.alloc c.size _).grown o (by rw [World.size_alloc];omega) (fun Q R=>(M.lt Q R).1));clear y o)) | (go_at_call 98;refine (al _).mono ?_;rintro f J ⟨rfl,rfl⟩));go_roundg (s.size-Zj (qF s) (a+h.text.length)+1)
      case measure=>omega
      case rel=>exact ⟨Zj (qF s) (a+h.text.length),n,g++[h],X,by omega,rfl,by omega,by simp;omega,Z l,Z (by rw [zbO,List.length_append];exact O),P⟩
   ·obtain rfl:a=s.size:=by omega
    obtain ⟨n,rfl⟩:∃n,k=n+1:=⟨k-1,by omega⟩;have b:=V.out;rw [List.drop_of_length_le (by rw [j.out];exact Nat.le_refl _)] at b;simp only [zbM] at b;have l:=Z b;obtain ⟨af,ag,rfl,ah,A⟩:=qg r;have N:=d.size;clear b A;go_wp2_with (at_builtin;refine yS rfl _ _ 133 rfl 217 _ 4 40 underlying133 zfC rfl (by decide) #[_,_,_,_] _ _ _ _ r rfl rfl rfl (by intro am x;simp at x;rcases x with rfl | rfl | rfl | rfl<;>rfl) N (by omega) (by unfold maxLen;omega) ?_;intro W Y y o _;have O:=Z y;have P:=Z (d.grown o N (fun Q R=>(r.lt Q R).1));clear y o);go_ret2;rw [l.out];exact ⟨P,_,rfl,by rw [zbO,List.length_append];exact O⟩
end Go.Proofs.YtklofgfkaaoipaaGreatDoor
