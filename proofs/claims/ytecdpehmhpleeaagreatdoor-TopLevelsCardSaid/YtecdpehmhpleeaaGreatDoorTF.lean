/- The theorem topLevels.proved is the statement TopLevelsCardSaid: a yes at Ser and a no at Si, of one text, never go together; and there is an example that runs live. Conditions: none besides those that the statement itself lays on the arguments and the memory. -/
import Derived.Test.YtecdpehmhpleeaaGreatDoorTE
import Derived.LaidEql
import Derived.Stop.Asserts
import Derived.RowKitTokens
import Derived.ProofKit
import Derived.LaidMore
import Derived.OpenShut
import Derived.Lay
import Derived.LaidHandle
import Derived.Stop.Joined
import Derived.Lib.LaidTab
import Derived.Lib.SmallJoins
import Derived.Shelf.Vars
import Derived.SevenTiedAt
import Derived.Test.YtecdpehmhpleeaaGreatDoorCards
import Derived.Test.YtecdpehmhpleeaaGreatDoorTie
open _root_ renaming rfl->Y,List->L,Nat->E,Int->T,Array->θ,Option->ι,Bool->κ,UInt8->μ,ByteArray->ν
open Option renaming some->S,none->η
open Bool renaming true->γ,false->δ
open Go renaming World->ε,Value->ζ
namespace Go.Proofs.YtecdpehmhpleeaaGreatDoor
open Go.RowKit Go.Proofs.Tryz
set_option linter.unusedVariables false
set_option linter.unusedSimpArgs false
set_option maxRecDepth 100000
set_option maxHeartbeats 16000000
variable{α β:Type}{P:Program}{m q n1 n2 n3 n4 n5:Nat}{W V U w4:World}{x v1 v2 v3 v4:Value}{i1 i2 i3 i4 i5 i6:Int}{t:TypeId}{e p1 p2:List Int}{Q:Exit→Act→World→Prop}{A:Option Addr}{C:World→List Value→α→Prop}{L1:List (List Value)}{X X1:List α}{Y1:List Value}{u u1:List UInt8}{S1:Nat→Prop}{p0 q0:Prop}{R R1:List It}{B D:List Nat}{K:List Ch}{a1 a2:Act}{r1:List Oper}{o1:Array Oper}{o2:Oper}{F:List Fc}{K1:Act→World→Prop}{x1 x2:α}{S2:ByteArray}{x3 x4:iS}{c3:Ch}{f1 f2:Nat×Nat}{m1:List Mk}{e1:List Ev}{N1:List Nd}{e2:Ending}{G:World→Prop}
section
open Go.RowKit Go.Extern.Stop Go.Stop Go.Extern
theorem Li(b:Addr)(a:ε):(ReflectliteValue.unpack (.iface 70 (.pointer (S b)))).run prog a=.ok (.agg #[aP 6 70,aP a.heap.size 0,.int .u64 150]) (a.alloc (.cells #[.pointer (S b)] 70)):=kR
theorem XN(b:Addr)(a:ε):(ReflectliteValue.unpack (.iface 71 (.pointer (S b)))).run prog a=.ok (.agg #[aP 6 71,aP a.heap.size 0,.int .u64 150]) (a.alloc (.cells #[.pointer (S b)] 71)):=kR
theorem Lk(b:Addr)(a:ε):(ReflectliteValue.methodAny (ReflectliteValue.valueError "reflectlite.Value.Type" 0) (λc _ _ _=>ReflectliteType.toType c) #[.agg #[aP 6 70,.pointer (S b),.int .u64 150]]).run prog a=.ok (.iface 148 (.agg #[aP 6 70])) a:=kR
theorem WE(b:Addr)(a:ε):(ReflectliteValue.methodAny (ReflectliteValue.valueError "reflectlite.Value.Type" 0) (λc _ _ _=>ReflectliteType.toType c) #[.agg #[aP 6 71,.pointer (S b),.int .u64 150]]).run prog a=.ok (.iface 148 (.agg #[aP 6 71])) a:=kR
theorem DU(a:ε):((ReflectliteType.abiMethod λc=>Functor.map (λb:E=>ζ.int IntKind.u8 (b:T)) (Rtype.kind c)) #[aP 6 70]).run prog a=.ok (.int .u8 22) a:=kR
theorem Qs(a:ε):((ReflectliteType.abiMethod λc=>Functor.map (λb:E=>ζ.int IntKind.u8 (b:T)) (Rtype.kind c)) #[aP 6 71]).run prog a=.ok (.int .u8 22) a:=kR
theorem Ck(a:ε):((ReflectliteType.abiMethod λc=>Functor.map (λb:E=>ζ.int IntKind.u8 (b:T)) (Rtype.kind c)) #[aP 6 50]).run prog a=.ok (.int .u8 25) a:=kR
theorem Qj(a:ε):((ReflectliteType.abiMethod λc=>Functor.map (λb:E=>ζ.int IntKind.u8 (b:T)) (Rtype.kind c)) #[aP 6 29]).run prog a=.ok (.int .u8 2) a:=kR
theorem Et(a:ε):(ReflectliteType.method ReflectliteType.elem #[.agg #[aP 6 70]]).run prog a=.ok (.iface 148 (.agg #[aP 6 50])) a:=kR
theorem Rv(a:ε):(ReflectliteType.method ReflectliteType.elem #[.agg #[aP 6 71]]).run prog a=.ok (.iface 148 (.agg #[aP 6 29])) a:=kR
theorem abg(a:ζ)(b:ε):(Go.method 628 148 (.agg #[a]) "Kind").run prog b=.ok (356,a) b:=kR
theorem aaw(a:ζ)(b:ε):(Go.method 628 148 (.agg #[a]) "Elem").run prog b=.ok (368,.agg #[a]) b:=kR
theorem aaH(a:ζ)(b:ε):(Go.method 628 148 (.agg #[a]) "Implements").run prog b=.ok (369,.agg #[a]) b:=kR
theorem aaE(a:ζ)(b:ε):(Go.method 628 148 (.agg #[a]) "AssignableTo").run prog b=.ok (366,.agg #[a]) b:=kR
theorem KQ(a:ε):(ReflectliteType.relation "Implements" ReflectliteType.implements_ #[.agg #[aP 6 50],.iface 148 (.agg #[aP 6 45])]).run prog a=.ok (.bool γ) a:=kR
theorem YI(a:ε):(ReflectliteType.relation "Implements" ReflectliteType.implements_ #[.agg #[aP 6 29],.iface 148 (.agg #[aP 6 45])]).run prog a=.ok (.bool γ) a:=kR
theorem aao(b:ζ)(a:ε):(ReflectliteType.typeOf #[.iface 50 b]).run prog a=.ok (.iface 148 (.agg #[aP 6 50])) a:=kR
theorem Tf(b:ζ)(a:ε):(ReflectliteType.typeOf #[.iface 29 b]).run prog a=.ok (.iface 148 (.agg #[aP 6 29])) a:=kR
theorem abI(a:ε):(ReflectliteType.relation "AssignableTo" ReflectliteType.assignableTo #[.agg #[aP 6 50],.iface 148 (.agg #[aP 6 50])]).run prog a=.ok (.bool γ) a:=kR
theorem aaN(a:ε):(ReflectliteType.relation "AssignableTo" ReflectliteType.assignableTo #[.agg #[aP 6 29],.iface 148 (.agg #[aP 6 29])]).run prog a=.ok (.bool γ) a:=kR
theorem aaL(a:ε):(ReflectliteType.relation "AssignableTo" ReflectliteType.assignableTo #[.agg #[aP 6 29],.iface 148 (.agg #[aP 6 50])]).run prog a=.ok (.bool δ) a:=kR
theorem AE(c:Sem ζ)(a:TypeId->Addr->E->E->Sem ζ)(b:ζ):
  ReflectliteValue.method c a #[b]=(do match <-ReflectliteValue.parts b with|none=>c|some (d,c,b)=>a d c b (b % 32)):=Y
theorem Ku(a:Addr)(b:ε):(ReflectliteValue.parts (.agg #[aP 6 70,.pointer (S a),.int .u64 150])).run prog b=.ok (S (70,a,150)) b:=kR
theorem Lo(a:Addr)(b:ε):(ReflectliteValue.parts (.agg #[aP 6 71,.pointer (S a),.int .u64 150])).run prog b=.ok (S (71,a,150)) b:=kR
theorem Kx(b d:Addr)(a:ε)(c:a.cell? b=S (.pointer (S d))):
  (ReflectliteValue.method (ReflectliteValue.valueError "reflectlite.Value.IsNil" 0) ReflectliteValue.isNil #[.agg #[aP 6 70,.pointer (S b),.int .u64 150]]).run prog a=.ok (.bool δ) a:=by
 rw[AE];simp only[Sem.run_bind,Ku,Result.andThen];simp[ReflectliteValue.isNil,loadVar,isAgg,underlying,underlying70,c,Result.andThen]
theorem YX(b d:Addr)(a:ε)(c:a.cell? b=S (.pointer (S d))):
  (ReflectliteValue.method (ReflectliteValue.valueError "reflectlite.Value.IsNil" 0) ReflectliteValue.isNil #[.agg #[aP 6 71,.pointer (S b),.int .u64 150]]).run prog a=.ok (.bool δ) a:=by
 rw[AE];simp only[Sem.run_bind,Lo,Result.andThen];simp[ReflectliteValue.isNil,loadVar,isAgg,underlying,underlying71,c,Result.andThen]
theorem abB(a:ε):(Rtype.elem? 70).run prog a=.ok (S 50) a:=kR
theorem abc(a:ε):(Rtype.elem? 71).run prog a=.ok (S 29) a:=kR
theorem aaZ(a:Addr)(b:ε):(ReflectliteValue.mk 50 a ReflectliteValue.flagAddr).run prog b=.ok (.agg #[aP 6 50,.pointer (S a),.int .u64 409]) b:=kR
theorem aap(a:Addr)(b:ε):(ReflectliteValue.mk 29 a ReflectliteValue.flagAddr).run prog b=.ok (.agg #[aP 6 29,.pointer (S a),.int .u64 386]) b:=kR
theorem aae(b c:Addr)(a:ε)(d:a.cell? b=S (.pointer (S c))):
  (ReflectliteValue.method (ReflectliteValue.valueError "reflectlite.Value.Elem" 0) ReflectliteValue.elem #[.agg #[aP 6 70,.pointer (S b),.int .u64 150]]).run prog a=.ok (.agg #[aP 6 50,.pointer (S c),.int .u64 409]) a:=by
 rw[AE];simp only[Sem.run_bind,Ku,Result.andThen];simp[ReflectliteValue.elem,loadVar,isAgg,underlying,underlying70,d,Result.andThen,abB,aaZ]
theorem abr(b c:Addr)(a:ε)(d:a.cell? b=S (.pointer (S c))):
  (ReflectliteValue.method (ReflectliteValue.valueError "reflectlite.Value.Elem" 0) ReflectliteValue.elem #[.agg #[aP 6 71,.pointer (S b),.int .u64 150]]).run prog a=.ok (.agg #[aP 6 29,.pointer (S c),.int .u64 386]) a:=by
 rw[AE];simp only[Sem.run_bind,Lo,Result.andThen];simp[ReflectliteValue.elem,loadVar,isAgg,underlying,underlying71,d,Result.andThen,abc,aap]
theorem YH(b c:T)(a:ε):(ReflectliteValue.unpack (.iface 50 (.agg #[I b,I c]))).run prog a=.ok (.agg #[aP 6 50,aP a.heap.size 0,.int .u64 153]) (a.alloc (.cells #[I b,I c] 50)):=kR
theorem XG(b:T)(a:ε):(ReflectliteValue.unpack (.iface 29 (I b))).run prog a=.ok (.agg #[aP 6 29,aP a.heap.size 0,.int .u64 130]) (a.alloc (.cells #[I b] 29)):=kR
theorem Se(a:Addr)(b:ε):(ReflectliteValue.parts (.agg #[aP 6 50,.pointer (S a),.int .u64 409])).run prog b=.ok (S (50,a,409)) b:=kR
theorem We(a:Addr)(b:ε):(ReflectliteValue.parts (.agg #[aP 6 50,.pointer (S a),.int .u64 153])).run prog b=.ok (S (50,a,153)) b:=kR
theorem UR(a:Addr)(b:ε):(ReflectliteValue.parts (.agg #[aP 6 29,.pointer (S a),.int .u64 386])).run prog b=.ok (S (29,a,386)) b:=kR
theorem YV(a:Addr)(b:ε):(ReflectliteValue.parts (.agg #[aP 6 29,.pointer (S a),.int .u64 130])).run prog b=.ok (S (29,a,130)) b:=kR
theorem Xu(a:ε):(Rtype.directlyAssignable 50 50).run prog a=.ok γ a:=kR
theorem Xr(a:ε):(Rtype.directlyAssignable 29 29).run prog a=.ok γ a:=kR
end
section
open Go.RowKit Go.Extern.Stop Go.Stop Go.Extern
theorem Pm(c d:ζ):ReflectliteValue.set #[c,d]=(do
  let (S (dst,a,fl),S (src,b,_)):=(<-ReflectliteValue.parts c,<-ReflectliteValue.parts d)
   |unsupported (.noEntry "extern/(internal/reflectlite.Value).Set.zeroValue")
  if fl / ReflectliteValue.flagAddr % 2==0 then unsupported (.noEntry "extern/(internal/reflectlite.Value).Set.unaddressable")
  let val <-loadVar src b
  if <-Rtype.directlyAssignable dst src then storeVar dst a val
  else if <-Rtype.implements dst src then
   if(<-Rtype.kind src)==20 then
    match val with
    |.nilIface=>unsupported (.noEntry "extern/reflectlite: a nil value of one interface type handed on as a value of another")
    |_=>storeVar dst a val
   else storeVar dst a (.iface src val)
  else panicString ("reflectlite.Set: value of type "++(<-Rtype.spelt src)++" is not assignable to type "++(<-Rtype.spelt dst))
  pure (.tuple #[])):=Y
theorem Yf(b c:Addr)(d:T)(f:ζ)(a:ε)(e:a.cell? c=S (I d))(g:a.cell? b=S f)(f:a.frozen? b=δ):
  (ReflectliteValue.set #[.agg #[aP 6 29,.pointer (S b),.int .u64 386],.agg #[aP 6 29,.pointer (S c),.int .u64 130]]).run prog a=.ok (.tuple #[]) (a.setCell b (I d)):=by
 rw[Pm];simp only[Sem.run_bind,UR,YV,Result.andThen];simp[ReflectliteValue.flagAddr,loadVar,isAgg,underlying,underlying29,e,Result.andThen,Xr,storeVar,ζ.cells,storeCells,Addr.add];rw[run_store prog a b _ _ fX];simp[g,f]
theorem YL(q e:E)(b d r k:T)(a:ε)(h:aY a e #[I b,I d] 50)(i:aY a q #[I r,I k] 50):
  (ReflectliteValue.set #[.agg #[aP 6 50,aP q 0,.int .u64 409],.agg #[aP 6 50,aP e 0,.int .u64 153]]).run prog a=.ok (.tuple #[]) ((a.setCell (H q 0) (I b)).setCell (H q 1) (I d)):=by
 have f:=bx h;have g:=dh h;obtain⟨p,r,h⟩:=oK i;rw[Pm];simp only[Sem.run_bind,Se,We,Result.andThen];simp[ReflectliteValue.flagAddr,loadVar,isAgg,underlying,underlying50,f,g,Result.andThen,Xu,storeVar,ζ.cells,storeCells,Addr.add];have m:(a.setCell (H q 0) (I b)).cell? (H q 1)=S (I k):=by rw[ε.cell?_setCell_other _ _ _ _ sI];exact r
 have l:=aG (aD i 0 (I b)) 1;have n:=h 0;have o:(loadCells (H e 0) 2).run prog a=.ok #[I b,I d] a:=run_loadCells_list a _ [I b,I d] (λe h c=>by
  match e with
  |0=>simp at c;subst c;exact f
  |1=>simp at c;subst c;exact g
  |e+2=>simp at c)
 have c:=run_store prog a (H q 0) (I b) .plain Y;have a:=run_store prog (a.setCell (H q 0) (I b)) (H q 1) (I d) .plain Y;simp[p,n] at c;simp[m,l] at a;simp[o,Result.andThen,storeCells,Addr.add,c,a]
end
section
open Go.RowKit Go.Extern.Stop Go.Stop Go.Extern
theorem Rp(b c f g:T)(q:E)(a:ε)(d:a.cell? (H 0 0)=S (.iface 148 (.agg #[aP 6 45])))(i:aY a q #[I f,I g] 50):
  aQ 14 #[.iface 50 (.agg #[I b,I c]),.iface 70 (aP q 0)] a λh e=>h=.returned (.bool γ)/\aY e q #[I b,I c] 50/\bT q a e:=by
 have e:=@run_callFunc_extern prog 32 _ (λe=>ReflectliteValue.unpack (e.getD 0 (.tuple #[]))) func32 kR kR kR kR;have e:=@run_callFunc_extern prog 33 _ (ReflectliteValue.methodAny (ReflectliteValue.valueError "reflectlite.Value.Type" 0) (λe _ _ _=>ReflectliteType.toType e)) func33 kR kR kR kR;have e:=@run_callFunc_extern prog 34 _ (ReflectliteValue.method (ReflectliteValue.valueError "reflectlite.Value.IsNil" 0) ReflectliteValue.isNil) func34 kR kR kR kR;have e:=@run_callFunc_extern prog 356 _ (ReflectliteType.abiMethod λe=>do pure (.int .u8 (<-Rtype.kind e))) func356 kR kR kR kR;have e:=@run_callFunc_extern prog 368 _ (ReflectliteType.method ReflectliteType.elem) func368 kR kR kR kR;have e:=@run_callFunc_extern prog 369 _ (ReflectliteType.relation "Implements" ReflectliteType.implements_) func369 kR kR kR kR;have e:=@run_callFunc_extern prog 54 _ ReflectliteType.typeOf func54 kR kR kR kR;have e:=@run_callFunc_extern prog 366 _ (ReflectliteType.relation "AssignableTo" ReflectliteType.assignableTo) func366 kR kR kR kR;have e:=@run_callFunc_extern prog 55 _ (ReflectliteValue.method (ReflectliteValue.valueError "reflectlite.Value.Elem" 0) ReflectliteValue.elem) func55 kR kR kR kR;have e:=@run_callFunc_extern prog 56 _ ReflectliteValue.set func56 kR kR kR kR;have e:=aao;have e:=aaE;have e:=abI;have e:=YH;have e:=Li;have e:=Lk;have e:=abg;have e:=aaw;have e:=aaH;have e:=DU;have e:=Ck;have e:=Et;have e:=KQ;have e:=Kx (H a.heap.size 0) (H q 0) ((a.alloc (.cells #[aP q 0] 70)).alloc (.cells #[aP 6 70,aP a.heap.size 0,.int .u64 150] 107)) sI;have e:0<a.heap.size:=by
  rcases jc a.heap.size with h|e
  .simp[ε.cell?,h] at d
  exact e
 have e:((a.alloc (.cells #[aP q 0] 70)).alloc (.cells #[aP 6 70,aP a.heap.size 0,.int .u64 150] 107)).cell? (H 0 0)=S (.iface 148 (.agg #[aP 6 45])):=by
  rw[lC _ _ (H 0 0) sI,lC _ _ (H 0 0) e];exact d
 have e:=aae (H a.heap.size 0) (H q 0) (((a.alloc (.cells #[aP q 0] 70)).alloc (.cells #[aP 6 70,aP a.heap.size 0,.int .u64 150] 107)).alloc (.cells #[aP 6 70,aP a.heap.size 0,.int .u64 150] 107)) (by rw[lC _ _ (H a.heap.size 0) sO];simp);have e:((((a.alloc (.cells #[aP q 0] 70)).alloc (.cells #[aP 6 70,aP a.heap.size 0,.int .u64 150] 107)).alloc (.cells #[aP 6 70,aP a.heap.size 0,.int .u64 150] 107)).alloc (.cells #[I b,I c] 50)).heap[q]? =S (.cells #[I f,I g] 50 (0,0)):=aC (aC (aC (aC i _) _) _) _;have h:((((a.alloc (.cells #[aP q 0] 70)).alloc (.cells #[aP 6 70,aP a.heap.size 0,.int .u64 150] 107)).alloc (.cells #[aP 6 70,aP a.heap.size 0,.int .u64 150] 107)).alloc (.cells #[I b,I c] 50)).heap[a.heap.size+1+1+1]? =S (.cells #[I b,I c] 50 (0,0)):=bM sI;have f:=YL q (a.heap.size+1+1+1) b c f g _ h e;have k:((((((a.alloc (.cells #[aP q 0] 70)).alloc (.cells #[aP 6 70,aP a.heap.size 0,.int .u64 150] 107)).alloc (.cells #[aP 6 70,aP a.heap.size 0,.int .u64 150] 107)).alloc (.cells #[I b,I c] 50)).setCell (H q 0) (I b)).setCell (H q 1) (I c)).heap[q]? =S (.cells #[I b,I c] 50 (0,0))/\bT q a ((((((a.alloc (.cells #[aP q 0] 70)).alloc (.cells #[aP 6 70,aP a.heap.size 0,.int .u64 150] 107)).alloc (.cells #[aP 6 70,aP a.heap.size 0,.int .u64 150] 107)).alloc (.cells #[I b,I c] 50)).setCell (H q 0) (I b)).setCell (H q 1) (I c)):=⟨aD (aD e 0 (I b)) 1 (I c),(((((cZ.alloc _).alloc _).alloc _).aK _ _).aK _ _)⟩;clear e h i d
 delta aQ;go_in
 go_wp2;refine eE 1 ?_;rw[bN];go_wp2;go_ret;exact⟨Y,k⟩
theorem EI(b e:T)(q:E)(a:ε)(d:a.cell? (H 0 0)=S (.iface 148 (.agg #[aP 6 45])))(g:aY a q #[I e] 29):
  aQ 14 #[.iface 29 (I b),.iface 71 (aP q 0)] a λf c=>f=.returned (.bool γ)/\aY c q #[I b] 29/\bT q a c:=by
 have c:=@run_callFunc_extern prog 32 _ (λc=>ReflectliteValue.unpack (c.getD 0 (.tuple #[]))) func32 kR kR kR kR;have c:=@run_callFunc_extern prog 33 _ (ReflectliteValue.methodAny (ReflectliteValue.valueError "reflectlite.Value.Type" 0) (λc _ _ _=>ReflectliteType.toType c)) func33 kR kR kR kR;have c:=@run_callFunc_extern prog 34 _ (ReflectliteValue.method (ReflectliteValue.valueError "reflectlite.Value.IsNil" 0) ReflectliteValue.isNil) func34 kR kR kR kR;have c:=@run_callFunc_extern prog 356 _ (ReflectliteType.abiMethod λc=>do pure (.int .u8 (<-Rtype.kind c))) func356 kR kR kR kR;have c:=@run_callFunc_extern prog 368 _ (ReflectliteType.method ReflectliteType.elem) func368 kR kR kR kR;have c:=@run_callFunc_extern prog 369 _ (ReflectliteType.relation "Implements" ReflectliteType.implements_) func369 kR kR kR kR;have c:=@run_callFunc_extern prog 54 _ ReflectliteType.typeOf func54 kR kR kR kR;have c:=@run_callFunc_extern prog 366 _ (ReflectliteType.relation "AssignableTo" ReflectliteType.assignableTo) func366 kR kR kR kR;have c:=@run_callFunc_extern prog 55 _ (ReflectliteValue.method (ReflectliteValue.valueError "reflectlite.Value.Elem" 0) ReflectliteValue.elem) func55 kR kR kR kR;have c:=@run_callFunc_extern prog 56 _ ReflectliteValue.set func56 kR kR kR kR;have c:=Tf;have c:=aaE;have c:=aaN;have c:=XG;have c:=XN;have c:=WE;have c:=abg;have c:=aaw;have c:=aaH;have c:=Qs;have c:=Qj;have c:=Rv;have c:=YI;have c:=YX (H a.heap.size 0) (H q 0) ((a.alloc (.cells #[aP q 0] 71)).alloc (.cells #[aP 6 71,aP a.heap.size 0,.int .u64 150] 107)) sI;have c:0<a.heap.size:=by
  rcases jc a.heap.size with f|c
  .simp[ε.cell?,f] at d
  exact c
 have c:((a.alloc (.cells #[aP q 0] 71)).alloc (.cells #[aP 6 71,aP a.heap.size 0,.int .u64 150] 107)).cell? (H 0 0)=S (.iface 148 (.agg #[aP 6 45])):=by
  rw[lC _ _ (H 0 0) sI,lC _ _ (H 0 0) c];exact d
 have c:=abr (H a.heap.size 0) (H q 0) (((a.alloc (.cells #[aP q 0] 71)).alloc (.cells #[aP 6 71,aP a.heap.size 0,.int .u64 150] 107)).alloc (.cells #[aP 6 71,aP a.heap.size 0,.int .u64 150] 107)) (by rw[lC _ _ (H a.heap.size 0) sO];simp);have c:((((a.alloc (.cells #[aP q 0] 71)).alloc (.cells #[aP 6 71,aP a.heap.size 0,.int .u64 150] 107)).alloc (.cells #[aP 6 71,aP a.heap.size 0,.int .u64 150] 107)).alloc (.cells #[I b] 29)).heap[q]? =S (.cells #[I e] 29 (0,0)):=aC (aC (aC (aC g _) _) _) _;have f:((((a.alloc (.cells #[aP q 0] 71)).alloc (.cells #[aP 6 71,aP a.heap.size 0,.int .u64 150] 107)).alloc (.cells #[aP 6 71,aP a.heap.size 0,.int .u64 150] 107)).alloc (.cells #[I b] 29)).heap[a.heap.size+1+1+1]? =S (.cells #[I b] 29 (0,0)):=bM sI;have e:=Yf (H q 0) (H (a.heap.size+1+1+1) 0) b (I e) _ (aj f 0) (aj c 0) (aG c 0);have h:(((((a.alloc (.cells #[aP q 0] 71)).alloc (.cells #[aP 6 71,aP a.heap.size 0,.int .u64 150] 107)).alloc (.cells #[aP 6 71,aP a.heap.size 0,.int .u64 150] 107)).alloc (.cells #[I b] 29)).setCell (H q 0) (I b)).heap[q]? =S (.cells #[I b] 29 (0,0))/\bT q a (((((a.alloc (.cells #[aP q 0] 71)).alloc (.cells #[aP 6 71,aP a.heap.size 0,.int .u64 150] 107)).alloc (.cells #[aP 6 71,aP a.heap.size 0,.int .u64 150] 107)).alloc (.cells #[I b] 29)).setCell (H q 0) (I b)):=⟨aD c 0 (I b),((((cZ.alloc _).alloc _).alloc _).aK _ _)⟩;clear c f g d
 delta aQ;go_in
 go_wp2;refine eE 1 ?_;rw[bN];go_wp2;go_ret;exact⟨Y,h⟩
end
section
open Go.RowKit Go.Extern.Stop Go.Stop Go.Extern
theorem Wx(b:ζ)(a:ε):(Instr.typeAssert (.iface 29 b) 45 153 γ).run prog a=.ok (.tuple #[.nilIface,.bool δ]) a:=run_typeAssert_lacksB underlying153 kR kR b 45 a
theorem Xn(b:ζ)(a:ε):(Instr.typeAssert (.iface 29 b) 45 156 γ).run prog a=.ok (.tuple #[.nilIface,.bool δ]) a:=run_typeAssert_lacksB underlying156 kR kR b 45 a
theorem VZ(b:ζ)(a:ε):(Instr.typeAssert (.iface 29 b) 45 158 γ).run prog a=.ok (.tuple #[.nilIface,.bool δ]) a:=run_typeAssert_lacksB underlying158 kR kR b 45 a
theorem KA(c:T)(q:E)(a:ε)(b:a.cell? (H 0 0)=S (.iface 148 (.agg #[aP 6 45]))):
  Calls prog 14 #[.iface 29 (I c),.iface 70 (aP q 0)] a λd c=>d=.returned (.bool δ)/\Fr j a c:=by
 have c:=@run_callFunc_extern prog 32 _ (λc=>ReflectliteValue.unpack (c.getD 0 (.tuple #[]))) func32 kR kR kR kR;have c:=@run_callFunc_extern prog 33 _ (ReflectliteValue.methodAny (ReflectliteValue.valueError "reflectlite.Value.Type" 0) (λc _ _ _=>ReflectliteType.toType c)) func33 kR kR kR kR;have c:=@run_callFunc_extern prog 34 _ (ReflectliteValue.method (ReflectliteValue.valueError "reflectlite.Value.IsNil" 0) ReflectliteValue.isNil) func34 kR kR kR kR;have c:=@run_callFunc_extern prog 356 _ (ReflectliteType.abiMethod λc=>do pure (.int .u8 (<-Rtype.kind c))) func356 kR kR kR kR;have c:=@run_callFunc_extern prog 368 _ (ReflectliteType.method ReflectliteType.elem) func368 kR kR kR kR;have c:=@run_callFunc_extern prog 369 _ (ReflectliteType.relation "Implements" ReflectliteType.implements_) func369 kR kR kR kR;have c:=@run_callFunc_extern prog 54 _ ReflectliteType.typeOf func54 kR kR kR kR;have c:=@run_callFunc_extern prog 366 _ (ReflectliteType.relation "AssignableTo" ReflectliteType.assignableTo) func366 kR kR kR kR;have c:=Tf;have c:=aaE;have c:=aaL;have c:=Li;have c:=Lk;have c:=abg;have c:=aaw;have c:=aaH;have c:=DU;have c:=Ck;have c:=Et;have c:=KQ;have c:=Wx;have c:=Xn;have c:=VZ;have c:=Kx (H a.heap.size 0) (H q 0) ((a.alloc (.cells #[aP q 0] 70)).alloc (.cells #[aP 6 70,aP a.heap.size 0,.int .u64 150] 107)) sI;have c:0<a.heap.size:=by
  rcases jc a.heap.size with d|c
  .simp[ε.cell?,d] at b
  exact c
 have a:((a.alloc (.cells #[aP q 0] 70)).alloc (.cells #[aP 6 70,aP a.heap.size 0,.int .u64 150] 107)).cell? (H 0 0)=S (.iface 148 (.agg #[aP 6 45])):=by
  rw[lC _ _ (H 0 0) sI,lC _ _ (H 0 0) c];exact b
 clear b;go_in
 go_wp2;refine eE 1 ?_;rw[bN];go_wp2;go_ret;exact⟨Y,by first|exact(cZ.alloc _).alloc _|exact cZ.alloc _⟩
end
structure Gr(w:ε):Prop where
 g0:w.cell? (H 0 0)=S (.iface 148 (.agg #[aP 6 45]))
 gw:Gw w
 gl:Gl w
theorem Gr.fr{w c:ε}(b:Gr w)(a:Fr j w c):Gr c:=⟨a.aF b.g0 id,b.gw.fr a,b.gl.fr a⟩
def LF(c:Hs)(d:T)(y:Prop)(x:ε)(o:Ending)(f:ε):Prop:=∃(a p r b s t u:T)(k:κ)(h:ι Addr)(v m:E)(i:ι Addr)(w n:E)(g:ι Addr)(e l:E),o=.returned (.agg #[I a,I p,I r,I b,I s,I t,I u,.bool k,.slice h v m,.slice i w n,.slice g e l])/\((a=1->Kw c d)/\(a=2->¬Kw c d)/\(y->a=2/\b=3/\e=3))/\Fr j x f
def AWK(a:T)(g:Hs)(i h b c d e f:T)(P:L Pk):Prop:=(a=0/\g=IU/\i=1)/\(h=uc/\b=uc/\c=uc/\d=uc/\e=uc)/\f=0/\P=[(3,9)]
theorem ZY{f:Hs}{a g b c d e i:T}{P:L Pk}(h:AWK i1 f a g b c d e i P):i1=0/\bm f=γ/\(a=0\/a=1)/\vq g b c d e 0 0 0 0=γ:=by
 obtain⟨⟨rfl,rfl,rfl⟩,⟨rfl,rfl,rfl,rfl,rfl⟩,-,-⟩:=h;exact⟨Y,by decide+kernel,.inr Y,by decide+kernel⟩
theorem Qc{b:Hs}{c h d e f g k:T}{P:L Pk}{a:RS}(i:AWK i1 b c h d e f g k P)(l:DY b c 3 9 (pd b c h d e f g) a):a.said=2/\a.vu=3/\a.tree.length=3:=by
 obtain⟨⟨rfl,rfl,rfl⟩,⟨rfl,rfl,rfl,rfl,rfl⟩,-,-⟩:=i;exact Na (l Y Y)
theorem BG{a:Hs}(d:i2=0\/i2=3)(c:¬p0)(b:Fr j W V):LF a i1 p0 W (.returned (.agg #[I i2,I i3,I i4,aI,aI,aI,aI,.bool δ,aV,aV,aV])) V:=
 ⟨_,_,_,_,_,_,_,_,_,_,_,_,_,_,_,_,_,Y,⟨λa=>by omega,λa=>by omega,λa=>absurd a c⟩,b⟩
def z36:θ ζ:=#[aI,aI,aI,aI,aI,aI,aI,.bool δ,aV,aV,aV]
theorem my:(prog.info? 36).map (·.size)=S 11:=kR
theorem AH(r PS:ν)(K a2 a1 w D F:T)(t:ε)(p:Gr t)(b0:r.size<=1500)(b8:PS.size<=600):aQ 7 #[.string r,I K,.agg #[I a2,I a1,I w,I D,I F],.string PS] t (LF (kh r.data.toList).1 K (AWK (kh r.data.toList).2.2 (kh r.data.toList).1 K a2 a1 w D F (gG PS.data.toList) (om PS.data.toList)) t):=by
 have b1:=λs(U:Gr s)=>Z (Od r K a2 a1 w D F s U.gw b0);obtain⟨b0,b6⟩:=M ((kh r.data.toList).1);obtain⟨c1,b7⟩:=M ((kh r.data.toList).2.2);rw[<-b6,<-b7] at b1 |-;have b2:=Z (λ(a7:E)(s0:RS)(s:ε)(U:Gl s)(r:kS b0 K 0 a7 δ s0 s)=>Oc (S:=PS) U r b8);obtain⟨U,b8⟩:=M (gG PS.data.toList);obtain⟨P,r⟩:=M (om PS.data.toList);rw[<-b8,<-r] at b2 |-;obtain⟨d6,V⟩:=M (AWK c1 b0 K a2 a1 w D F U P);rw[<-V];have a4:=Z V;clear b6 b7 b8 r V
 delta aQ;go_in
 go_upto_region 1 with fail;refine cT (λu r=> ?_);obtain⟨U,K⟩:=M t.heap.size;obtain⟨B,a1⟩:=M (U+1);rw[show t.heap.size+1=B by omega,<-K];have g:=lq r;have a0:N (∀s,Fr j u s->aY s B z36 36):=Fr.all (by rw[r];exact bM sO);have W:(t.heap.size<=B/\0<t.heap.size):=⟨O,by
  rcases jc t.heap.size with U|s
  .have:=p.g0
   simp[ε.cell?,U] at this
  exact s⟩
 obtain⟨s,t,U,a2,b0,-⟩:=Va (uV r K).1;clear r K a1;go_wp2_with fail;refine sg ((b1 u (p.fr g)).1) ?_;rintro k h ⟨s,r,rfl,b,c5⟩;have l:=Z b;rcases c5 with⟨c6,c4⟩|⟨rfl,a7,rfl,d0,d7,d1⟩
 .have b3:(¬d6):=(λa=>c4 (ZY (a4.1▸a)))
  rcases c6 with⟨v,c2,rfl⟩|⟨c0,v,rfl⟩
  .go_upto_region 6 with fail
   refine cT (λi c=> ?_);obtain⟨f,e⟩:=M h.heap.size;obtain⟨d,z⟩:=M (f+1);rw[show h.heap.size+1=d by omega,<-e];have a5:=uV c e;have X:(aY i d #[aI] 29):=(by rw[c];exact bM sO);have m:=(l.1.step (lq c));have R:(u.heap.size<=f/\u.heap.size<=d):=(by have b5:=l.1.size;omega);clear c e z;go_wp2_with fail;refine sg (KA v f i (p.fr (g.step m)).g0) ?_;rintro k a3 ⟨rfl,b⟩;have n:=(m.step b);go_wp2_with fail;refine sg (EI v 0 d a3 (p.fr (g.step n)).g0 (b.hs X)) ?_;rintro k b9 ⟨rfl,G,b⟩;have b4:=bx G;have o:=(n.keep b (λA a=>a▸R.2));go_wp2_with (refine aU Y 36 (.tmp 8) (.tmp 47) Y Y Y (a0.1 _ o) Y my oC ?_;intro a8 y x);exact aO (bO Y _ _ _ B 36 _ (0,0) _ Y y Y underlying36 my) Y (BG (.inl Y) b3 ((g.step o).keep x (λA a=>a▸W.1)))
  ·
   go_upto_region 6 with fail;refine cT (λi c=> ?_);obtain⟨f,e⟩:=M h.heap.size;obtain⟨d,z⟩:=M (f+1);rw[show h.heap.size+1=d by omega,<-e];have a5:=uV c e;have X:N (aY i d #[aI] 29):=Z (by rw[c];exact bM sO);have m:=(l.1.step (lq c));have R:(u.heap.size<=f/\u.heap.size<=d):=(by have b5:=l.1.size;omega);clear c e z;go_wp2_with fail;refine sg (Rp c0 v 0 0 f i (p.fr (g.step m)).g0 a5.1) ?_;rintro k b9 ⟨rfl,G,b⟩;have b4:=bx G;have r:=dh G;have o:=(m.keep b (λA a=>a▸R.1));go_wp2_with (refine aU Y 36 (.tmp 8) (.tmp 41) Y Y Y (a0.1 _ o) Y my oC ?_;intro a8 y x);exact aO (bO Y _ _ _ B 36 _ (0,0) _ Y y Y underlying36 my) Y (BG (.inr Y) b3 ((g.step o).keep x (λA a=>a▸W.1)))
 have a9:=l;go_wp2_with fail;refine sg (b2.1 a7 _ h (p.fr (g.step a9.1)).gl d1) ?_;rintro k d5 ⟨r,rfl,d4,b⟩;have l:=(a9.1.keep b (λA a=>a▸d0));obtain⟨d9,rfl⟩:=M h;obtain⟨h,rfl⟩:=M d5;rcases d4 with⟨rfl,d8,d2,c7⟩|⟨v,c2,rfl,c9⟩
 .go_upto_region 6 with fail
  refine cT (λi c=> ?_);obtain⟨f,e⟩:=M h.heap.size;obtain⟨d,z⟩:=M (f+1);rw[show h.heap.size+1=d by omega,<-e];have a6:=lq c;obtain⟨Q,-,k,C,c3,c8,rfl⟩:=d2;clear c e z;go_wp2_with (first|(refine sB Y (.tmp 30) Y Y (a6.hs c3) ?_)|(go_at_call 13;refine stop ?_));refine sg (Hm k C i (c8.fr a6) (by have:=Q.tl;show C.tree.length<=_;have a:(dB k C).tree=C.tree:=Y;rw[a] at this;omega) Q.tcy (by have:=Q.ord;have a:(dB k C).ord=C.ord:=Y;rw[a] at this;omega)) ?_;rintro a a3 ⟨a2,a7,a9,C,s,b1,U,t,b2,a1,r,⟨b0,K⟩,rfl,d3,b⟩;have n:=((l.step a6).step b);go_wp2_with (refine aU Y 36 (.tmp 8) (.tmp 32) Y Y Y (a0.1 _ n) Y my oC ?_;intro a8 y x);refine aO (bO Y _ _ _ B 36 _ (0,0) _ Y y Y underlying36 my) Y ⟨_,_,_,_,_,_,_,_,_,_,_,_,_,_,_,_,_,Y,⟨Q.BI.2.2.1,Q.BI.2.2.2,λV=> ?_⟩,(g.step n).keep x (λA a=>a▸W.1)⟩;obtain⟨w,D,F⟩:=(λa=>by rw[a4.1] at a;exact Qc a (c7 a.2.2.2)) V;exact⟨w,D,(d3 w).trans F⟩
 go_upto_region 6 with fail;refine cT (λi c=> ?_);obtain⟨f,e⟩:=M h.heap.size;obtain⟨d,z⟩:=M (f+1);rw[show h.heap.size+1=d by omega,<-e];have a5:=uV c e;have X:(aY i d #[aI] 29):=(by rw[c];exact bM sO);have m:=(l.step (lq c));have R:(u.heap.size<=f/\u.heap.size<=d):=(by have b5:=l.size;omega);clear c e z;go_wp2_with fail;refine sg (KA v f i (p.fr (g.step m)).g0) ?_;rintro k a3 ⟨rfl,b⟩;have n:=(m.step b);go_wp2_with fail;refine sg (EI v 0 d a3 (p.fr (g.step n)).g0 (b.hs X)) ?_;rintro k b9 ⟨rfl,G,b⟩;have b4:=bx G;have o:=(n.keep b (λA a=>a▸R.2));go_wp2_with (refine aU Y 36 (.tmp 8) (.tmp 47) Y Y Y (a0.1 _ o) Y my oC ?_;intro a8 y x);exact aO (bO Y _ _ _ B 36 _ (0,0) _ Y y Y underlying36 my) Y (BG (.inl Y) (λa=>by rw[a4.1] at a;exact c9 a.2.2.1 a.2.2.2) ((g.step o).keep x (λA a=>a▸W.1)))
theorem xU:(prog.info? 26).map (·.size)=S 8:=kR
theorem DG(k:Hs)(m:Prop)(e PS:ν)(b l f g h i:T)(r:N (∀a,Gr a->aQ 7 #[.string e,I b,.agg #[I l,I f,I g,I h,I i],.string PS] a (LF k b m a)))(a:ε)(p:Gr a):
  aQ 6 #[.agg #[.string e,I b,I l,I f,I g,I h,I i,.string PS]] a (LF k b m a):=by
 delta aQ;go_in
 go_upto_region 1 with fail;refine cT (λm c=> ?_);obtain⟨o,k⟩:=M a.heap.size;obtain⟨d,u⟩:=M (o+1);rw[show a.heap.size+1=d by omega,<-k];have n:=lq c;have e:N (aY m o #[.string e,I b,I l,I f,I g,I h,I i,.string PS] 26):=Z (by rw[c];exact aC (bM k) _);have t:N (∀b,Fr j m b->aY b d z36 36):=Fr.all (by rw[c];exact bM sO);have s:a.heap.size<=d:=O;obtain⟨a,b,e,f,g,h,i,l,-⟩:=pc8 e.1;clear c k u;go_wp2_with fail;refine sg (r.1 m (p.fr n)) ?_;rintro B A ⟨z,l,m,g,o,p,r,f,b,x,i,e,y,k,a,w,h,rfl,v,c⟩;go_wp2_with (refine aU Y 36 (.tmp 2) (.tmp 11) Y Y Y (t.1 _ c) Y my oC ?_;intro a a u);exact aO (bO Y _ _ _ d 36 _ (0,0) _ Y a Y underlying36 my) Y ⟨_,_,_,_,_,_,_,_,_,_,_,_,_,_,_,_,_,Y,v,(n.step c).keep u (λb a=>a▸s)⟩
def SMR(c P:ν)(e:ε)(d:Ending)(b:ε):Prop:=∃a,d=.returned (.bool a)/\(a=γ->c.size<=1500/\P.size<=600)/\Fr j e b
theorem yx(a PS:ν)(r p k l m n g:T)(d:ε):
  aQ 5 #[.agg #[.string a,I r,I p,I k,I l,I m,I n,.string PS],I g] d (SMR a PS d):=by
 delta aQ;go_in
 go_upto_region 1 with fail;refine cT (λs e=> ?_);obtain⟨k,d⟩:=M d.heap.size;rw[<-d];have b:=cY e;have c:=yY e d;have k:=bx (c.1 _ rF);have k:=Ep (c.1 _ rF);clear e d;by_cases d:1500<a.size
 .have d:decide ((1500:T)<(a.size:T))=γ:=sO
  go_wp2;go_ret;exact⟨_,Y,λe=>(by cases e),b⟩
 have d:decide ((1500:T)<(a.size:T))=δ:=sO;by_cases d:600<PS.size
 .have d:decide ((600:T)<(PS.size:T))=γ:=sO
  go_wp2;go_ret;exact⟨_,Y,λe=>(by cases e),b⟩
 have d:decide ((600:T)<(PS.size:T))=δ:=sO;go_wp2_with fail;refine sg (MF a 5 6 s O) ?_;rintro a t ⟨⟨i,rfl⟩,f⟩;have a:=Ep (c.1 _ f);have h:=(b.step f);go_wp2_with fail;refine sg (Hf PS g t O) ?_;rintro c b ⟨⟨a,rfl⟩,o⟩;have e:=(h.step o);cases i
 .go_wp2
  go_ret;exact⟨_,Y,λa=>⟨O,O⟩,e⟩
 go_wp2;go_ret;exact⟨_,Y,λa=>⟨O,O⟩,e⟩
theorem OD:AWK (kh awL).2.2 (kh awL).1 1 2147483647 2147483647 2147483647 2147483647 2147483647 (gG [3,9]) (om [3,9]):=by
 rw[EB];exact⟨⟨Y,Y,Y⟩,⟨Y,Y,Y,Y,Y⟩,by decide+kernel,by decide+kernel⟩
theorem Jc(a:ε)(b:Gr a):dr 4 #[] a (.bool γ):=by
 delta dr aQ;go_in
 go_wp2_with fail;refine sg (Ud a) ?_;rintro i d ⟨rfl,e⟩;go_wp2_with fail;refine sg (AH _ _ 1 2147483647 2147483647 2147483647 2147483647 2147483647 d (b.fr e) (by decide+kernel) (by decide+kernel)) ?_;rintro z h ⟨y,p,r,l,s,t,u,k,d,w,n,i,x,o,b,v,m,rfl,⟨-,-,c⟩,g⟩;obtain⟨rfl,rfl,rfl⟩:=c OD;go_upto_region 2 with fail;refine cT (λi d=> ?_);obtain⟨b,c⟩:=M h.heap.size;rw[<-c];have b:=dL d c;have f:Fr j a i:=((e.step g).step (by rw[d];exact cZ));have a:=bx b.1;have a:=iT b.1;have a:=IS b.1;clear d c;go_wp2;go_ret;exact⟨Y,f⟩
theorem Ho(a g h:ν)(m f b c d e:Int)(i:ε)(r:Gr i):
  dr 3 #[.agg #[.string a,I m,I f,I b,I c,I d,I e,.string g],.string h] i (.bool γ):=by
 delta dr aQ;go_in
 go_upto_region 1 with fail;refine cT (λz m=> ?_);obtain⟨k,l⟩:=M i.heap.size;rw[<-l];have s:=cY m;have x:=dL m l;have F:i.heap.size<=k:=O;clear m l;go_wp2_with fail;refine sg (Jc z (r.fr s)) ?_;rintro z m ⟨rfl,l⟩;have z:=(s.step l);have l:=(l.hs x.1);have m:=dh l;have m:=aG l 1;go_upto_region 5 with fail;refine cT (λx m=> ?_);have s:(aY x k #[.string a,aI,I f,I b,I c,I d,I e,.string g] 26):=(by rw[m];exact aD l 1 aI);have z:Fr j i x:=(z.keep (T:=λl=>l=k) (by rw[m];exact rF.aK _ _) (λn l=>l▸F));clear m;obtain⟨m,n⟩:=M x.heap.size;go_upto_region 6 with(first|(refine bU Y 26 (.tmp 2) Y Y s underlying26 Y xU ?_));refine cT (λG o=> ?_);rw[<-n];have F:=cY o;have l:=dL o n;have x:(i.heap.size<=m/\k≠m):=⟨oB z.size,λi=>by
  have:=(fJ.1 s).1;omega⟩
 have i:=dh l.1;have i:=Ep l.1;have i:=λi=>aG l.1 i;clear o n;go_upto_region 8 with fail;refine cT (λi n=> ?_);have G:bT m G i:=by rw[n];exact(rF.aK _ _).aK _ _
 have B:N (∀o,Fr j i o->aY o m #[.string a,I 1,I f,I b,I c,I d,I e,.string h] 26):=Fr.all (by rw[n];exact aD (aD l.1 1 (I 1)) 7 (.string h));have A:N (∀l,Fr j i l->aY l k #[.string a,aI,I f,I b,I c,I d,I e,.string g] 26):=Fr.all (G.aB (F.hs s) x.2);have o:=((z.step F).keep G (λl k=>k▸x.1));clear n;go_wp2_with (first|(refine bU Y 26 (.tmp 2) Y Y (A.1 _ rF) underlying26 Y xU ?_)|(go_at_call 5;refine stop ?_));refine sg (yx a g 0 f b c d e 300 i) ?_;rintro i a1 ⟨U,rfl,K,C⟩;go_wp2_with (first|(refine bU Y 26 (.tmp 6) Y Y (B.1 _ C) underlying26 Y xU ?_)|(go_at_call 5;refine stop ?_));refine sg (yx a h 1 f b c d e 300 a1) ?_;rintro i a2 ⟨V,rfl,X,W⟩;have t:=(C.step W);have p:=(o.step t);cases U with
 |false=>
  go_wp2;go_ret;exact⟨Y,p⟩
 |true=>
 cases V with
 |false=>
  go_wp2;go_ret;exact⟨Y,p⟩
 |true=>
 have SM:(a.size<=1500/\g.size<=600/\h.size<=600):=⟨(K Y).1,(K Y).2,(X Y).2⟩;obtain⟨l,k⟩:=M ((kh a.data.toList).1);have i:(∃m,∀i,Gr i->aQ 6 #[.agg #[.string a,aI,I f,I b,I c,I d,I e,.string g]] i (LF l 0 m i)):=⟨_,λi n=>k▸DG _ _ a g 0 f b c d e (Z λm s=>AH a g 0 f b c d e m s SM.1 SM.2.1) i n⟩;have a:(∃m,∀g,Gr g->aQ 6 #[.agg #[.string a,I 1,I f,I b,I c,I d,I e,.string h]] g (LF l 1 m g)):=⟨_,λg m=>k▸DG _ _ a h 1 f b c d e (Z λl n=>AH a h 1 f b c d e l n SM.1 SM.2.2) g m⟩;clear k;obtain⟨c,b⟩:=i;obtain⟨a,RB⟩:=a;have P:=Z RB;go_wp2_with (first|(refine bU Y 26 (.tmp 2) Y Y (A.1 _ t) underlying26 Y xU ?_)|(go_at_call 6;refine stop ?_));refine sg (b a2 (r.fr p)) ?_;rintro A a3 ⟨n,i,k,e,l,m,p,d,b,x,g,c,z,h,a,s,f,rfl,⟨v,-,-⟩,u⟩;have f:=(t.step u);have Q:=Z v;clear u v;obtain⟨g,a⟩:=M a3.heap.size;go_upto_region 13 with fail;refine cT (λe b=> ?_);rw[<-a];have d:=cY b;have R:N (∀c,Fr j e c->c.cell? (H g 0)=S (I n)):=Z (λg c=>c.aF (by rw[b];exact aj (bM a) 0) id);have u:=(f.step d);clear d b a;go_wp2_with (first|(refine bU Y 26 (.tmp 6) Y Y (B.1 _ u) underlying26 Y xU ?_)|(go_at_call 6;refine stop ?_));refine sg (P.1 e (r.fr (o.step u))) ?_;rintro x a0 ⟨w,i,k,a,l,m,p,c,d,s,g,e,t,h,b,r,f,rfl,⟨-,v,-⟩,D⟩;have d:=Z v;clear v;obtain⟨e,b⟩:=M a0.heap.size;go_upto_region 14 with fail;refine cT (λf c=> ?_);rw[<-b];have a:=cY c;have e:f.cell? (H e 0)=S (I w):=by rw[c];exact aj (bM b) 0
 have e:=R.1 _ (D.step a);have y:=((o.step u).step (D.step a));clear a c b;by_cases v:n=1
 .have a:N (w≠2):=Z (λa=>abi (Q.1 v) (d.1 a))
  have b:(n !=1)=δ:=sU v;have a:(w !=2)=γ:=sU a.1;go_wp2;go_ret;exact⟨Y,y⟩
 have a:(n !=1)=γ:=sU v;go_wp2;go_ret;exact⟨Y,y⟩
namespace topLevels
open Go.ChangeShapes Go.WideShapes Go.ChangeAt Go.RowKit
open Go.ChangeMaps (open_string shut_string)
theorem own:ownKnob prog.godebug=η:=kR
theorem laidOut:laidOutB prog=γ:=kR
def zy:L (String×DataW Unit):=[("math/bits.deBruijn64tab",Rows.laid_math_bits_deBruijn64tab),("unicode/utf8.acceptRanges",Rows.laid_unicode_utf8_acceptRanges),("errors.errorType",Rows.laid_errors_errorType),("inquest/event.words",Rows.laid_inquest_event_words),("unicode/utf8.first",Rows.laid_unicode_utf8_first)]
def yI:L (String×DataW Unit):=[("math/bits.deBruijn64tab",Rows.laid_math_bits_deBruijn64tab),("unicode/utf8.acceptRanges",Rows.laid_unicode_utf8_acceptRanges),("inquest/event.words",Rows.laid_inquest_event_words),("unicode/utf8.first",Rows.laid_unicode_utf8_first)]
noncomputable def hw(a:Os):ε:=
 let a:=ε.holding prog a ⟨#[],#[],[]⟩
 {a with heap:=a.heap.modify 0 λ
   |.cells _ b a=>.cells #[.iface 148 (.agg #[.pointer (S ⟨6,45,η⟩)])] b a
   |o=>o}
noncomputable def lw(a:Os):ε:=(hw a).layVars prog yI
theorem acM(a:Os):(lw a).os=a:=ε.layVars_os _ _ _
theorem aby(b:Os):laidMet prog yI (lw b):=by
 have a:(yI.filter λc=>(yI.map (·.1)).contains c.1)=yI:=L.filter_eq_self.2 λd c=>jW.2 (dE.2 ⟨d,c,Y⟩);have c:(yI.filter λd=>!(yI.map (·.1)).contains d.1)=[]:=vD.2 λe d=>by rw[jW.2 (dE.2 ⟨e,d,Y⟩)];simp
 exact laidMet_layVars (w0:=hw b) (yI.map (·.1)) [] (by rw[a];rfl) (by rw[a];kernel_rfl) (by rw[a];kernel_rfl) (by rw[c];exact LaidIn.none)
theorem abn(a:Os)(b:θ ζ):laidMetH prog zy ((lw a).forCall (λ_ _=>0) ⟨#[],b,[]⟩).memory:=by
 refine laidMetH_of_parts ?_ kR;have b:(zy.filter λb=>b.2.handleName?.isNone)=yI:=kR;rw[b];exact(aby a).of_heap (by simp[ε.memory,ε.forCall,Input.heap])
theorem et:prog.globalNamed "errors.errorType"=S 0:=kR
theorem rt:(prog.cutTypes.find? (·.1=="internal/reflectlite.rtype")).map (·.2)=S 148:=kR
theorem aaK:((L.range prog.types.size).filter λa=>prog.rowNamed a [101,114,114,111,114])=[45]:=kR
theorem adv:typeHandle prog 45=.pointer (S ⟨6,45,η⟩):=kR
theorem acE(p:laidMetH prog zy W)(o:W.ShapedOpen prog):Gr W:=by
 have p:laidMet prog yI W/\handlesMet prog [("errors.errorType",Rows.laid_errors_errorType)] W:=p;obtain⟨⟨b4,⟨a4,b8,k,a1,b1,b5,m,G,K,C,⟨a5,b9,a0,a2,b2,b6,a8,a9,b0,a7,⟨a6,c0,r,a3,b3,b7,f,F,P,D,_,_⟩,_⟩,_⟩,_,_⟩,p⟩:=p;refine⟨?_,⟨?_,?_⟩,⟨?_⟩⟩
 .obtain⟨p,t,s,g,h,i,l,d⟩:=p _ (cX.2 Y)
  have n:p=[101,114,114,111,114]:=(cI g).symm;subst n;obtain rfl:=cI (rt.symm.trans h);have e:s∈(L.range prog.types.size).filter λg=>prog.rowNamed g [101,114,114,111,114]:=L.mem_filter.2 ⟨eC.2 i,l⟩;rw[aaK] at e;obtain rfl:=cX.1 e;rw[adv] at d;simpa using ε.var?_cell et d 0
 .exact cell_of_shapedOpen_int (zero:=#[.int .i64 0]) (t:=3) o (re kR) kR Y kR kR underlying3
 .obtain rfl:=cI ((show prog.globalNamed "inquest/event.words"=S 1 by kernel_rfl).symm.trans f)
  obtain rfl:=cI ((show(prog.globals[1]?).map (·.type)=S 242 by kernel_rfl).symm.trans F);obtain⟨e,l,o,-⟩:=o.1 1 #[.string ⟨#[]⟩,.string ⟨#[]⟩,.string ⟨#[]⟩,.string ⟨#[]⟩,.string ⟨#[]⟩] 242 (re kR) kR;have ec:e=r:=by
   have:=P;simp only[ε.var?,f,ι.bind_some,l,fZ] at this;exact this
  subst ec;obtain⟨o,f,_,r,n,F,D⟩:=DataW.trod_array underlying242 D;have p:prog.cellsOf 9=1:=kR;have f:prog.cellsOf 242=5:=kR;rw[f] at n;have p:∀d(g:DataW Unit×L MemPlace),o[d]? =S g->d<5->∃f:ν,e.toList[d]? =S (.string f)/\g.1=.lit (.string f.data.toList):=by
   (intro f h g d;have d:=D f O;rw[p,gA,g] at d;obtain⟨d,g,h,_⟩:=DataW.trod_string underlying9 d;refine⟨d,?_,by rw[h]⟩;have i:((e.toList.drop f).take 1)[0]? =S (.string d):=by rw[g];rfl);simpa using i
  have B:e=#[.string ⟨#[98,101,103,105,110]⟩,.string ⟨#[114,101,97,100]⟩,.string ⟨#[119,114,105,116,101]⟩,.string ⟨#[99,111,109,109,105,116]⟩,.string ⟨#[97,98,111,114,116]⟩]:=by
   have f:=(DataW.agg.inj (Prod.mk.inj r).1).symm
   match o,F,f,p with
   |[x0,x1,x2,x3,x4],_,d,f=>
    simp only[jC,nu,iY,gT] at d;obtain⟨s0,Q,t⟩:=f 0 x0 Y O;obtain⟨s1,R,u⟩:=f 1 x1 Y O;obtain⟨s2,U,v⟩:=f 2 x2 Y O;obtain⟨s3,V,w⟩:=f 3 x3 Y O;obtain⟨s4,X,x⟩:=f 4 x4 Y O;have g:∀(h:ν)(f:L μ)(o:DataW Unit),o=.lit (.string f)->o=.lit (.string h.data.toList)->h=⟨⟨f⟩⟩:=λy o p f h=>by
     rw[f] at h;simp only[DataW.lit.injEq,Lit.string.injEq] at h;cases y with
     |mk s=>cases s with
      |mk f=>simp only at h;rw[h]
    have i:=g s0 _ _ d.1 t;have s:=g s1 _ _ d.2.1 u;have y:=g s2 _ _ d.2.2.1 v;have z:=g s3 _ _ d.2.2.2.1 w;have A:=g s4 _ _ d.2.2.2.2 x;cases e with
    |mk d=>
     match d,n,Q,R,U,V,X with
     |[a,b,c,n,o],_,d,e,f,g,h=>
      simp at d e f g h;rw[d,e,f,g,h,i,s,y,z,A]
  unfold aY;rw[l,B]
 intro d e;obtain rfl:=cI ((show prog.globalNamed "math/bits.deBruijn64tab"=S 5 by kernel_rfl).symm.trans m);obtain rfl:=cI ((show(prog.globals[5]?).map (·.type)=S 476 by kernel_rfl).symm.trans G);have e:Rows.laid_math_bits_deBruijn64tab (H:=Unit)=Lib.tabData .u8 (Lib.deBruijn64tab.map T.ofNat):=kR;have ec:=Lib.cells_of_tab underlying476 underlying5 kR kR (e▸C);rw[ε.var?_cell m K d];have:k[d]? =k.toList[d]? :=sI;rw[this,ec,fN,fN];have d:Lib.deBruijn64tab.length=64:=kR;rw[cF O,L.getD,cF O];rfl
theorem rih{l:Type}{e:TypeId×ζ->l}{m:Assume}{C:Checked}{i:Os}{g:FuncId}{b:Func}{f:ChangeSpec}{o:L PathCond}{d r s n:κ}{X:ε->θ ζ->Prop}
  (z:∀(h a:ε)(c:θ ζ),h.heap=a.heap->X h c->X a c)(own:ownKnob C.prog.godebug=η)(K:i.Started)(G:C.prog.inits.idxOf? g=η)(A:C.prog.funcs[g]? =S b)
  (P:∃(c:ε)(h:Tape)(a:Input),c.os=i/\(c.forCall h a).Shaped C.prog/\a.vars=[]/\Input.okWide C.prog (c.forCall h a) .any c.heap.size g a/\
   ((f.pre e C.prog b o d (c.forCall h a).memory a.args/\X (c.forCall h a).memory a.args)/\sizedMet e C.prog b (OpenSpec.ofChange f) d (c.forCall h a).memory a.args)/\m.holds C.prog (lone (Frame.enter C.prog g a.args .normal) [] (c.forCall h a)))
  (w:∀(a:ε)(u:E)(h:θ ζ)(x y:L (DataW l))(v:L MemPlace),(∀(k:E) t c,b.params[k]? =S t->h[k]? =S c->ζ.okWide C.prog a .any u t c)->
   DataW.Whole e C.prog b.params.toList f.vars d a h.toList x y v->X a h->a.ShapedOpen C.prog->Calls C.prog g h a λp k=>∃c,p=.returned c/\f.post e C.prog b d r s n a h c k):
  ReturnsInHanded m C i g .any (λg a=>(f.pre e C.prog b o d g a/\X g a)/\sizedMet e C.prog b (OpenSpec.ofChange f) d g a) (f.post e C.prog b d r s n):=by
 refine returnsInHanded_of_calls own K G P ?_;intro h u a _ D _ b B d;obtain⟨_,_,_,b,v,_,_,_,_,F⟩:=b;obtain rfl:=cI (v.symm.trans A);obtain⟨⟨⟨d,e,b,hw,g⟩,f⟩,i⟩:=B;refine(w (h.forCall u a) h.heap.size a.args d e b F (DataW.Whole.of_heap (w':=h.forCall u a) fX hw) (z _ _ _ fX f) D).mono λp k ⟨c,x,y⟩=> ?_;subst x;exact ChangeSpec.post_blind y
section
variable {H:Type} {enc:TypeId×ζ->H} {W:ε}
theorem mX{c:E}{a:L ζ}{d:DataW H×L MemPlace}(b:DataW.trod enc prog W 0 (λ_=>γ) γ c 3 a=S d):∃c,a=[.int .i64 c]:=by
 obtain⟨b,a,_,_⟩:=DataW.trod_int underlying3 b;exact⟨b,a⟩
theorem DH{c:E}{a:L ζ}{d:DataW H×L MemPlace}(b:DataW.trod enc prog W 0 (λ_=>γ) γ c 9 a=S d):∃c,a=[.string c]:=by
 obtain⟨b,a,_,_⟩:=DataW.trod_string underlying9 b;exact⟨b,a⟩
theorem Ou{a:E}{b:L ζ}{c:DataW H×L MemPlace}(f:DataW.trod enc prog W 0 (λ_=>γ) γ a 22 b=S c):∃a c d e,b=[.int .i64 a,.int .i64 c,.int .i64 d,.int .i64 e]:=by
 obtain⟨f,e,_,_,c,d,a⟩:=DataW.trod_array underlying22 f;rw[show prog.cellsOf 22=4 by kernel_rfl] at c;rw[show prog.cellsOf 3=1 by kernel_rfl] at a
 match b,c with
 |[u0,u1,u2,u3],_=>
  have b:=a 0 O;have c:=a 1 O;have d:=a 2 O;have a:=a 3 O;rw[cF O] at b c d a;obtain⟨e,b⟩:=mX b;obtain⟨f,c⟩:=mX c;obtain⟨g,d⟩:=mX d;obtain⟨h,a⟩:=mX a;simp at b c d a;exact⟨e,f,g,h,by rw[b,c,d,a]⟩
theorem UD{a:E}{d:L ζ}{b:DataW H×L MemPlace}(f:DataW.trod enc prog W 0 (λ_=>γ) γ a 24 d=S b):∃h a b c e,d=[.int .i64 h,.int .i64 a,.int .i64 b,.int .i64 c,.int .i64 e]:=by
 obtain⟨m,n,l,_,i,g,k⟩:=trod_struct2 underlying24 f;obtain⟨h,f⟩:=mX g;obtain⟨a,b,c,e,g⟩:=Ou k;rw[show prog.cellsOf 24=5 by kernel_rfl] at i;have l:prog.cellsOf 3=1:=kR;have k:prog.cellsOf 22=4:=kR;simp only[l,k] at f g
 match d,i with
 |[u0,u1,u2,u3,u4],_=>
  simp at f g;exact⟨h,a,b,c,e,by simp[f,g]⟩
theorem UC{e:Reach}{b:E}{a:ζ}{c:DataW H}{d:L MemPlace}(h:ζ.okWide prog W e b 26 a)(g:DataW.Trod enc prog W 0 (λ_=>γ) γ 26 a c d):
  ∃b k i c d e f P,a=.agg #[.string b,.int .i64 k,.int .i64 i,.int .i64 c,.int .i64 d,.int .i64 e,.int .i64 f,.string P]:=by
 obtain⟨f,rfl,i⟩:=okWide_struct underlying26 h;obtain⟨b,a⟩:=g;obtain⟨e,h,i,k,b,_,g,a,c,d,n⟩:=Go.Joins.trod_struct4 underlying26 a;obtain⟨b,k⟩:=DH a;obtain⟨i,l⟩:=mX c;obtain⟨h,c,d,e,a,m⟩:=UD d;obtain⟨P,n⟩:=DH n;rw[show prog.cellsOf 26=8 by kernel_rfl] at g;refine⟨b,i,h,c,d,e,a,P,?_⟩;have p:prog.cellsOf 3=1:=kR;have r:prog.cellsOf 9=1:=kR;have o:prog.cellsOf 24=5:=kR;have g:f.toList=[.string b,.int .i64 i,.int .i64 h,.int .i64 c,.int .i64 d,.int .i64 e,.int .i64 a,.string P]:=by
  simp only[ζ.cells,p,r,o] at k l m n g;generalize f.toList=o at*
  match o,g,k,l,m,n with
  |[c0,c1,c2,n,c4,c5,c6,c7],_,g,k,l,m=>
   simp at g k l m;simp[g,k,l,m]
 have:f=#[.string b,.int .i64 i,.int .i64 h,.int .i64 c,.int .i64 d,.int .i64 e,.int .i64 a,.string P]:=by
  rw[<-θ.toList_inj,g]
 rw[this]
end
theorem lifted(a:Os)(a3:a.Started)(s:Type)(c:TypeId×ζ->s):
  ReturnsInHanded {} Tryz.checked a 3 .any (λb d=>(Rows.topLevelsSpec.pre c prog Tryz.f3 [] δ b d/\laidMetH prog zy b)/\sizedMet c prog Tryz.f3 (OpenSpec.ofChange Rows.topLevelsSpec) δ b d)
   (Rows.topLevelsSpec.post c prog Tryz.f3 δ γ δ δ):=by
 refine rih (C:=Tryz.checked) (X:=λb _=>laidMetH prog zy b) (λ_ _ _ d b=>b.of_heap d) own a3 kR func3
  (ChangeSpec.witness_shaped (enc:=c) (C:=Tryz.checked) (os:=a) (X:=λb _=>laidMetH prog zy b) δ (lw a) #[.agg #[.string ν.empty,.int .i64 0,.int .i64 0,.int .i64 0,.int .i64 0,.int .i64 0,.int .i64 0,.string ν.empty],.string ν.empty] 8 (acM a) (ε.shaped_of_ZipB kR kR) kR kR kR (abn a _)) ?_
 intro b s d y a3 a l k F P;have f:∀(a:E) t v,Tryz.f3.params[a]? =S t->d[a]? =S v->ζ.okWide prog b .any s t v:=l;have r:=k;obtain⟨W,q,e,G,rfl,a9,b0⟩:=k;have i:DataW.TrodAll c prog b 0 (λ_=>γ) γ Tryz.f3.params.toList d.toList y W:=e;rw[Tryz.params3] at i f;obtain⟨o,b3,a4,a6,X,b1,a8,rfl,rfl,g,a1⟩:=trodAll_cons i;obtain⟨p,b4,a5,a7,a0,b2,rfl,rfl,rfl,h,a2⟩:=trodAll_cons a1;obtain⟨rfl,rfl,rfl⟩:=trodAll_nil a2;obtain rfl:d=#[o,p]:=by cases d;simp_all
 obtain⟨rfl,rfl⟩:=trodVars_none G;have m:=g;have U:∀a∈X,a.block<b.heap.size:=by obtain⟨c,a⟩:=m;exact DataW.trod_lt c _ _ _ a
 have n:=h;have V:∀a∈a0,a.block<b.heap.size:=by obtain⟨c,a⟩:=n;exact DataW.trod_lt c _ _ _ a
 obtain⟨x,R,Q,z,A,B,C,u,rfl⟩:=UC (f 0 26 o Y Y) g;obtain⟨w,rfl,_,_,b5⟩:=open_string underlying9 (f 1 9 p Y Y) h;clear e l;refine(Ho x u w R Q z A B C b (acE F P)).mono λb a ⟨K,l⟩=> ?_;subst K;have e:=l.abz;exact⟨_,Y,_,_,_,[],_,[],r,trodAll_mk1 (shut_bool underlying4 _),(trodAll_cons_mk (Below.trod laidOut kR (re kR) m e U) (trodAll_cons_mk (Below.trod laidOut kR (re kR) n e V) trodAll_mk0)),Y,e.frame _,λD=>by cases D⟩
end topLevels
namespace topLevels
open Go.ChangeShapes Go.WideShapes Go.ChangeAt Go.RowKit
theorem closed:joinedFacts prog 3 Tryz.f3 Rows.topLevelsSpec Rows.topLevelsRow=γ:=by
 unfold joinedFacts;simp only[bA];and_intros;all_goals(as_aux_lemma=>kernel_rfl)
end topLevels
namespace topLevels
open Go.ChangeShapes Go.WideShapes Go.ChangeAt Go.RowKit
open Go.ChangeMaps (open_string shut_string)
theorem over:Rows.TopLevelsSaid:=
 OpenClaim.holds_of_wide 3 Tryz.f3 Y Y Y Y Y Y Y ⟨Y,Y,Y,Y,Y⟩ Y Y Y Y Y (by as_aux_lemma=>kernel_rfl) func3 closed
  (re (by as_aux_lemma=>kernel_rfl)) (by unfold Func.isWrapper;first|(rw[aS (by decide+kernel)];kernel_rfl)|(rw[aR (by decide+kernel)];exact⟨Y,Y⟩))
  (λc d a b _=>lifted c d a b)
theorem proved:Rows.TopLevelsCardSaid:=
 Claim7.holds_tied_plain_at .later [] [.data,.data,.handle,.data,.pinned] γ (γ,"40fa27e7f7c0f0399e200df6705a33c2c3c9c9f2e22527bdaf95c976e860fdb9") γ
  over (λ_ a=>by cases a) (by as_aux_lemma=>kernel_rfl) (λ_ a=>by cases a) topLevels_row_tie Y ⟨Y,Y⟩ (by as_aux_lemma=>kernel_rfl) Y
  (λa b c d=>by
   obtain rfl:a=3:=cI ((show prog.funcNamed "inquest/inquesttop.TopLevels"=S 3 by kernel_rfl).symm.trans c)|>.symm;obtain rfl:b=Tryz.f3:=(cI (func3.symm.trans d)).symm;exact⟨kR,λc a b=>by
    rw[Tryz.params3] at b;have c:a∈[26,9]:=sU (θ.mem_of_getElem? b);have b:([26,9].all λb=>!prog.wantsStandIn b)=γ:=kR;exact(show prog.wantsStandIn a=δ by simpa using fY.1 b a c)⟩)
  (by as_aux_lemma=>kernel_rfl)
end topLevels
end Go.Proofs.YtecdpehmhpleeaaGreatDoor
