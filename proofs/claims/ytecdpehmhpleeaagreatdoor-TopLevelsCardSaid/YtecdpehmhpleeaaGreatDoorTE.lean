/- Part of the proof that TopLevels holds, for any argument and memory that the statement allows. -/
import Derived.Test.YtecdpehmhpleeaaGreatDoorTD
open _root_ renaming rfl->Y,List->L,Nat->E,Int->T,Array->θ,Option->ι,Bool->κ,UInt8->μ,ByteArray->ν
open Option renaming some->S,none->η
open Bool renaming true->γ,false->δ
open Go renaming World->ε,Value->ζ
open Nat renaming reduceEqDiff->ξ
namespace Go.Proofs.YtecdpehmhpleeaaGreatDoor
open Go.RowKit Tryz
set_option linter.unusedVariables false
set_option linter.unusedSimpArgs false
set_option maxRecDepth 100000
set_option maxHeartbeats 16000000
variable{α β:Type}{P:Program}{m q n1 n2 n3 n4 n5:Nat}{W V U w4:World}{x v1 v2 v3 v4:Value}{i1 i2 i3 i4 i5 i6:Int}{t:TypeId}{e p1 p2:List Int}{Q:Exit→Act→World→Prop}{A:Option Addr}{C:World→List Value→α→Prop}{L1:List (List Value)}{X X1:List α}{Y1:List Value}{u u1:List UInt8}{S1:Nat→Prop}{p0 q0:Prop}{R R1:List It}{B D:List Nat}{K:List Ch}{a1 a2:Act}{r1:List Oper}{o1:Array Oper}{o2:Oper}{F:List Fc}{K1:Act→World→Prop}{x1 x2:α}{S2:ByteArray}{x3 x4:iS}{c3:Ch}{f1 f2:Nat×Nat}{m1:List Mk}{e1:List Ev}{N1:List Nd}{e2:Ending}{G:World→Prop}
structure Gw(w:ε):Prop where
 ack:∃m,w.cell? (H 2 0)=S (I m)
 words:aY w 1 #[.string ⟨#[98,101,103,105,110]⟩,.string ⟨#[114,101,97,100]⟩,.string ⟨#[119,114,105,116,101]⟩,.string ⟨#[99,111,109,109,105,116]⟩,.string ⟨#[97,98,111,114,116]⟩] 242
theorem Gw.fr{w a:ε}(c:Gw w)(b:Fr j w a):Gw a:=⟨by obtain⟨d,a⟩:=c.ack;exact⟨d,b.aF a id⟩,b.hs c.words⟩
theorem AG(a:S2.data.toList=[]):S2.toList.isEmpty=γ:=by rw[lO,a];rfl
theorem JG{T:ν}(a:T.data.toList≠[]):T.toList.isEmpty=δ:=by
 rw[lO];cases b:T.data.toList with
 |nil=>exact absurd b a
 |cons _ _=>rfl
def LR(b:L (L μ)×T)(e:ε)(d:Ending)(a:ε):Prop:=∃c,d=.returned (.tuple #[c,I b.2])/\Sl 9 1 CS a c b.1/\Fr j e a
theorem Mg(d:ν)(l:ε)(A:Gw l)(p:d.size<1000000):aQ 66 #[.string d] l (LR (fu d.data.toList) l):=by
 obtain⟨b,f⟩:=M d.data.toList;rw[<-f];by_cases e:b=[]
 .have c:=AG (f.symm.trans e)
  have g:fu b=([],0):=(by simp[fu,e]);clear e f
  delta aQ;go_in
  go_wp2;go_ret2;rw[g];exact⟨_,Y,dJ,rF⟩
 have c:=JG (T:=d) (by rw[<-f];exact e);have HL:=f;by_cases i:b.getLast? =S 10
 .obtain⟨D,C⟩:=A.ack
  clear f
  delta aQ;go_in
  go_wp2_with (first|(go_at_call 100;refine stop ?_)|(go_at_call 101;refine stop ?_));refine sg (xp d 10 l p) ?_;rintro c F ⟨rfl,rfl⟩;have n:decide (d.data.toList.getLast? =S 10)=γ:=by rw[<-HL];simpa using i
  rw[n];clear n;go_wp2_with fail;refine sg (zZ d 10 D _ p C) ?_;rintro c G ⟨A,rfl,w,s⟩;rw[<-HL] at w;obtain⟨t,u,x,m,rfl,v,B,y⟩:=w;obtain⟨r,k⟩:=M ((nL 10 b).length);have w:1<=r:=by rw[k,um];omega
  rw[<-k] at v |-;unfold maxLen at B;obtain⟨a,rfl⟩:∃a,r=a+1:=⟨r-1,O⟩;have h:fF 9 1 CS G t u x (nL 10 b).dropLast/\(nL 10 b).dropLast.length=a/\a<=m/\m<=maxLen:=(by
   (have c:(nL 10 b).dropLast=(nL 10 b).take a:=by rw[L.dropLast_eq_take,<-k];rfl);exact⟨by rw[c];exact y.take a,by rw[L.length_dropLast,<-k];rfl,O,by unfold maxLen;omega⟩)
  have r:IntKind.i64.wrap (((a+1:E):Int)-1)=(a:Int):=by rw[kH _ O];omega
  have w:(0:Int)<=(a:Int):=jD;have r:(a:Int)<=(m:Int):=O;clear y k v;by_cases o:400<a
  .have g:fu b=([],4):=(by unfold fu;rw[aR e,aR (λc=>c i),aS (by rw[h.2.1];exact o)])
   have z:(400:Int)<(a:Int):=O;clear o;go_wp2;go_ret2;rw[g];exact⟨_,Y,dJ,s⟩
  have g:fu b=((nL 10 b).dropLast,0):=(by unfold fu;rw[aR e,aR (λc=>c i),aR (by rw[h.2.1];exact o)]);have z:¬(400:Int)<(a:Int):=O;clear o;go_wp2;go_ret2;rw[g];exact⟨_,Y,⟨t,u,x,m,by rw[h.2.1];rfl,by rw[h.2.1];exact h.2.2.1,h.2.2.2,h.1⟩,s⟩
 have g:fu b=([],2):=(by unfold fu;rw[aR e,aS i]);have n:decide (d.data.toList.getLast? =S 10)=δ:=by rw[<-f];simpa using i
 clear e i f
 delta aQ;go_in
 go_wp2_with (go_at_call 100;refine(xp d 10 l p).mono ?_;rintro c F ⟨rfl,rfl⟩;rw[n]);go_ret2;rw[g];exact⟨_,Y,dJ,rF⟩
structure CV(w:ε)(p q r:E)(v:ζ)(x y:T):Prop where
 ha:aY w p #[v] 116
 hb:aY w q #[I x] 3
 hc:aY w r #[I y] 29
theorem CV.fr{w e:ε}{c q d:E}(b:CV w c q d x i1 i2){S:E->Prop}(a:Fr S w e)(f:¬S c)(g:¬S q)(h:¬S d):CV e c q d x i1 i2:=
 ⟨a.aB b.ha f,a.aB b.hb g,a.aB b.hc h⟩
theorem CV.put{e q b:E}{x a:T}(f:CV W e q b v1 x a)(g:e≠q)(h:e≠b)(i:q≠b)(c:ζ)(d a:T):CV (((W.setCell (H e 0) c).setCell (H q 0) (I d)).setCell (H b 0) (I a)).drew e q b c d a:=by
 have k:=bi (bi (sU (aD f.ha 0 c)) (H _ 0) g (I d)) (H _ 0) h (I a);have g:=bi (sU (aD (bi f.hb (H _ 0) (dX g) c) 0 (I d))) (H _ 0) i (I a);have a:(((W.setCell (H e 0) c).setCell (H q 0) (I d)).setCell (H b 0) (I a)).heap[b]? =S (.cells #[I a] 29 (0,0)):=sU (aD (bi (bi f.hc (H _ 0) (dX h) c) (H _ 0) (dX i) (I d)) 0 (I a));exact⟨k,g,a⟩
theorem Lb{P:Program}{i:Exit->Act->L Frame->ε->Prop}{d cs':L Frame}{id:E}{a:Code}
  (k:o1.toList=o2::r1)(hw:Region.wanted o2 (yielded o1 a1.tmps)=γ)(r:(execOp a1.eval o2).run P W=.ok .recover W)(t:recoverD d=S (x,cs')\/recoverD d=η/\x=.nilIface/\cs'=d)
  (m:wpList P o1 (Exit.then (a.wp P (λb a1 W=>i b a1 cs' W)) (λb a1 W=>i b a1 cs' W)) r1 (a1.put o2.dst x) W):(Code.seq (Code.region id o1 δ) a).wpS P i a1 d W:=by
 have p:o1.size=r1.length+1:=by rw[<-nY,k];rfl
 have i:o1[0]? =S o2:=by rw[<-kp,k];rfl
 have s:L.range o1.size=0::L.range' 1 r1.length:=by rw[L.range_eq_range',p,L.range'_succ]
 rw[<-wpOps_eq_wpList r1 1 (λb=>by rw[<-kp,k,E.add_comm];rfl)] at m;intro b c p k;obtain⟨l,e,h,f,k⟩:=wp_ops _ _ _ m b (.code a::c) cs';have m:∀x,(b.at a1 (.inRegion o1 (0::L.range' 1 r1.length)::.code a::c)).finish x=b.at (a1.put o2.dst x) (.inRegion o1 (L.range' 1 r1.length)::.code a::c):=by
  intro x;rw[Frame.finish_at,i];rfl
 have p:(b.at a1 (.inRegion o1 (0::L.range' 1 r1.length)::.code a::c)).kind=.deferred:=p;have o:=tryRecover_deferred p d;have i:=stepG_op (P:=P) (b:=b) (k:=.code a::c) (cs:=d) (w:=W) (rest:=L.range' 1 r1.length) i hw;have g:Arrives P (lone (b.at a1 (.code (Code.region id o1 δ)::.code a::c)) d W) b (.code a::c) cs' l e h:=by
  refine .of_steps (.one step_region) ?_;rw[s];refine .of_steps (.one (step_lone_go ?_)) k;rw[i,<-m];simp only[Frame.at] at o |-;rcases t with n|⟨n,rfl,rfl⟩<;>simp[stepG.apply,r,o,n]
 cases l with
 |normal=>
  obtain⟨c,b,k,i,d⟩:=f b c cs';exact⟨c,b,cs',k,i,.of_steps (.head step_seq g) d⟩
 |exit id=>exact⟨_,e,cs',h,f,.of_steps (.one step_seq) (.pass (x:=.code a) Y (λ_ _=>.inl sI) g)⟩
 |goto b=>exact⟨_,e,cs',h,f,.of_steps (.one step_seq) (.pass (x:=.code a) Y (λ_ _=>.inl sI) g)⟩
 |ret=>exact⟨_,e,cs',h,f,.of_steps (.one step_seq) (.pass (x:=.code a) Y (λ_ _=>.inl sI) g)⟩
 |panic b=>exact⟨_,e,cs',h,f,.of_steps (.one step_seq) (.pass (x:=.code a) Y (λ_ _=>.inl sI) g)⟩
 |outgrown=>exact⟨_,e,cs',h,f,.of_steps (.one step_seq) (.pass (x:=.code a) Y (λ_ _=>.inl sI) g)⟩
theorem acL(a b:T):∀c:ε,(Instr.typeAssert (.iface 181 (.agg #[I a,I b])) 20 181 γ).run prog c=.ok (.tuple #[.agg #[I a,I b],.bool γ]) c:=λ_=>by kernel_rfl
theorem acj:∀a:ε,(Instr.typeAssert .nilIface 20 181 γ).run prog a=.ok (.tuple #[.agg #[aI,aI],.bool δ]) a:=λ_=>by kernel_rfl
theorem LI(a q b:E)(g:ε)(Q:ζ)(r U d e:T)(i:CV g a q b Q r U)(x:a≠q)(y:a≠b)(z:q≠b):
  CallsD prog 65 #[aP a 0,aP q 0,aP b 0] (.panicking [{v:=wQ d e,recovered:=δ}]) g λl p h=>
   l=.returned (.tuple #[])/\p=.panicking [{v:=wQ d e,recovered:=γ}]/\CV h a q b aV d e/\Fr (λc=>c=a\/c=q\/c=b) g h:=by
 have V:=acL d e;refine callsD_of_wpS func65 Y λv u C=> ?_;unfold wQ at C |-;obtain⟨P,B⟩:∃K:L Frame,K={v with mode:=.panicking [{v:=.iface 181 (.agg #[I d,I e]),recovered:=γ}]}::u:=⟨_,Y⟩;refine Lb (cs':=P) Y Y Y (.inl (by rw[recoverD,C,B])) ?_;simp only[ntmps65,ko,bW,fq,E.reduceAdd,E.reduceSub,lL,lz,lE,lF,eW,im];obtain⟨t,A⟩:∃t:Exit->Act->L Frame->ε->Prop,t=bodyPostS prog Tryz.f65 v u (λl p h=>l=.returned (.tuple #[])/\p=.panicking [{v:=.iface 181 (.agg #[I d,I e]),recovered:=γ}]/\CV h a q b aV d e/\Fr (λc=>c=a\/c=q\/c=b) g h):=⟨_,Y⟩;rw[<-A];go_wp2_with fail;refine cT (λR o=> ?_);obtain⟨m,n⟩:=M g.heap.size;rw[<-n];have LR:(m≠a/\m≠q/\m≠b):=⟨oB (ba i.ha),oB (ba i.hb),oB (ba i.hc)⟩;have w:=cY o;have f:=(i.fr w id id id);have s:=(dL o n).1;have W:=bx s;have X:=dh s;have a0:=bx f.ha;have a1:=bx f.hb;have a2:=bx f.hc;have a9:=aG f.ha 0;have b0:=aG f.hb 0;have b1:=aG f.hc 0;have a6:=LR.1.symm;have a7:=LR.2.1.symm;have a8:=LR.2.2.symm;have a3:=x.symm;have a4:=y.symm;have a5:=z.symm;clear o n;go_region;obtain⟨D,k⟩:=M ((((R.setCell (H a 0) aV).setCell (H q 0) (I d)).setCell (H b 0) (I e)).drew);have G:CV D a q b aV d e:=(by rw[k];exact(f.put x y z _ _ _));have F:Fr (λc=>c=a\/c=q\/c=b) g D:=(by rw[k];exact((((w.mono (λ_ _ r=>r.elim)).setCell (H a 0) (λ_=>.inl Y) _).setCell (H q 0) (λ_=>.inr (.inl Y)) _).setCell (H b 0) (λ_=>.inr (.inr Y)) _).drew);rw[<-k];clear k;go_wp2;rw[A,B];exact⟨Y,_,Y,_,by simp[results,results65],Y,Y,G,F⟩
theorem Ny(d q e:Addr)(b:ε):
  CallsD prog 65 #[.pointer (S d),.pointer (S q),.pointer (S e)] .returning b λd a c=>d=.returned (.tuple #[])/\a=.returning/\Fr j b c:=by
 have d:=acj;refine callsD_of_wpS func65 Y λa c d=> ?_;refine Lb (cs':=a::c) Y Y Y (.inr ⟨by rw[recoverD,d],Y,Y⟩) ?_;simp only[ntmps65,ko,bW,fq,E.reduceAdd,E.reduceSub,lL,lz,lE,lF,eW,im];obtain⟨c,b⟩:=M (bodyPostS prog Tryz.f65 a c (λe c d=>e=.returned (.tuple #[])/\c=.returning/\Fr j b d):Exit->Act->L Frame->ε->Prop);rw[<-b];go_wp2;rw[b];refine⟨Y,.returning,?_,_,by simp[results,results65],Y,Y,cZ⟩;cases a
 simp_all
namespace Num
open Go.RowKit Go.Lib
theorem rL{p:L α->Prop}(c:p [])(d:∀a b,p a->p (a++[b])):∀a,p a:=by
 intro a;rw[<-L.reverse_reverse a];induction a.reverse with
 |nil=>exact c
 |cons b c a=>rw[L.reverse_cons];exact d _ _ a
theorem pX{a:μ}:JL a=γ↔48<=a.toNat/\a.toNat<=57:=by simp[JL]
theorem Bm:val []=0:=Y
theorem Cu(b:L μ)(a:μ):val (b++[a])=10*val b+(a.toNat-48):=by simp[val,mf]
theorem Hy(a b:L μ):val a<=val (a++b):=by
 refine rL (p:=λc=>val a<=val (a++c)) sI (λd a c=> ?_) b;rw[<-dm,Cu];omega
theorem Px(c:L μ):∀b∈dp c,JL b=γ:=by
 induction c with
 |nil=>intro b a;cases a
 |cons g c f=>
  intro b a;unfold dp at a;rw[kB] at a;split at a
  .rename_i d
   rcases cK.1 a with rfl|e
   .exact d
   exact f b e
  cases a
theorem JT{b:L μ}{k:E}(f:∀c a,c<k->b[c]? =S a->JL a=γ)(g:∀a,b[k]? =S a->JL a=δ)(h:k<=b.length):dp b=b.take k:=by
 induction b generalizing k with
 |nil=>simp[dp]
 |cons e b i=>
  cases k with
  |zero=>
   have:=g e Y;unfold dp;rw[kB,this];rfl
  |succ k=>
   have:=i (k:=k) (λc a l d=>f (c+1) a O (sU d)) (λa d=>g a (sU d)) (by simp at h;omega);unfold dp at this |-;rw[kB,(f 0 e O Y)];simp[this]
def Mx:E:=2147483647
def bad(a:L μ):Prop:=a=[]\/1<a.length/\a.head? =S 48
instance(a:L μ):Decidable (bad a):=inferInstanceAs (Decidable (_\/_))
def tD(b:L μ)(a:T):T:=
 if a<0\/(b.length:T)<a then 1 else if bad (dp (b.drop a.toNat)) then 2 else if Mx<val (dp (b.drop a.toNat)) then 3 else 0
def zo(b:L μ)(a:T):T:=if tD b a=0 then(val (dp (b.drop a.toNat)):E) else 0
def BP(b:L μ)(a:T):T:=if tD b a=0 then a+((dp (b.drop a.toNat)).length:E) else 0
theorem Uz{l:L μ}{k:T}(a:k<0\/(l.length:T)<k):tD l k=1/\zo l k=0/\BP l k=0:=by
 have:tD l k=1:=by simp[tD,a]
 simp[zo,BP,this]
theorem RN{l:L μ}{k:E}(a:k<=l.length)(a:bad (dp (l.drop k))):tD l k=2/\zo l k=0/\BP l k=0:=by
 have:tD l k=2:=by unfold tD;rw[aR O,gu,aS a]
 simp[zo,BP,this]
theorem Cp{l:L μ}{k:E}(a:k<=l.length)(a:¬bad (dp (l.drop k)))(b:Mx<val (dp (l.drop k))):tD l k=3/\zo l k=0/\BP l k=0:=by
 have:tD l k=3:=by unfold tD;rw[aR O,gu,aR a,aS b]
 simp[zo,BP,this]
theorem Zw{l:L μ}{k:E}(a:k<=l.length)(a:¬bad (dp (l.drop k)))(b:¬Mx<val (dp (l.drop k))):tD l k=0/\zo l k=(val (dp (l.drop k)):E)/\BP l k=(k:T)+((dp (l.drop k)).length:E):=by
 have:tD l k=0:=by unfold tD;rw[aR O,gu,aR a,aR b]
 simp[zo,BP,this]
theorem IK(a:tD u i1≠0):zo u i1=0/\BP u i1=0:=by simp[zo,BP,a]
def JH(a:L μ):T:=if tD a 0=0/\BP a 0<a.length then 2 else tD a 0
def Ko(a:L μ):T:=if tD a 0=0/\BP a 0<a.length then 0 else zo a 0
theorem MH(a:T)(b:ε)(c:48<=a)(c:a<=57):aQ 194 #[.int .u8 a] b λc a=>c=.returned (.bool γ)/\b=a:=by
 delta aQ;go_in
 go_wp2;go_ret;exact⟨Y,Y⟩
theorem Ql(a:T)(b:ε)(c:a<48\/57<a):aQ 194 #[.int .u8 a] b λd c=>d=.returned (.bool δ)/\b=c:=by
 by_cases b:48<=a
 .have a:¬a<=57:=O
  delta aQ;go_in
  go_wp2;go_ret;exact⟨Y,Y⟩
 delta aQ;go_in
 go_wp2;go_ret;exact⟨Y,Y⟩
theorem Le{a:μ}(b:48<=(a.toNat:T))(b:(a.toNat:T)<=57):JL a=γ:=pX.2 O
theorem Pd{a:μ}(c:(a.toNat:T)<48\/57<(a.toNat:T)):JL a=δ:=by
 cases b:JL a
 .rfl
 have:=pX.1 b;omega
def Zm(d:L μ)(c:E):Prop:=∀b a,b<c->d[b]? =S a->JL a=γ
theorem Zm.step{b:μ}(e:Zm u m)(f:u[m]? =S b)(g:JL b=γ):Zm u (m+1):=λc h b a=>by
 by_cases d:c=m
 .subst d
  rw[f] at a;obtain rfl:=cI a;exact g
 exact e c h O a
theorem Zm.stop{a:μ}(d:Zm u m)(b:u[m]? =S a)(e:JL a=δ):dp u=u.take m:=
 JT d (λa c=>by rw[b] at c;obtain rfl:=cI c;exact e) (oB ((cj.1 b).1))
theorem Zm.all(a:Zm u u.length):dp u=u.take u.length:=JT a (λb a=>by simp at a) eG
theorem wm{a:μ}(b:u[m]? =S a):val (u.take (m+1))=10*val (u.take m)+(a.toNat-48):=by rw[bJ b,Cu]
theorem oR{l:L μ}{j k:E}(a:j<=k):val (l.take j)<=val (l.take k):=by
 have a:l.take k=l.take j++(l.drop j).take (k-j):=by
  rw[show k=j+(k-j) by omega,L.take_add];simp
 rw[a];exact Hy _ _
theorem Te(b:ν)(a:T)(c:ε)(d:a<0\/(b.size:T)<a):
  aQ 150 #[.string b,I a] c λe d=>e=.returned (.tuple #[aI,aI,I 1])/\c=d:=by
 by_cases c:a<0
 .delta aQ;go_in
  go_wp2;exact aO (v:=.tuple #[aI,aI,I 1]) (by simp[results,results150,go_sem]) Y ⟨Y,Y⟩
 have a:(b.size:T)<a:=O
 delta aQ;go_in
 go_wp2;exact aO (v:=.tuple #[aI,aI,I 1]) (by simp[results,results150,go_sem]) Y ⟨Y,Y⟩
def mC(a:L μ)(b:E):ζ:=
 if bad a then .tuple #[aI,aI,I 2] else if Mx<val a then .tuple #[aI,aI,I 3] else .tuple #[I (val a:E),I ((b:T)+(a.length:E)),aI]
theorem kG(b:E)(a:bad u):mC u b=.tuple #[aI,aI,I 2]:=by simp[mC,a]
theorem kM(c:E)(a:¬bad u)(b:Mx<val u):mC u c=.tuple #[aI,aI,I 3]:=by simp[mC,a,b]
theorem tS(a:E)(b:¬bad u)(c:¬Mx<val u):mC u a=.tuple #[I (val u:E),I ((a:T)+(u.length:E)),aI]:=by simp[mC,b,c]
def Gr(b:L μ)(a:E)(d:T)(c:κ):Prop:=
 match c with
 |true=>Mx<val (b.take a)
 |false=>d=(val (b.take a):E)/\(val (b.take a):T)<=2147483647
theorem Gr.ach(a:Gr u m i1 γ):Gr u (m+1) i2 γ:=jd (show Mx<val (u.take m) from a) (oR O)
theorem Wb(z b:ν)(e:E)(R:ε)(a4:z.size<=4611686018427387904)(a4:(e:T)<=z.size)(a5:z.extract e z.size=b):
  aQ 150 #[.string z,I e] R λw a4=>w=.returned (mC (dp b.data.toList) e)/\R=a4:=by
 have a8:b.size+e=z.size:=by rw[<-a5];simp;omega
 have a4:b.size<=4611686018427387904:=O;have a4:(e:T)+b.size<=4611686018427387904:=O;have X:decide (z.size<e)=δ:=sO;have z:decide ((e:T)<0)=δ:=sI
 delta aQ;go_in
 go_wp2_with fail;go_loopg [8,9,10,25] b.size (λgk s8 s9 s10 z wr=>∃(a:E)(h:T)(x:κ),a+gk=b.size/\s8=I h/\s9=I a/\s10=.bool x/\z=I a/\Zm b.data.toList a/\Gr b.data.toList a h x/\R=wr)
 .exact⟨0,0,δ,du,Y,Y,Y,Y,λR l z=>by omega,⟨Y,by simp[Bm]⟩,Y⟩
 case round=>
  obtain⟨a,h,x,a9,rfl,rfl,rfl,rfl,a6,a7,rfl⟩:=hrel;have⟨Q,m⟩:=bD a6 a7;have z:a<=b.size:=O;by_cases z:a<b.size
  .have R:(0:T)<=(a:T):=jD
   have a4:(a:T)<b.size:=O;have P:=BL b a z;obtain⟨l,z⟩:=M (b[a]:μ);rw[<-z] at P;have R:=z.symm;clear z;by_cases R:48<=(l.toNat:T)/\(l.toNat:T)<=57
   .obtain⟨z,X⟩:=R
    (have HS:=(Q.1.step P (Le z X));have z:¬(l.toNat:T)<48:=O;have z:¬57<(l.toNat:T):=O;have z:IntKind.u8.wrap ((l.toNat:T)-48)=(l.toNat:T)-48:=by unfold IntKind.wrap;simp[IntKind.bits,IntKind.signed];omega);cases k:x with
    |true=>
     have c:=m.1;rw[k] at c;go_wp2;go_roundg (gk-1)
     .exact⟨a+1,h,γ,O,Y,by go_num,Y,by go_num,HS,c.ach,Y⟩
     omega
    |false=>
     (have c:=m.1;rw[k] at c;have z:h<=2147483647:=by rw[c.1];exact c.2);(have z:0<=h:=by rw[c.1];exact jD);(obtain⟨G,K⟩:=M (10*h+((l.toNat:T)-48):T);have z:=K.symm;have a1:(val (b.data.toList.take (a+1)):T)=G:=by rw[wm P,K,c.1];omega);by_cases z:2147483647<G
     .clear K
      go_wp2;go_roundg (gk-1)
      .exact⟨a+1,G,γ,O,by go_num,by go_num,Y,by go_num,HS,(by show Mx<_;have:=a1;unfold Mx;omega),Y⟩
      omega
     have a3:(Gr b.data.toList (a+1) G δ):=⟨a1.symm,O⟩;clear K;go_wp2;go_roundg (gk-1)
     .exact⟨a+1,G,δ,O,by go_num,by go_num,Y,by go_num,HS,a3,Y⟩
     omega
   have U:=Z (Q.1.stop P (Pd O));by_cases z:(l.toNat:T)<48
   .have f:=U
    (have y:(b.data.toList.take a).length=a:=by rw[cV,iF];omega);have i:=Z y;by_cases u:a=0
    .subst u
     have d:N (mC (dp b.data.toList) e=.tuple #[aI,aI,I 2]):=Z (kG _ (by rw[f.1];exact .inl Y));go_wp2;refine aO (v:=.tuple #[aI,aI,I 2]) (by simp[results,results150,go_sem]) Y ?_;rw[d.1];exact⟨Y,Y⟩
    have a0:((a:T)==0)=δ:=sO;have F:0<b.size:=O;have a2:(0:T)<b.size:=O;have v:=BL b 0 F;obtain⟨g,t⟩:=M (b[0]:μ);have A:=t.symm;have n:N ((b.data.toList.take a).head? =S g):=Z (by rw[L.head?_take,aR u,vM,v,A]);clear v t;by_cases s:1<a/\(g.toNat:T)=48
    .obtain⟨C,V⟩:=s
     have d:N (mC (dp b.data.toList) e=.tuple #[aI,aI,I 2]):=Z (kG _ (by
      rw[f.1];refine .inr ⟨by rw[i.1];exact C,?_⟩;rw[n.1];congr 1;exact pE.1 (by simpa using (by omega:g.toNat=48))))
     have W:(1:T)<(a:T):=O;go_wp2;refine aO (v:=.tuple #[aI,aI,I 2]) (by simp[results,results150,go_sem]) Y ?_;rw[d.1];exact⟨Y,Y⟩
    have o:N (¬bad (dp b.data.toList)):=Z (by
     rw[f.1];rintro(w|⟨p,r⟩)
     .have:=i.1;rw[w] at this;simp at this;omega
     rw[n.1] at r
     have:=cH μ.toNat (cI r);rw[i.1] at p;exact s ⟨p,by simp at this;omega⟩)
    cases k:x with
    |true=>
     have c:=m.1;rw[k] at c;have d:N (mC (dp b.data.toList) e=.tuple #[aI,aI,I 3]):=Z (kM _ o.1 (by rw[f.1];exact c));clear c;by_cases B:(1:T)<(a:T)
     .have D:((g.toNat:T)==48)=δ:=sO
      go_wp2;refine aO (v:=.tuple #[aI,aI,I 3]) (by simp[results,results150,go_sem]) Y ?_;rw[d.1];exact⟨Y,Y⟩
     go_wp2;refine aO (v:=.tuple #[aI,aI,I 3]) (by simp[results,results150,go_sem]) Y ?_;rw[d.1];exact⟨Y,Y⟩
    |false=>
     have c:=m.1;rw[k] at c;have d:N (mC (dp b.data.toList) e=.tuple #[I h,I ((e:T)+a),aI]):=Z (by
      rw[tS _ o.1 (by rw[f.1];have:=c.2;unfold Mx;omega),f.1,i.1,<-c.1])
     clear c;by_cases B:(1:T)<(a:T)
     .have D:((g.toNat:T)==48)=δ:=sO
      go_wp2;refine aO (v:=.tuple #[I h,I ((e:T)+a),aI]) (by simp[results,results150,go_sem]) Y ?_;rw[d.1];exact⟨Y,Y⟩
     go_wp2;refine aO (v:=.tuple #[I h,I ((e:T)+a),aI]) (by simp[results,results150,go_sem]) Y ?_;rw[d.1];exact⟨Y,Y⟩
   (have z:57<(l.toNat:T):=O;have f:=U;have y:(b.data.toList.take a).length=a:=by rw[cV,iF];omega);have i:=Z y;clear y;by_cases u:a=0
   .subst u
    have d:N (mC (dp b.data.toList) e=.tuple #[aI,aI,I 2]):=Z (kG _ (by rw[f.1];exact .inl Y));go_wp2;refine aO (v:=.tuple #[aI,aI,I 2]) (by simp[results,results150,go_sem]) Y ?_;rw[d.1];exact⟨Y,Y⟩
   have a0:((a:T)==0)=δ:=sO;have F:0<b.size:=O;have a2:(0:T)<b.size:=O;have v:=BL b 0 F;obtain⟨g,t⟩:=M (b[0]:μ);have A:=t.symm;have n:N ((b.data.toList.take a).head? =S g):=Z (by rw[L.head?_take,aR u,vM,v,A]);clear v t;by_cases s:1<a/\(g.toNat:T)=48
   .obtain⟨C,V⟩:=s
    have d:N (mC (dp b.data.toList) e=.tuple #[aI,aI,I 2]):=Z (kG _ (by
     rw[f.1];refine .inr ⟨by rw[i.1];exact C,?_⟩;rw[n.1];congr 1;exact pE.1 (by simpa using (by omega:g.toNat=48))))
    have W:(1:T)<(a:T):=O;go_wp2;refine aO (v:=.tuple #[aI,aI,I 2]) (by simp[results,results150,go_sem]) Y ?_;rw[d.1];exact⟨Y,Y⟩
   have o:N (¬bad (dp b.data.toList)):=Z (by
    rw[f.1];rintro(w|⟨p,r⟩)
    .have:=i.1;rw[w] at this;simp at this;omega
    rw[n.1] at r
    have:=cH μ.toNat (cI r);rw[i.1] at p;exact s ⟨p,by simp at this;omega⟩)
   cases k:x with
   |true=>
    have c:=m.1;rw[k] at c;have d:N (mC (dp b.data.toList) e=.tuple #[aI,aI,I 3]):=Z (kM _ o.1 (by rw[f.1];exact c));clear c;by_cases B:(1:T)<(a:T)
    .have D:((g.toNat:T)==48)=δ:=sO
     go_wp2;refine aO (v:=.tuple #[aI,aI,I 3]) (by simp[results,results150,go_sem]) Y ?_;rw[d.1];exact⟨Y,Y⟩
    go_wp2;refine aO (v:=.tuple #[aI,aI,I 3]) (by simp[results,results150,go_sem]) Y ?_;rw[d.1];exact⟨Y,Y⟩
   |false=>
    have c:=m.1;rw[k] at c;have d:N (mC (dp b.data.toList) e=.tuple #[I h,I ((e:T)+a),aI]):=Z (by
     rw[tS _ o.1 (by rw[f.1];have:=c.2;unfold Mx;omega),f.1,i.1,<-c.1])
    clear c;by_cases B:(1:T)<(a:T)
    .have D:((g.toNat:T)==48)=δ:=sO
     go_wp2;refine aO (v:=.tuple #[I h,I ((e:T)+a),aI]) (by simp[results,results150,go_sem]) Y ?_;rw[d.1];exact⟨Y,Y⟩
    go_wp2;refine aO (v:=.tuple #[I h,I ((e:T)+a),aI]) (by simp[results,results150,go_sem]) Y ?_;rw[d.1];exact⟨Y,Y⟩
  have z:a=b.size:=O;have f:N (dp b.data.toList=b.data.toList.take a):=Z (by have l:=Q.1;rw[z,<-iF] at l |-;exact l.all);have y:(b.data.toList.take a).length=a:=by rw[cV,iF];omega
  have i:=Z y;clear y z;by_cases u:a=0
  .subst u
   have d:N (mC (dp b.data.toList) e=.tuple #[aI,aI,I 2]):=Z (kG _ (by rw[f.1];exact .inl Y));go_wp2;refine aO (v:=.tuple #[aI,aI,I 2]) (by simp[results,results150,go_sem]) Y ?_;rw[d.1];exact⟨Y,Y⟩
  have a0:((a:T)==0)=δ:=sO;have F:0<b.size:=O;have a2:(0:T)<b.size:=O;have v:=BL b 0 F;obtain⟨g,t⟩:=M (b[0]:μ);have A:=t.symm;have n:N ((b.data.toList.take a).head? =S g):=Z (by rw[L.head?_take,aR u,vM,v,A]);clear v t;by_cases s:1<a/\(g.toNat:T)=48
  .obtain⟨C,V⟩:=s
   have d:N (mC (dp b.data.toList) e=.tuple #[aI,aI,I 2]):=Z (kG _ (by
    rw[f.1];refine .inr ⟨by rw[i.1];exact C,?_⟩;rw[n.1];congr 1;exact pE.1 (by simpa using (by omega:g.toNat=48))))
   have W:(1:T)<(a:T):=O;go_wp2;refine aO (v:=.tuple #[aI,aI,I 2]) (by simp[results,results150,go_sem]) Y ?_;rw[d.1];exact⟨Y,Y⟩
  have o:N (¬bad (dp b.data.toList)):=Z (by
   rw[f.1];rintro(w|⟨p,r⟩)
   .have:=i.1;rw[w] at this;simp at this;omega
   rw[n.1] at r
   have:=cH μ.toNat (cI r);rw[i.1] at p;exact s ⟨p,by simp at this;omega⟩)
  cases k:x with
  |true=>
   have c:=m.1;rw[k] at c;have d:N (mC (dp b.data.toList) e=.tuple #[aI,aI,I 3]):=Z (kM _ o.1 (by rw[f.1];exact c));clear c;by_cases B:(1:T)<(a:T)
   .have D:((g.toNat:T)==48)=δ:=sO
    go_wp2;refine aO (v:=.tuple #[aI,aI,I 3]) (by simp[results,results150,go_sem]) Y ?_;rw[d.1];exact⟨Y,Y⟩
   go_wp2;refine aO (v:=.tuple #[aI,aI,I 3]) (by simp[results,results150,go_sem]) Y ?_;rw[d.1];exact⟨Y,Y⟩
  |false=>
   have c:=m.1;rw[k] at c;have d:N (mC (dp b.data.toList) e=.tuple #[I h,I ((e:T)+a),aI]):=Z (by
    rw[tS _ o.1 (by rw[f.1];have:=c.2;unfold Mx;omega),f.1,i.1,<-c.1])
   clear c;by_cases B:(1:T)<(a:T)
   .have D:((g.toNat:T)==48)=δ:=sO
    go_wp2;refine aO (v:=.tuple #[I h,I ((e:T)+a),aI]) (by simp[results,results150,go_sem]) Y ?_;rw[d.1];exact⟨Y,Y⟩
   go_wp2;refine aO (v:=.tuple #[I h,I ((e:T)+a),aI]) (by simp[results,results150,go_sem]) Y ?_;rw[d.1];exact⟨Y,Y⟩
theorem Me(b:ν)(a:T)(c:ε)(d:a<0\/(b.size:T)<a):
  aQ 146 #[.string b,I a] c λe d=>e=.returned (.tuple #[aI,aI,I 1])/\c=d:=by
 by_cases c:a<0
 .delta aQ;go_in
  go_wp2;exact aO (v:=.tuple #[aI,aI,I 1]) (by simp[results,results146,go_sem]) Y ⟨Y,Y⟩
 have a:(b.size:T)<a:=O
 delta aQ;go_in
 go_wp2;exact aO (v:=.tuple #[aI,aI,I 1]) (by simp[results,results146,go_sem]) Y ⟨Y,Y⟩
theorem rz{s:ν}{a j:E}(b:a+j<s.size):(s.data.toList.drop a)[j]? =S s[a+j]:=by
 rw[qt];exact BL s (a+j) b
theorem Uq(c:ν)(b:E)(l:ε)(A:c.size<=4611686018427387904)(A:(b:T)<=c.size):
  aQ 146 #[.string c,I b] l λd a=>d=.returned (mC (dp (c.data.toList.drop b)) b)/\l=a:=by
 obtain⟨a,d⟩:=M (c.data.toList.drop b);rw[<-d];have A:a.length+b=c.size:=by rw[d,ik,iF];omega
 have D:decide (c.size<b)=δ:=sO;have D:decide ((b:T)<0)=δ:=sI;have⟨HL,h⟩:=bD d A;have A:a.length+b<=4611686018427387904:=O;clear d
 delta aQ;go_in
 go_upto_block 0 with fail;go_cut [7] (λs7 A=>∃d:E,s7=I d/\b<=d/\d<=c.size/\dp a=a.take (d-b)/\l=A)
 .go_wp2_with fail
  go_loopg [7] a.length (λgk p wr=>∃d:E,d+gk=a.length/\p=I ((b+d:E):T)/\Zm a d/\l=wr)
  .exact⟨0,du,Y,λf d e=>by omega,Y⟩
  case round=>
   obtain⟨e,f,rfl,m,rfl⟩:=hrel;have⟨HK,i⟩:=bD f m;have m:e<=a.length:=O;obtain⟨d,g⟩:=M (b+e);rw[<-g];have n:d<=c.size:=oB h.1;have HT:=Z g;clear f;by_cases o:d<c.size
   .have m:(0:T)<=(d:T):=jD
    have m:(d:T)<c.size:=O;obtain⟨f,k⟩:=M (c[d]:μ);have m:=k.symm;have TK:N (a[e]? =S f):=Z (by rw[HL.1,k];subst g;exact rz o);clear k g;by_cases m:48<=(f.toNat:T)/\(f.toNat:T)<=57
    .obtain⟨k,m⟩:=m
     have HS:=Z (i.1.step TK.1 (Le k m));go_wp2_with fail;refine sg (MH (f.toNat:T) l k m) ?_;rintro k m ⟨rfl,rfl⟩;go_wp2;go_roundg (gk-1)
     .exact⟨e+1,by have:=HK.1;have:=h.1;have:=HT.1;omega,by have:=HT.1;go_num,HS.1,Y⟩
     have:=HK.1;have:=h.1;have:=HT.1;omega
    have k:=Z (i.1.stop TK.1 (Pd O));go_wp2_with fail;refine sg (Ql (f.toNat:T) l O) ?_;rintro f m ⟨rfl,rfl⟩;go_wp2;go_meet;exact⟨d,Y,oB HT.1,n,by rw[HT.1,E.add_sub_cancel_left];exact k.1,Y⟩
   have f:N (dp a=a.take e):=Z (by
    (have A:e=a.length:=by(have:=h.1;omega));have e:=i.1;rw[A] at e |-;exact e.all)
   clear g;go_wp2;go_meet;exact⟨d,Y,oB HT.1,n,by rw[HT.1,E.add_sub_cancel_left];exact f.1,Y⟩
 case rest=>
  obtain⟨f,rfl,G,K,g,rfl⟩:=hcut;obtain⟨d,i⟩:=M (f-b);rw[<-i] at g;have A:d<=a.length:=oB h.1;have HJ:N (f=b+d):=Z O;have e:=Z g;have o:N ((a.take d).length=d):=Z (by rw[cV];omega);have A:IntKind.i64.wrap ((b:T)+1)=(b:T)+1:=kH _ O;clear i g;by_cases w:d=0
  .obtain rfl:f=b:=oB HJ.1
   have g:N (mC (dp a) f=.tuple #[aI,aI,I 2]):=Z (kG _ (by rw[e.1,w];exact .inl Y));clear w;go_wp2;refine aO (v:=.tuple #[aI,aI,I 2]) (by simp[results,results146,go_sem]) Y ?_;rw[g.1];exact⟨Y,Y⟩
  have A:((f:T)==(b:T))=δ:=by have:=HJ.1;simp;omega
  have A:(b:T)<c.size:=oB HJ.1;have A:(0:T)<=(b:T):=jD;obtain⟨t,g⟩:=M (c[b]:μ);have A:=g.symm;have x:((a.take d).head? =S t):=(by
   have:=rz (s:=c) (a:=b) (j:=0) O;rw[L.head?_take,aR w,vM,HL.1,this,g];rfl)
  clear g;by_cases y:1<d/\(t.toNat:T)=48
  .obtain⟨g,i⟩:=y
   have g:(mC (dp a) b=.tuple #[aI,aI,I 2]):=(kG _ (by
    rw[e.1];refine .inr ⟨by rw[o.1];exact g,?_⟩;rw[x];congr 1;exact pE.1 (by simpa using (by omega:t.toNat=48))))
   have i:(b:T)+1<(f:T):=oB HJ.1;go_wp2;refine aO (v:=.tuple #[aI,aI,I 2]) (by simp[results,results146,go_sem]) Y ?_;rw[g];exact⟨Y,Y⟩
  have s:N (¬bad (dp a)):=Z (by
   rw[e.1];rintro(k|⟨g,i⟩)
   .have:=o.1;rw[k] at this;simp at this;omega
   rw[x] at i
   have:=cH μ.toNat (cI i);rw[o.1] at g;exact y ⟨g,by simp at this;omega⟩)
  by_cases w:(b:T)+1<(f:T)
  .have t:((t.toNat:T)==48)=δ:=by have:=HJ.1;simp;omega
   go_wp2_with fail;go_loopg [8,9] d (λgk s8 p wr=>∃g:E,g+gk=d/\p=I ((b+g:E):T)/\s8=I (val (a.take g):E)/\val (a.take g)<=2147483647/\l=wr)
   .exact⟨0,du,Y,Y,by simp[Bm],Y⟩
   case round=>
    obtain⟨g,F,rfl,rfl,P,rfl⟩:=hrel;have t:g<=d:=O;obtain⟨i,m⟩:=M (b+g);rw[<-m];obtain⟨r,n⟩:=M ((val (a.take g):E):T);rw[<-n];have t:0<=r:=O;have t:r<=2147483647:=O;have⟨z,t⟩:=bD m n;have t:i<=c.size:=oB h.1;by_cases B:g<d
    .have C:i<c.size:=oB h.1
     have t:(0:T)<=(i:T):=jD;have t:(i:T)<c.size:=O;have t:(i:T)<(f:T):=oB HJ.1;obtain⟨k,v⟩:=M (c[i]:μ);have t:=v.symm;have TK:N (a[g]? =S k):=Z (by rw[HL.1,v];subst m;exact rz C);have t:JL k=γ:=Px a k (by
      rw[e.1];exact bQ (i:=g) (by rw[vN B];exact TK.1))
     (have u:48<=(k.toNat:T):=oB ((pX.1 t).1);have u:(k.toNat:T)<=57:=oB ((pX.1 t).2);have u:IntKind.u8.wrap ((k.toNat:T)-48)=(k.toNat:T)-48:=by unfold IntKind.wrap;simp[IntKind.bits,IntKind.signed];omega);obtain⟨w,k⟩:=M (10*r+((k.toNat:T)-48):T);have x:=k.symm;have u:N ((val (a.take (g+1)):T)=w):=Z (by rw[wm TK.1,k,n];omega);clear v m n t k;by_cases k:2147483647<w
     .have k:(mC (dp a) b=.tuple #[aI,aI,I 3]):=(kM _ s.1 (by
       rw[e.1];have k:=oR (l:=a) (j:=g+1) (k:=d) O;have k:=u.1;unfold Mx;omega))
      go_wp2;refine aO (v:=.tuple #[aI,aI,I 3]) (by simp[results,results146,go_sem]) Y ?_;rw[k];exact⟨Y,Y⟩
     go_wp2;go_roundg (gk-1)
     .exact⟨g+1,O,by have:=z.1;go_num,by rw[u.1],oB u.1,Y⟩
     omega
    have k:g=d:=O;have u:i=f:=oB HJ.1;subst u;have g:(mC (dp a) b=.tuple #[I r,I i,aI]):=(by
     rw[tS _ s.1 (by rw[e.1,<-k];unfold Mx;omega),e.1,o.1,<-k,<-n,m];rfl)
    clear m n k;go_wp2;refine aO (v:=.tuple #[I r,I i,aI]) (by simp[results,results146,go_sem]) Y ?_;rw[g];exact⟨Y,Y⟩
  go_wp2_with fail;go_loopg [8,9] d (λgk s8 p wr=>∃g:E,g+gk=d/\p=I ((b+g:E):T)/\s8=I (val (a.take g):E)/\val (a.take g)<=2147483647/\l=wr)
  .exact⟨0,du,Y,Y,by simp[Bm],Y⟩
  case round=>
   obtain⟨g,F,rfl,rfl,P,rfl⟩:=hrel;have l:g<=d:=O;obtain⟨i,m⟩:=M (b+g);rw[<-m];obtain⟨r,n⟩:=M ((val (a.take g):E):T);rw[<-n];have l:0<=r:=O;have l:r<=2147483647:=O;have⟨z,l⟩:=bD m n;have l:i<=c.size:=oB h.1;by_cases B:g<d
   .have C:i<c.size:=oB h.1
    have h:(0:T)<=(i:T):=jD;have h:(i:T)<c.size:=O;have h:(i:T)<(f:T):=oB HJ.1;obtain⟨k,v⟩:=M (c[i]:μ);have c:=v.symm;have TK:N (a[g]? =S k):=Z (by rw[HL.1,v];subst m;exact rz C);have c:JL k=γ:=Px a k (by
     rw[e.1];exact bQ (i:=g) (by rw[vN B];exact TK.1))
    (have h:48<=(k.toNat:T):=oB ((pX.1 c).1);have h:(k.toNat:T)<=57:=oB ((pX.1 c).2);have h:IntKind.u8.wrap ((k.toNat:T)-48)=(k.toNat:T)-48:=by unfold IntKind.wrap;simp[IntKind.bits,IntKind.signed];omega);obtain⟨k,h⟩:=M (10*r+((k.toNat:T)-48):T);have l:=h.symm;have u:N ((val (a.take (g+1)):T)=k):=Z (by rw[wm TK.1,h,n];omega);clear v m n c h;by_cases c:2147483647<k
    .have c:(mC (dp a) b=.tuple #[aI,aI,I 3]):=(kM _ s.1 (by
      rw[e.1];have c:=oR (l:=a) (j:=g+1) (k:=d) O;have c:=u.1;unfold Mx;omega))
     go_wp2;refine aO (v:=.tuple #[aI,aI,I 3]) (by simp[results,results146,go_sem]) Y ?_;rw[c];exact⟨Y,Y⟩
    go_wp2;go_roundg (gk-1)
    .exact⟨g+1,O,by have:=z.1;go_num,by rw[u.1],oB u.1,Y⟩
    omega
   have k:g=d:=O;have u:i=f:=oB HJ.1;subst u;have a:(mC (dp a) b=.tuple #[I r,I i,aI]):=(by
    rw[tS _ s.1 (by rw[e.1,<-k];unfold Mx;omega),e.1,o.1,<-k,<-n,m];rfl)
   clear m n k;go_wp2;refine aO (v:=.tuple #[I r,I i,aI]) (by simp[results,results146,go_sem]) Y ?_;rw[a];exact⟨Y,Y⟩
theorem Ue(c:m<=u.length):mC (dp (u.drop m)) m=.tuple #[I (zo u m),I (BP u m),I (tD u m)]:=by
 by_cases a:bad (dp (u.drop m))
 .obtain⟨b,d,e⟩:=RN c a
  rw[kG _ a,b,d,e]
 by_cases b:Mx<val (dp (u.drop m))
 .obtain⟨d,e,f⟩:=Cp c a b
  rw[kM _ a b,d,e,f]
 obtain⟨c,d,e⟩:=Zw c a b;rw[tS _ a b,c,d,e]
theorem cR(a:ν)(b:T)(c:ε)(d:a.size<=1000000):
  aQ 150 #[.string a,I b] c λe d=>e=.returned (.tuple #[I (zo a.data.toList b),I (BP a.data.toList b),I (tD a.data.toList b)])/\c=d:=by
 by_cases d:b<0\/(a.size:T)<b
 .obtain⟨e,f,g⟩:=Uz (l:=a.data.toList) (k:=b) (by rw[iF];exact d)
  rw[e,f,g];exact Te a b c d
 obtain⟨e,rfl⟩:∃d:E,b=d:=⟨b.toNat,O⟩;rw[<-Ue (by rw[iF];omega)]
 have:=Wb a (a.extract e a.size) e c O O Y;rw[yl] at this;exact this
theorem Mj(b:ν)(a:T)(c:ε)(d:b.size<=1000000):
  aQ 146 #[.string b,I a] c λe d=>e=.returned (.tuple #[I (zo b.data.toList a),I (BP b.data.toList a),I (tD b.data.toList a)])/\c=d:=by
 by_cases d:a<0\/(b.size:T)<a
 .obtain⟨e,f,g⟩:=Uz (l:=b.data.toList) (k:=a) (by rw[iF];exact d)
  rw[e,f,g];exact Me b a c d
 obtain⟨e,rfl⟩:∃d:E,a=d:=⟨a.toNat,O⟩;rw[<-Ue (by rw[iF];omega)];exact Uq b e c O O
theorem pA(a:ν)(e:ε)(f:a.size<=1000000):
  aQ 104 #[.string a] e λc b=>c=.returned (.tuple #[I (Ko a.data.toList),I (JH a.data.toList)])/\e=b:=by
 have b:=Z (cR a 0 e f);unfold Ko JH;have e:(a.data.toList.length:T)=a.size:=by rw[iF]
 rw[e];by_cases c:tD a.data.toList 0=0
 .rw[c] at b |-
  obtain⟨e,d⟩:=M (zo a.data.toList 0);obtain⟨f,e⟩:=M (BP a.data.toList 0);rw[<-d,<-e] at b |-;clear d e;by_cases d:f<a.size
  .rw[aS ⟨Y,d⟩,aS ⟨Y,d⟩]
   delta aQ;go_in
   go_wp2_with fail;refine aZ.go (b.1.mono ?_);rintro e f ⟨rfl,rfl⟩;go_wp2;go_ret2;exact⟨Y,Y⟩
  rw[aR (λe=>d e.2),aR (λe=>d e.2)]
  delta aQ;go_in
  go_wp2_with fail;refine aZ.go (b.1.mono ?_);rintro d e ⟨rfl,rfl⟩;go_wp2;go_ret2;exact⟨Y,Y⟩
 rw[aR (λd=>c d.1),aR (λd=>c d.1)];obtain⟨e,d⟩:=M (zo a.data.toList 0);obtain⟨f,e⟩:=M (BP a.data.toList 0);obtain⟨f,a⟩:=M (tD a.data.toList 0);rw[<-a] at c;rw[<-d,<-e,<-a] at b;rw[<-d,<-a];have c:(f==0)=δ:=sU c;clear d e a
 delta aQ;go_in
 go_wp2_with fail;refine aZ.go (b.1.mono ?_);rintro a b ⟨rfl,rfl⟩;go_wp2;go_ret2;exact⟨Y,Y⟩
theorem Hb(a:ν)(e:ε)(f:a.size<=1000000):
  aQ 94 #[.string a] e λc b=>c=.returned (.tuple #[I (Ko a.data.toList),I (JH a.data.toList)])/\e=b:=by
 have c:=Z (Mj a 0 e f);unfold Ko JH;have e:(a.data.toList.length:T)=a.size:=by rw[iF]
 rw[e];by_cases b:tD a.data.toList 0=0
 .rw[b] at c |-
  obtain⟨e,d⟩:=M (zo a.data.toList 0);obtain⟨f,e⟩:=M (BP a.data.toList 0);rw[<-d,<-e] at c |-;clear d e;by_cases d:f<a.size
  .rw[aS ⟨Y,d⟩,aS ⟨Y,d⟩]
   delta aQ;go_in
   go_wp2_with fail;refine aZ.go (c.1.mono ?_);rintro e f ⟨rfl,rfl⟩;go_wp2;go_ret2;exact⟨Y,Y⟩
  rw[aR (λe=>d e.2),aR (λe=>d e.2)]
  delta aQ;go_in
  go_wp2_with fail;refine aZ.go (c.1.mono ?_);rintro d e ⟨rfl,rfl⟩;go_wp2;go_ret2;exact⟨Y,Y⟩
 rw[aR (λd=>b d.1),aR (λd=>b d.1),(IK b).1];obtain⟨d,a⟩:=M (tD a.data.toList 0);rw[<-a] at b;rw[<-a] at c |-;have e:(d==0)=δ:=sU b;have b:(d !=0)=γ:=sU b;clear a
 delta aQ;go_in
 go_wp2_with fail;refine aZ.go (c.1.mono ?_);rintro a b ⟨rfl,rfl⟩;go_wp2;go_ret2;exact⟨Y,Y⟩
theorem rW(a:L μ):rO a=(Ko a,JH a):=by
 have b:a.drop (0:E)=a:=Y;have d:aan (dp a)=γ↔bad (dp a):=by simp[aan,bad]
 unfold rO;by_cases c:bad (dp a)
 .obtain⟨e,f,g⟩:=RN (l:=a) (k:=0) nG (by rw[b];exact c)
  have e:tD a 0=2:=e;have f:zo a 0=0:=f;rw[aS (d.2 c)];simp[Ko,JH,e,f]
 rw[aR (λe=>c (d.1 e))];by_cases d:2147483647<val (dp a)
 .obtain⟨e,f,g⟩:=Cp (l:=a) (k:=0) nG (by rw[b];exact c) (by rw[b];exact d)
  have e:tD a 0=3:=e;have f:zo a 0=0:=f;rw[aS d];simp[Ko,JH,e,f]
 obtain⟨c,f,e⟩:=Zw (l:=a) (k:=0) nG (by rw[b];exact c) (by rw[b];exact d);have c:tD a 0=0:=c;have f:zo a 0=(val (dp a):E):=f;have b:BP a 0=((dp a).length:E):=by rw[b] at e;simpa using e
 rw[aR d];by_cases a:(dp a).length<a.length
 .rw[aS a];simp[Ko,JH,c,b,a]
 rw[aR a];simp[Ko,JH,c,f,b,a]
end Num
theorem fF.str{a:L (L μ)}(d:fF 9 1 CS W A m q a){k:E}(f:a[k]? =S u):∃a:ν,W.cell? (H m (q+k))=S (.string a)/\a.data.toList=u:=by
 obtain⟨g,-,⟨b,rfl,c⟩,e⟩:=d.2 k u f
 have:=e 0 _ Y;rw[gA,fI] at this;exact⟨b,this,c⟩
theorem PM{a:κ}(c:a=(decide ((nL 32 u).length<=8)&&(nL 32 u).all (λb=>decide (0<b.length)&&b.all IW))):iI u=if a=γ then(nL 32 u,0) else([],2):=by
 subst c;rfl
theorem Wd(b q:α->κ)(a:L α):a.all (λc=>b c&&q c)=(a.all b&&a.all q):=by
 induction a with
 |nil=>rfl
 |cons c d a=>simp only[lM,a];cases b c<;>cases q c<;>cases d.all b<;>simp
theorem jQ(a:μ):∀c,∀d∈nL a c,d.length<=c.length
 |[],d,c=>by simp[nL] at c;simp[c]
 |b::d,g,c=>by
  rw[nL] at c;split at c
  .rcases cK.1 c with rfl|e
   .simp
   have:=jQ a d g e;simp;omega
  cases e:nL a d with
  |nil=>exact absurd e (Rq a d)
  |cons i k=>
   rw[e] at c;have f:=jQ a d;rw[e] at f;rcases cK.1 c with rfl|h
   .have:=f i (jg ..);simp;omega
   have:=f g (jh _ h);simp;omega
theorem Oh(k:ν)(b:ε)(a8:Gw b)(Q:k.size<1000000):aQ 102 #[.string k] b (LR (iI k.data.toList) b):=by
 obtain⟨A,P⟩:=M k.data.toList;rw[<-P];obtain⟨c,z⟩:=M (nL 32 A);obtain⟨m,G⟩:=M (decide (c.length<=8)&&c.all (λb=>decide (0<b.length)&&b.all IW));have u:N (iI A=if m=γ then(c,0) else([],2)):=Z (by rw[z];exact PM (by rw[G,z]))
 have U:N (m=(decide (c.length<=8)&&(c.all (λb=>decide (0<b.length))&&c.all (λb=>b.all IW)))):=Z (by rw[G,Wd]);have⟨HL,W⟩:=bD P z;obtain⟨b9,b8⟩:=a8.ack;clear P G z
 delta aQ;go_in
 go_wp2;go_step3
 go_wp2_with fail;refine sg (zZ k 32 b9 _ Q b8) ?_;rintro X a7 ⟨z,rfl,a5,v⟩;rw[<-HL.1,<-W.1] at a5;obtain⟨b4,b5,c0,n,rfl,a1,a2,C⟩:=a5;obtain⟨g,z⟩:=M c.length;rw[<-z] at a1 |-;unfold maxLen at a2;have HN:=Z z;have G:g<=9223372036854775807:=O;clear z;have G:decide ((g:T)<=8)=decide (g<=8):=by rw[dS];simp;omega
 obtain⟨D,z⟩:=M (decide (g<=8));rw[<-z] at G;have b0:=Z z;clear z;go_wp2;go_step3
 go_wp2_with fail;go_loopg [5,16] g (λgk s5 s16 wr=>∃e:E,e+gk=g/\s16=I e/\s5=.bool (D&&(c.take e).all (λb=>decide (0<b.length)))/\(c.take e).all (λb=>b.all IW)=γ/\a7=wr)
 .exact⟨0,du,Y,sI,Y,Y⟩
 case round=>
  obtain⟨e,a4,rfl,rfl,b7,rfl⟩:=hrel;have⟨HK,R⟩:=bD a4 b7;have z:e<=g:=O;obtain⟨i,z⟩:=M (D&&(c.take e).all (λb=>decide (0<b.length)));rw[<-z];have V:=Z z;clear a4 z;by_cases z:e<g
  .obtain⟨f,t⟩:=gE c e fU
   (obtain rfl:=C.addr t;obtain⟨d,z,r⟩:=C.str t;have⟨B,HT⟩:=bD t r;have a0:f.length=d.size:=by rw[<-r,iF]);have b2:=Z a0;have z:f.length<=k.size+1:=(by
    (have p:=jQ 32 A f (W.1▸bQ t);have G:A.length=k.size:=by rw[HL.1,iF]);omega)
   have⟨k,A⟩:=dy e g;obtain⟨o,s⟩:=M (i&&decide (0<f.length));have b1:N (o=(D&&(c.take (e+1)).all (λb=>decide (0<b.length)))):=Z (by rw[s,V.1,bJ B.1,lZ];simp[κ.and_assoc]);have g:d.size<=1000001:=oB z;have c1:(i=γ/\d.toList.isEmpty=γ/\o=δ)\/(i=γ/\d.toList.isEmpty=δ/\o=γ)\/(i=δ/\o=δ):=by
    cases i
    .exact .inr (.inr ⟨Y,by simp[s]⟩)
    by_cases y:f=[]
    .exact .inl ⟨Y,AG (r.trans y),by simp[s,y]⟩
    refine .inr (.inl ⟨Y,JG (by rw[r];exact y),?_⟩);have:0<f.length:=L.length_pos_iff.2 y;simp[s,this]
   have a6:N (∀a:E,a<=d.size->(f.take a).all IW=γ->∀n:μ,f[a]? =S n->IW n=δ->m=δ):=Z (λa K F n g Q=>by
    rw[U.1];have p:c.all (λb=>b.all IW)=δ:=lG.2 ⟨f,bQ B.1,by
     have:f.all IW=δ:=lG.2 ⟨n,bQ g,by simp[Q]⟩;simp[this]⟩
    rw[p];simp)
   clear t r a0 s;rcases c1 with⟨rfl,X,x⟩|⟨rfl,X,x⟩|⟨rfl,x⟩;all_goals
    have a9:=Z x;clear x;go_wp2_with fail;obtain⟨b6,rfl⟩:=M gk;go_loopg [5,8] d.size (λgk s5 s8 wr=>∃a:E,a+gk=d.size/\s8=I a/\s5=.bool o/\(f.take a).all IW=γ/\a7=wr)
    .exact⟨0,du,Y,cH ζ.bool a9.1.symm,Y,Y⟩
    case round=>
     obtain⟨a,K,rfl,rfl,F,rfl⟩:=hrel;have⟨HI,w⟩:=bD K F;have a3:a<=d.size:=O;clear K F;by_cases g:a<d.size
     .have b:(0:T)<=(a:T):=jD
      have k:(a:T)<d.size:=O;obtain⟨h,b⟩:=M (d[a]:μ);have k:d[a]=h:=b.symm;have TK:N (f[a]? =S h):=Z (by rw[<-HT.1,b];exact BL d a g);clear b;by_cases b:(h.toNat:T)<=32
      .have l:N (m=δ):=Z (a6.1 a a3 w.1 h TK.1 (by simp[IW];omega))
       go_wp2;(try rw[Exit.noGoto_ret]);go_ret2;rw[u.1,l.1];exact⟨_,Y,dJ,v⟩
      by_cases b:126<(h.toNat:T)
      .have l:N (m=δ):=Z (a6.1 a a3 w.1 h TK.1 (by simp[IW];omega))
       go_wp2;(try rw[Exit.noGoto_ret]);go_ret2;rw[u.1,l.1];exact⟨_,Y,dJ,v⟩
      have b3:N (IW h=γ):=Z (by simp[IW];omega);go_wp2;go_roundg (gk-1)
      .exact⟨a+1,oB HI.1,by go_num,Y,by rw[bJ TK.1,lZ,w.1];simp[b3.1],Y⟩
      have:=HI.1;omega
     have a:N (f.all IW=γ):=Z (by have:=w.1;rwa[dq (oB b2.1)] at this);go_wp2;go_roundg (b6-1)
     .exact⟨e+1,oB HK.1,by go_num,cH ζ.bool b1.1,by rw[bJ B.1,lZ,R.1];simp[a.1],Y⟩
     have:=HK.1;omega
  have a:c.length<=e:=oB HN.1;have l:N (m=i):=Z (by
   have p:=R.1;rw[dq a] at p;rw[U.1,p,V.1,dq a,b0.1,HN.1];simp)
  cases i with
  |true=>
   go_wp2;go_ret2;rw[u.1,l.1];exact⟨_,Y,⟨b4,b5,c0,n,by rw[HN.1];rfl,by have:=a1;rw[HN.1] at this;exact this,by have:=a2;unfold maxLen;exact this,C⟩,v⟩
  |false=>
   go_wp2;go_ret2;rw[u.1,l.1];exact⟨_,Y,dJ,v⟩
theorem adg:∀a:ε,(Instr.index 242 (.agg #[.string ⟨#[98,101,103,105,110]⟩,.string ⟨#[114,101,97,100]⟩,.string ⟨#[119,114,105,116,101]⟩,.string ⟨#[99,111,109,109,105,116]⟩,.string ⟨#[97,98,111,114,116]⟩]) aI).run prog a=.ok (.string ⟨#[98,101,103,105,110]⟩) a:=λ_=>by kernel_rfl
theorem ads:∀a:ε,(Instr.index 242 (.agg #[.string ⟨#[98,101,103,105,110]⟩,.string ⟨#[114,101,97,100]⟩,.string ⟨#[119,114,105,116,101]⟩,.string ⟨#[99,111,109,109,105,116]⟩,.string ⟨#[97,98,111,114,116]⟩]) (I 1)).run prog a=.ok (.string ⟨#[114,101,97,100]⟩) a:=λ_=>by kernel_rfl
theorem adj:∀a:ε,(Instr.index 242 (.agg #[.string ⟨#[98,101,103,105,110]⟩,.string ⟨#[114,101,97,100]⟩,.string ⟨#[119,114,105,116,101]⟩,.string ⟨#[99,111,109,109,105,116]⟩,.string ⟨#[97,98,111,114,116]⟩]) (I 2)).run prog a=.ok (.string ⟨#[119,114,105,116,101]⟩) a:=λ_=>by kernel_rfl
theorem adI:∀a:ε,(Instr.index 242 (.agg #[.string ⟨#[98,101,103,105,110]⟩,.string ⟨#[114,101,97,100]⟩,.string ⟨#[119,114,105,116,101]⟩,.string ⟨#[99,111,109,109,105,116]⟩,.string ⟨#[97,98,111,114,116]⟩]) (I 3)).run prog a=.ok (.string ⟨#[99,111,109,109,105,116]⟩) a:=λ_=>by kernel_rfl
theorem adM:∀a:ε,(Instr.index 242 (.agg #[.string ⟨#[98,101,103,105,110]⟩,.string ⟨#[114,101,97,100]⟩,.string ⟨#[119,114,105,116,101]⟩,.string ⟨#[99,111,109,109,105,116]⟩,.string ⟨#[97,98,111,114,116]⟩]) (I 4)).run prog a=.ok (.string ⟨#[97,98,111,114,116]⟩) a:=λ_=>by kernel_rfl
theorem acK(a:L μ):(a=[98,101,103,105,110]/\fO a=0)\/(a=[114,101,97,100]/\fO a=1)\/(a=[119,114,105,116,101]/\fO a=2)\/(a=[99,111,109,109,105,116]/\fO a=3)\/(a=[97,98,111,114,116]/\fO a=4)\/(a≠[98,101,103,105,110]/\a≠[114,101,97,100]/\a≠[119,114,105,116,101]/\a≠[99,111,109,109,105,116]/\a≠[97,98,111,114,116]/\fO a= -1):=by
 by_cases b:a=[98,101,103,105,110]
 .subst b;simp[fO]
 by_cases c:a=[114,101,97,100]
 .subst c;simp[fO]
 by_cases d:a=[119,114,105,116,101]
 .subst d;simp[fO]
 by_cases e:a=[99,111,109,109,105,116]
 .subst e;simp[fO]
 by_cases f:a=[97,98,111,114,116]
 .subst f;simp[fO]
 simp[fO,b,c,d,e,f]
def PER(a:Ev×T)(d:ε)(c:Ending)(b:ε):Prop:=c=.returned (.tuple #[a.1.val,I a.2])/\Fr j d b
theorem kf:(prog.info? 165).map (·.size)=S 4:=kR
theorem dM{b:θ ζ}{a:θ ζ}(e:b[2]?.getD undef=aP m 0)(d:b[3]?.getD undef=I i1)(c:aY W m a 165)(f:a.size=4):
  (results Tryz.f68 b).run prog W=.ok (.tuple #[.agg a,I i1]) W:=by
 have a:Tryz.f68.results=#[.cell 2 165,.tmp 3]:=Y;simp[results,a,e,d,asAddr,fQ c Y underlying165 (by rw[f];exact kf),Result.andThen]
theorem VO(a:(iI u).2≠0):pC u=(⟨0,0,0,0⟩,(iI u).2):=by unfold pC;rw[aS a]
theorem acn{a:L (L μ)}(b:(iI u).2=0)(c:(iI u).1=u1::a):pC u=if fO u1<0\/a.length≠(if lm (fO u1) then 3 else 1) then(⟨0,0,0,0⟩,2)
  else if(jn a).2≠0 then(⟨0,0,0,0⟩,(jn a).2) else if 8<=(jn a).1.getD 0 0\/16<=(jn a).1.getD 1 0 then(⟨0,0,0,0⟩,4) else(⟨fO u1,(jn a).1.getD 0 0,(jn a).1.getD 1 0,(jn a).1.getD 2 0⟩,0):=by
 unfold pC;rw[aR (by rw[b];simp),c]
theorem tV(a:(iI u).2=0):(iI u).1=nL 32 u/\(nL 32 u).length<=8:=by
 unfold iI at a |-;split at a
 .rename_i b
  rw[aS b];simp only[bA,cS] at b;exact⟨Y,b.1⟩
 cases a
theorem WH(c4:ν)(K:ε)(i6:Gw K)(n4:c4.size<1000000):aQ 68 #[.string c4] K (PER (pC c4.data.toList) K):=by
 obtain⟨k,g5⟩:=M c4.data.toList;rw[<-g5];have HL:=Z g5;clear g5
 delta aQ;go_in
 go_upto_region 1 with fail;refine cT (λo8 h2=> ?_);obtain⟨b3,f3⟩:=M K.heap.size;rw[<-f3];have l3:=dL h2 f3;have i4:=cY h2;have e2:N (K.heap.size<=b3):=Z O;clear h2 f3;go_wp2_with fail;refine sg (Oh c4 o8 (i6.fr i4) n4) ?_;rintro f o9 ⟨q0,rfl,g9,d0⟩;rw[<-HL.1] at g9 |-;have d8:=Z (i4.step d0);have e3:=Z (d0.hs l3.1);obtain⟨f5,h5⟩:=M ((iI k).2);obtain⟨i3,h7⟩:=M ((iI k).1);rw[<-h5];rw[<-h7] at g9;obtain⟨p4,e8,h9,p5,rfl,p8,p9,o5⟩:=g9;have e5:=Z o5;have b8:=Z h5;have e0:=Z h7;have p6:=bx e3.1;clear h5 h7;by_cases f2:f5=0
 .subst f2
  have n2:i3≠[]:=by rw[e0.1,(tV b8.1.symm).1];exact Rq _ _
  obtain⟨P,o,rfl⟩:∃P o,i3=P::o:=by
   cases i3 with
   |nil=>exact absurd Y n2
   |cons l o=>exact⟨l,o,Y⟩
  obtain rfl:=e5.1.addr (k:=0) Y;obtain⟨c,e9,m6⟩:=e5.1.str (k:=0) Y;rw[fI] at e9;have l5:=Z m6;have p3:N (o.length<=7):=Z (by have:=(tV b8.1.symm);rw[<-e0.1] at this;have c3:=this.2;rw[<-this.1] at c3;simpa using c3);have e1:N (∀l∈P::o,l.length<=1000000):=Z (λl n=>by
   (rw[e0.1,(tV b8.1.symm).1] at n;have a2:=jQ 32 k l n;have a3:k.length=c4.size:=by rw[HL.1,iF]);omega)
  have C:=Z (acn b8.1.symm e0.1.symm);obtain⟨b2,g6⟩:=M o.length;have n1:(P::o).length=b2+1:=by rw[g6];rfl
  rw[n1];have HM:=Z g6;clear g6;go_upto_region 5 with fail;refine cT (λf4 h3=> ?_);obtain⟨q,g8⟩:=M o9.heap.size;rw[<-g8];have d9:=cY h3;have a1:N (¬e8=q):=Z (λf=>by have a2:=(e5.1.uQ (k:=0) Y);obtain⟨p7,d0,a3⟩:=a2;have:=ba a3;omega);have e4:=dL h3 g8;have l0:=Z (d8.1.step d9);have i5:=Z d9;have z:N (b3≠q):=Z (oB (ba e3.1));have x:N (K.heap.size<=q):=Z (oB d8.1.size);have b6:=Z (d9.aF e9 id);clear h3 g8;obtain⟨m0,m1,m3,m4,m5,-⟩:=Va ((i6.fr d8.1).fr d9).words;have e9:=b6.1;have n7:=adg;have n8:=ads;have n9:=adj;have o0:=adI;have o1:=adM;have a:c.toList=P:=by rw[lO];exact l5.1
  have c0:=Z a;have p1:=bx e4.1;have p2:=aG e4.1 0;clear a;go_upto_block 0 with fail;go_cut [23] (λs23 k7=>∃i,i=fO P/\aY k7 q #[I i,aI,aI,aI] 165/\bT q f4 k7)
  .have KF:N (∀i,(f4.setCell (H q 0) (I i)).heap[q]? =S (.cells #[I i,aI,aI,aI] 165 (0,0))/\bT q f4 (f4.setCell (H q 0) (I i))):=Z (λi=>⟨aD e4.1 0 (I i),rF.aK _ _⟩)
   rcases acK P with⟨n,m⟩|⟨n,m⟩|⟨n,m⟩|⟨n,m⟩|⟨n,m⟩|⟨k0,k1,k2,k3,k4,m⟩
   .have a:=c0.1.trans n
    (have c8:([98,101,103,105,110]==c.toList)=γ:=by rw[a];decide);(have V:([114,101,97,100]==c.toList)=δ:=by rw[a];decide);(have a7:([119,114,105,116,101]==c.toList)=δ:=by rw[a];decide);(have a8:([99,111,109,109,105,116]==c.toList)=δ:=by rw[a];decide);(have c9:([97,98,111,114,116]==c.toList)=δ:=by rw[a];decide);have HK:=Z m;clear a n m;go_wp2_with fail;refine eE 6 ?_;have f0:=(KF.1 0).2.aF b6.1 a1.1;rw[bN];go_wp2_with fail;rw[bN];go_wp2_with fail;rw[bN];go_wp2_with fail;rw[bN];go_wp2_with fail;rw[bN];go_wp2_with fail;rw[bN];go_wp2;go_meet;exact⟨0,HK.1.symm,KF.1 0⟩
   .have a:=c0.1.trans n
    (have c8:([98,101,103,105,110]==c.toList)=δ:=by rw[a];decide);(have V:([114,101,97,100]==c.toList)=γ:=by rw[a];decide);(have a7:([119,114,105,116,101]==c.toList)=δ:=by rw[a];decide);(have a8:([99,111,109,109,105,116]==c.toList)=δ:=by rw[a];decide);(have c9:([97,98,111,114,116]==c.toList)=δ:=by rw[a];decide);have HK:=Z m;clear a n m;go_wp2_with fail;refine eE 6 ?_;have f0:=(KF.1 1).2.aF b6.1 a1.1;rw[bN];go_wp2_with fail;rw[bN];go_wp2_with fail;rw[bN];go_wp2_with fail;rw[bN];go_wp2_with fail;rw[bN];go_wp2_with fail;rw[bN];go_wp2;go_meet;exact⟨1,HK.1.symm,KF.1 1⟩
   .have a:=c0.1.trans n
    (have c8:([98,101,103,105,110]==c.toList)=δ:=by rw[a];decide);(have V:([114,101,97,100]==c.toList)=δ:=by rw[a];decide);(have a7:([119,114,105,116,101]==c.toList)=γ:=by rw[a];decide);(have a8:([99,111,109,109,105,116]==c.toList)=δ:=by rw[a];decide);(have c9:([97,98,111,114,116]==c.toList)=δ:=by rw[a];decide);have HK:=Z m;clear a n m;go_wp2_with fail;refine eE 6 ?_;have f0:=(KF.1 2).2.aF b6.1 a1.1;rw[bN];go_wp2_with fail;rw[bN];go_wp2_with fail;rw[bN];go_wp2_with fail;rw[bN];go_wp2_with fail;rw[bN];go_wp2_with fail;rw[bN];go_wp2;go_meet;exact⟨2,HK.1.symm,KF.1 2⟩
   .have a:=c0.1.trans n
    (have c8:([98,101,103,105,110]==c.toList)=δ:=by rw[a];decide);(have V:([114,101,97,100]==c.toList)=δ:=by rw[a];decide);(have a7:([119,114,105,116,101]==c.toList)=δ:=by rw[a];decide);(have a8:([99,111,109,109,105,116]==c.toList)=γ:=by rw[a];decide);(have c9:([97,98,111,114,116]==c.toList)=δ:=by rw[a];decide);have HK:=Z m;clear a n m;go_wp2_with fail;refine eE 6 ?_;have f0:=(KF.1 3).2.aF b6.1 a1.1;rw[bN];go_wp2_with fail;rw[bN];go_wp2_with fail;rw[bN];go_wp2_with fail;rw[bN];go_wp2_with fail;rw[bN];go_wp2_with fail;rw[bN];go_wp2;go_meet;exact⟨3,HK.1.symm,KF.1 3⟩
   .have a:=c0.1.trans n
    (have c8:([98,101,103,105,110]==c.toList)=δ:=by rw[a];decide);(have V:([114,101,97,100]==c.toList)=δ:=by rw[a];decide);(have a7:([119,114,105,116,101]==c.toList)=δ:=by rw[a];decide);(have a8:([99,111,109,109,105,116]==c.toList)=δ:=by rw[a];decide);(have c9:([97,98,111,114,116]==c.toList)=γ:=by rw[a];decide);have HK:=Z m;clear a n m;go_wp2_with fail;refine eE 6 ?_;have f0:=(KF.1 4).2.aF b6.1 a1.1;rw[bN];go_wp2_with fail;rw[bN];go_wp2_with fail;rw[bN];go_wp2_with fail;rw[bN];go_wp2_with fail;rw[bN];go_wp2_with fail;rw[bN];go_wp2;go_meet;exact⟨4,HK.1.symm,KF.1 4⟩
   (have a:=c0.1;have c8:([98,101,103,105,110]==c.toList)=δ:=by rw[a];simpa using λf=>k0 f.symm);(have V:([114,101,97,100]==c.toList)=δ:=by rw[a];simpa using λf=>k1 f.symm);(have a7:([119,114,105,116,101]==c.toList)=δ:=by rw[a];simpa using λf=>k2 f.symm);(have a8:([99,111,109,109,105,116]==c.toList)=δ:=by rw[a];simpa using λf=>k3 f.symm);(have c9:([97,98,111,114,116]==c.toList)=δ:=by rw[a];simpa using λf=>k4 f.symm);have HK:=Z m;clear a k0 k1 k2 k3 k4 m;go_wp2_with fail;refine eE 6 ?_;rw[bN];go_wp2_with fail;rw[bN];go_wp2_with fail;rw[bN];go_wp2_with fail;rw[bN];go_wp2_with fail;rw[bN];go_wp2_with fail;rw[bN];go_wp2;go_meet;exact⟨-1,HK.1.symm,e4.1,rF⟩
  case rest=>
   obtain⟨i,j6,j7,f1⟩:=hcut;have C:=Z (j6▸C.1);have D4:N (∀(u:E)(l:L μ),(P::o)[u]? =S l->∃p:ν,wc.cell? (H e8 (h9+u))=S (.string p)/\p.data.toList=l):=Z (λu l d3=>by
    obtain⟨p,a2,a3⟩:=e5.1.str d3;exact⟨p,f1.aF (i5.1.aF a2 id) a1.1,a3⟩)
   have i8:=Z (f1.aB (i5.1.hs e3.1) z.1);have l1:=Z (l0.1.keep f1 (λA f=>f▸x.1));have f9:=Z j7;clear j7 f1 m0 m1 m3 m4 m5 e9 n7 n8 n9 o0 o1 p1 p2 j6;go_upto_region 12 with fail;refine cT (λk6 h4=> ?_);obtain⟨o2,g7⟩:=M wc.heap.size;rw[<-g7];have d1:=cY h4;have k8:=dL h4 g7;have i9:N (o2≠q):=Z (oB (ba f9.1));have l4:=Z (d1.hs i8.1);have j0:=Z (d1.hs f9.1);have l2:=Z (l1.1.step d1);have k9:N (∀(u:E)(l:L μ),(P::o)[u]? =S l->∃p:ν,k6.cell? (H e8 (h9+u))=S (.string p)/\p.data.toList=l):=Z (λu l d3=>by
    obtain⟨p,a2,a3⟩:=D4.1 u l d3;exact⟨p,d1.aF a2 id,a3⟩)
   have k5:=bx j0.1;have F:N (∀(c5:T)(e6 e7:ε),Fr j K e6->aY e6 b3 #[aI,aI,aI,aI] 165->pC k=(⟨0,0,0,0⟩,c5)->aY e7 b3 #[aI,aI,aI,aI] 165->bT b3 e6 e7->PER (pC k) K (.returned (.tuple #[.agg #[aI,aI,aI,aI],I c5])) e7):=Z (λc5 e6 e7 d0 f3 m8 b e=>⟨by rw[m8];rfl,d0.keep e (λA f=>f▸e2.1)⟩);clear h4 g7 d1 D4 i8 f9;go_wp2_with fail;refine sg (CX i k6) ?_;rintro f i2 ⟨rfl,c2⟩;have y:=Z (c2.hs l4.1);have U:=Z (c2.hs j0.1);have d6:=Z (c2.hs k8.1);have Q:=Z (l2.1.step c2);have d7:N (∀(u:E)(l:L μ),(P::o)[u]? =S l->∃p:ν,i2.cell? (H e8 (h9+u))=S (.string p)/\p.data.toList=l):=Z (λu l d3=>by
    obtain⟨p,a2,a3⟩:=k9.1 u l d3;exact⟨p,c2.aF a2 id,a3⟩)
   clear c2 k5;have k5:=bx U.1;cases d2:lm i with
   |false=>
    have HI:=Z d2;clear d2;by_cases j5:i<0
    .skip
     have h:N (pC k=(⟨0,0,0,0⟩,2)):=Z (by rw[C.1,aS (.inl j5)]);go_wp2_with (refine aU Y 165 (.tmp 2) (.tmp 56) Y Y Y y.1 Y kf oC ?_;intro B b e);exact aO (dM Y Y b Y) Y (F.1 2 _ _ Q.1 y.1 h.1 b e)
    have a0:N (0<=i):=Z O;by_cases d4:b2=1
    .subst d4
     obtain⟨g,rfl⟩:∃g,o=[g]:=by
      have c3:=HM.1
      match o,c3 with
      |[g],_=>exact⟨g,Y⟩
     obtain⟨c6,i1,d5⟩:=d7.1 1 g Y;have c7:=Z d5;have g0:N (c6.size<=1000000):=Z (by have:=e1.1 g sI;rw[<-c7.1,iF] at this;exact this);have g1:=dh U.1;have V:=bx d6.1;clear d5;have b5:∀A,i2.frozen? (H q A)=δ:=λA=>aG U.1 A;have n3:=i9.1;have m7:=a1.1;have i0:=b5 1;clear b5;go_wp2_with fail;refine eE 2 ?_;rw[bN];go_wp2_with fail;refine sg (Num.pA c6 _ g0.1) ?_;rintro f p0 ⟨rfl,h6⟩;rw[c7.1];obtain⟨d,b1⟩:=M (Num.Ko g);obtain⟨r,b0⟩:=M (Num.JH g);rw[<-b1,<-b0];subst h6;have a5:N (rO g=(d,r)):=Z (by rw[Num.rW,b1,b0]);clear b1 b0;by_cases X:r=0
     .subst X
      go_wp2_with fail;rw[bN];go_upto_region 23 with fail;(refine cT (λb4 W=> ?_);have a6:N (aY b4 q #[I i,I d,I 0,I 0] 165):=Z (by rw[W];have:=(aD U.1 1 (I d));simpa using this);have R:N (aY b4 b3 #[aI,aI,aI,aI] 165):=Z (by rw[W];exact(bi y.1 (H q 1) z.1 (I d)));have b7:N (Fr j K b4):=Z (by rw[W];exact(Q.1.cN (H q 1) x.1 (I d)));have t:N (jn [g]=([d],0)):=Z (by simp[jn,a5.1]);have s1:=dh a6.1;have s2:=iU a6.1;clear W i1 g1 V i0;have b9:N (pC k=if 8<=d\/16<=(0:T) then(⟨0,0,0,0⟩,4) else(⟨i,d,(0:T),(0:T)⟩,0)):=Z (by rw[C.1,aR (by have:=a0.1;rw[HI.1];simp;omega),aR (by rw[t.1];simp),t.1];rfl));by_cases g2:8<=d
      .skip
       have h:N (pC k=(⟨0,0,0,0⟩,4)):=Z (by rw[b9.1,aS (.inl g2)]);go_wp2_with (refine aU Y 165 (.tmp 2) (.tmp 88) Y Y Y R.1 Y kf oC ?_;intro B b e);exact aO (dM Y Y b Y) Y (F.1 4 _ _ b7.1 R.1 h.1 b e)
      skip
      have h:N (pC k=(⟨i,d,(0:T),(0:T)⟩,0)):=Z (by rw[b9.1,aR O]);go_wp2_with (first|(refine bU Y 165 (.tmp 6) Y Y a6.1 underlying165 Y kf ?_)|(refine aU Y 165 (.tmp 2) (.tmp 89) Y Y Y R.1 Y kf oC ?_;intro B b e));exact aO (dM Y Y b Y) Y ⟨by rw[h.1];rfl,b7.1.keep e (λA f=>f▸e2.1)⟩
     skip
     have h8:(r !=0)=γ:=sU X;have t:N ((jn [g]).2=r):=Z (by simp[jn,a5.1,X]);have D:=Z (bi y.1 (H q 1) z.1 (I d));have a4:=Z (Q.1.cN (H q 1) x.1 (I d));have h:N (pC k=(⟨0,0,0,0⟩,r)):=Z (by rw[C.1,aR (by have:=a0.1;rw[HI.1];simp;omega),t.1,aS X]);go_wp2_with (refine aU Y 165 (.tmp 2) (.tmp 77) Y Y Y D.1 Y kf oC ?_;intro B b e);exact aO (dM Y Y b Y) Y (F.1 r _ _ a4.1 D.1 h.1 b e)
    have m9:((b2:T)+1==2)=δ:=sO;have n0:((b2:T)+1 !=2)=γ:=sO;have h:N (pC k=(⟨0,0,0,0⟩,2)):=Z (by rw[C.1,aS (.inr (by rw[HI.1,<-HM.1];simpa using d4))]);go_wp2_with (refine aU Y 165 (.tmp 2) (.tmp 56) Y Y Y y.1 Y kf oC ?_;intro B b e);exact aO (dM Y Y b Y) Y (F.1 2 _ _ Q.1 y.1 h.1 b e)
   |true=>
    have HI:=Z d2;have a0:N (0<=i):=Z (by simp[lm] at d2;omega);have j5:¬i<0:=oB a0.1;clear d2;by_cases d4:b2=3
    .subst d4
     obtain⟨g,v,w,rfl⟩:∃g v w,o=[g,v,w]:=by
      have c3:=HM.1
      match o,c3 with
      |[g,v,w],_=>exact⟨g,v,w,Y⟩
     obtain⟨c6,i1,d5⟩:=d7.1 1 g Y;have c7:=Z d5;have g0:N (c6.size<=1000000):=Z (by have:=e1.1 g sI;rw[<-c7.1,iF] at this;exact this);have g1:=dh U.1;have V:=bx d6.1;clear d5;obtain⟨j1,o6,j8⟩:=d7.1 2 v Y;have j3:=Z j8;have l6:N (j1.size<=1000000):=Z (by have:=e1.1 v sI;rw[<-j3.1,iF] at this;exact this);have l8:=iU U.1;have a7:=dh d6.1;clear j8;obtain⟨j2,o7,j9⟩:=d7.1 3 w Y;have j4:=Z j9;have l7:N (j2.size<=1000000):=Z (by have:=e1.1 w sI;rw[<-j4.1,iF] at this;exact this);have l9:=iT U.1;have a8:=iU d6.1;clear j9;have b5:∀A,i2.frozen? (H q A)=δ:=λA=>aG U.1 A;have n3:=i9.1;have m7:=a1.1;have i0:=b5 1;have o3:=b5 2;have o4:=b5 3;clear b5;go_wp2_with fail;refine eE 4 ?_;rw[bN];go_wp2_with fail;refine sg (Num.pA c6 _ g0.1) ?_;rintro f p0 ⟨rfl,h6⟩;rw[c7.1];obtain⟨d,b1⟩:=M (Num.Ko g);obtain⟨r,b0⟩:=M (Num.JH g);rw[<-b1,<-b0];subst h6;have a5:N (rO g=(d,r)):=Z (by rw[Num.rW,b1,b0]);clear b1 b0;by_cases X:r=0
     .subst X
      go_wp2_with fail;rw[bN];go_wp2_with fail;refine sg (Num.pA j1 _ l6.1) ?_;rintro f q1 ⟨rfl,n5⟩;rw[j3.1];obtain⟨s,h0⟩:=M (Num.Ko v);obtain⟨a9,g3⟩:=M (Num.JH v);rw[<-h0,<-g3];subst n5;have f8:N (rO v=(s,a9)):=Z (by rw[Num.rW,h0,g3]);clear h0 g3;by_cases f6:a9=0
      .subst f6
       go_wp2_with fail;rw[bN];go_wp2_with fail;refine sg (Num.pA j2 _ l7.1) ?_;rintro f q2 ⟨rfl,n6⟩;rw[j4.1];obtain⟨G,h1⟩:=M (Num.Ko w);obtain⟨c1,g4⟩:=M (Num.JH w);rw[<-h1,<-g4];subst n6;have i7:N (rO w=(G,c1)):=Z (by rw[Num.rW,h1,g4]);clear h1 g4;by_cases f7:c1=0
       .subst f7
        go_wp2_with fail;rw[bN];go_upto_region 23 with fail;(refine cT (λb4 W=> ?_);have a6:N (aY b4 q #[I i,I d,I s,I G] 165):=Z (by rw[W];have:=(aD (aD (aD U.1 1 (I d)) 2 (I s)) 3 (I G));simpa using this);have R:N (aY b4 b3 #[aI,aI,aI,aI] 165):=Z (by rw[W];exact(bi (bi (bi y.1 (H q 1) z.1 (I d)) (H q 2) z.1 (I s)) (H q 3) z.1 (I G)));have b7:N (Fr j K b4):=Z (by rw[W];exact(((Q.1.cN (H q 1) x.1 (I d)).cN (H q 2) x.1 (I s)).cN (H q 3) x.1 (I G)));have t:N (jn [g,v,w]=([d,s,G],0)):=Z (by simp[jn,a5.1,f8.1,i7.1]);have s1:=dh a6.1;have s2:=iU a6.1;clear W i1 g1 V i0 o6 l8 a7 o3 o7 l9 a8 o4;have b9:N (pC k=if 8<=d\/16<=s then(⟨0,0,0,0⟩,4) else(⟨i,d,s,G⟩,0)):=Z (by rw[C.1,aR (by have:=a0.1;rw[HI.1];simp;omega),aR (by rw[t.1];simp),t.1];rfl));by_cases g2:8<=d
        .skip
         have h:N (pC k=(⟨0,0,0,0⟩,4)):=Z (by rw[b9.1,aS (.inl g2)]);go_wp2_with (refine aU Y 165 (.tmp 2) (.tmp 88) Y Y Y R.1 Y kf oC ?_;intro B b e);exact aO (dM Y Y b Y) Y (F.1 4 _ _ b7.1 R.1 h.1 b e)
        by_cases m2:16<=s
        .skip
         have h:N (pC k=(⟨0,0,0,0⟩,4)):=Z (by rw[b9.1,aS (.inr m2)]);go_wp2_with (refine aU Y 165 (.tmp 2) (.tmp 88) Y Y Y R.1 Y kf oC ?_;intro B b e);exact aO (dM Y Y b Y) Y (F.1 4 _ _ b7.1 R.1 h.1 b e)
        skip
        have h:N (pC k=(⟨i,d,s,G⟩,0)):=Z (by rw[b9.1,aR O]);go_wp2_with (first|(refine bU Y 165 (.tmp 6) Y Y a6.1 underlying165 Y kf ?_)|(refine aU Y 165 (.tmp 2) (.tmp 89) Y Y Y R.1 Y kf oC ?_;intro B b e));exact aO (dM Y Y b Y) Y ⟨by rw[h.1];rfl,b7.1.keep e (λA f=>f▸e2.1)⟩
       skip
       have h8:(c1 !=0)=γ:=sU f7;have t:N ((jn [g,v,w]).2=c1):=Z (by simp[jn,a5.1,f8.1,i7.1,f7]);have D:=Z (bi (bi (bi y.1 (H q 1) z.1 (I d)) (H q 2) z.1 (I s)) (H q 3) z.1 (I G));have a4:=Z (((Q.1.cN (H q 1) x.1 (I d)).cN (H q 2) x.1 (I s)).cN (H q 3) x.1 (I G));have h:N (pC k=(⟨0,0,0,0⟩,c1)):=Z (by rw[C.1,aR (by have:=a0.1;rw[HI.1];simp;omega),t.1,aS f7]);go_wp2_with (refine aU Y 165 (.tmp 2) (.tmp 77) Y Y Y D.1 Y kf oC ?_;intro B b e);exact aO (dM Y Y b Y) Y (F.1 c1 _ _ a4.1 D.1 h.1 b e)
      skip
      have h8:(a9 !=0)=γ:=sU f6;have t:N ((jn [g,v,w]).2=a9):=Z (by simp[jn,a5.1,f8.1,f6]);have D:=Z (bi (bi y.1 (H q 1) z.1 (I d)) (H q 2) z.1 (I s));have a4:=Z ((Q.1.cN (H q 1) x.1 (I d)).cN (H q 2) x.1 (I s));have h:N (pC k=(⟨0,0,0,0⟩,a9)):=Z (by rw[C.1,aR (by have:=a0.1;rw[HI.1];simp;omega),t.1,aS f6]);go_wp2_with (refine aU Y 165 (.tmp 2) (.tmp 77) Y Y Y D.1 Y kf oC ?_;intro B b e);exact aO (dM Y Y b Y) Y (F.1 a9 _ _ a4.1 D.1 h.1 b e)
     skip
     have h8:(r !=0)=γ:=sU X;have t:N ((jn [g,v,w]).2=r):=Z (by simp[jn,a5.1,X]);have D:=Z (bi y.1 (H q 1) z.1 (I d));have a4:=Z (Q.1.cN (H q 1) x.1 (I d));have h:N (pC k=(⟨0,0,0,0⟩,r)):=Z (by rw[C.1,aR (by have:=a0.1;rw[HI.1];simp;omega),t.1,aS X]);go_wp2_with (refine aU Y 165 (.tmp 2) (.tmp 77) Y Y Y D.1 Y kf oC ?_;intro B b e);exact aO (dM Y Y b Y) Y (F.1 r _ _ a4.1 D.1 h.1 b e)
    have m9:((b2:T)+1==4)=δ:=sO;have n0:((b2:T)+1 !=4)=γ:=sO;have h:N (pC k=(⟨0,0,0,0⟩,2)):=Z (by rw[C.1,aS (.inr (by rw[HI.1,<-HM.1];simpa using d4))]);go_wp2_with (refine aU Y 165 (.tmp 2) (.tmp 56) Y Y Y y.1 Y kf oC ?_;intro B b e);exact aO (dM Y Y b Y) Y (F.1 2 _ _ Q.1 y.1 h.1 b e)
 have r:(f5==0)=δ:=sU f2;have a9:(f5 !=0)=γ:=sU f2;have c5:N (pC k=(⟨0,0,0,0⟩,f5)):=Z (by rw[b8.1];exact VO (by rw[<-b8.1];exact f2));go_wp2_with (refine aU Y 165 (.tmp 2) (.tmp 19) Y Y Y e3.1 Y kf oC ?_;intro B b e);exact aO (dM Y Y b Y) Y ⟨by rw[c5.1];rfl,d8.1.keep e (λA f=>f▸e2.1)⟩
def fin(b:L Ev)(a:L Ev×T×T):L Ev×T×T:=if a.2.2≠0 then([],a.2) else(b++a.1,0,0)
theorem Tu(d b a c):fin d (lu b (a::c))=if(pC a).2≠0 then([],(b:T)+1,(pC a).2) else fin (d++[(pC a).1]) (lu (b+1) c):=by
 by_cases d:(pC a).2=0<;>by_cases a:(lu (b+1) c).2.2=0<;>simp[fin,lu,d,a]
theorem Pc{a:L (L μ)}(b:a[m]? =S u):fin e1 (lu m (a.drop m))=if(pC u).2≠0 then([],(m:T)+1,(pC u).2) else fin (e1++[(pC u).1]) (lu (m+1) (a.drop (m+1))):=by
 rw[<-Tu,nR (cj.1 b).1,(cj.1 b).2]
theorem Wm:∀(a:E)(b:L (L μ)),fin [] (lu a b)=lu a b
 |a,[]=>by simp[fin,lu]
 |c,b::d=>by
  by_cases a:(pC b).2=0<;>by_cases b:(lu (c+1) d).2.2=0<;>simp[fin,lu,a,b]
theorem Nj{l x:L μ}(a:x∈(fu l).1):x.length<=l.length:=by
 unfold fu at a;split at a
 .simp at a
 split at a
 .simp at a
 split at a
 .simp at a
 exact jQ 10 l x (L.dropLast_subset _ a)
theorem Mm(a):(fu a).1.length<=400:=by
 unfold fu;split
 .simp
 split
 .simp
 split
 .simp
 simp only[];omega
def DR(a:L Ev×T×T)(e:ε)(d:Ending)(b:ε):Prop:=∃c,d=.returned (.tuple #[c,I a.2.1,I a.2.2])/\RE b c a.1/\Fr j e b
theorem uG{a:θ ζ}{c q d:E}(g:a[2]?.getD undef=aP c 0)(h:a[3]?.getD undef=aP q 0)(i:a[4]?.getD undef=aP d 0)(b:CV W c q d x i1 i2):
  (results Tryz.f40 a).run prog W=.ok (.tuple #[x,I i1,I i2]) W:=by
 have f:Tryz.f40.results=#[.cell 2 116,.cell 3 3,.cell 4 29]:=Y;have a:=aj b.ha 0;have e:=aj b.hb 0;have b:=aj b.hc 0;simp at a e b;have a:(loadVar 116 (H c 0)).run prog W=.ok x W:=by simp[go_sem,a]
 have c:(loadVar 3 (H q 0)).run prog W=.ok (I i1) W:=by simp[go_sem,e]
 have b:(loadVar 29 (H d 0)).run prog W=.ok (I i2) W:=by simp[go_sem,b]
 simp[results,f,g,h,i,asAddr,a,c,b,Result.andThen]
theorem Wy(P k)(c8:Gw k)(h9:P.size<1000000):aQ 40 #[.string P] k (DR (gI P.data.toList) k):=by
 obtain⟨i,a5⟩:=M P.data.toList;rw[<-a5];obtain⟨c,v⟩:=M (fu i);obtain⟨l,p⟩:=c;have c3:N (gI i=if p≠0 then([],0,p) else lu 0 l):=Z (by unfold gI;rw[<-v])
 have g6:N (∀e∈l,e.length<1000000):=Z (λe G=>by
  have h6:=Nj (l:=i) (x:=e) (by rw[<-v];exact G);have b8:i.length=P.size:=by rw[a5,iF]
  omega)
 have g4:l.length<=400:=(by have:=Mm i;rw[<-v] at this;exact this);have g5:N (fu P.data.toList=(l,p)):=Z (by rw[v,a5]);clear v a5;go_enter_defers func40,ntmps40
 go_wp
 refine aZ.nm (λe8 a5=> ?_);obtain⟨d,c0⟩:=M k.heap.size;obtain⟨q,e4⟩:=M (d+1);obtain⟨c,v⟩:=M (q+1);try rw[<-c0,<-e4,<-v]
 have f2:CV e8 d q c aV 0 0:=⟨by rw[a5];exact aC (aC (bM c0) _) _,by rw[a5];exact aC (bM sO) _,by rw[a5];exact bM sO⟩;have c5:=Ol a5;have f:N (k.heap.size<=d/\k.heap.size<=q/\k.heap.size<=c/\d≠q/\d≠c/\q≠c):=Z O;clear a5 c0 e4 v;refine sg (Mg P e8 (c8.fr c5) h9) ?_;rw[g5.1];rintro a i2 ⟨w,rfl,i0,g⟩;obtain⟨d5,d6,e6,i6,rfl,e1,h8,h4⟩:=i0;obtain⟨K,v⟩:=M l.length;simp only[<-v] at e1 |-;have HN:=Z v;have P:K<=400:=oB g4;have n:=(f2.fr g id id id);have c6:=(c5.step g);clear v g e1 h8;have s:=bx n.hc;have z:=aG n.hc 0;have d1:N (∀(v:ε)(w:ζ)(e c0 a5 U:T)(P:θ ζ),gI i=([],a5,U)->CV v d q c w e c0->Fr j k v->P[2]?.getD undef=aP d 0->P[3]?.getD undef=aP q 0->P[4]?.getD undef=aP c 0->
   bodyPostD prog Tryz.f40 (DR (gI i) k) (.panic [{v:=wQ a5 U,recovered:=δ}]) ⟨P,[{target:=.fn (.func 65) #[aP d 0,aP q 0,aP c 0],args:=#[]}]⟩ v):=Z (λv w e c0 a5 U P D m hF b8 d9 e0=>by
  refine nJ (f:=65) (args:=#[aP d 0,aP q 0,aP c 0]) sI (by simp[go_sem]) ?_;refine(LI d q c v w e c0 a5 U m f.1.2.2.2.1 f.1.2.2.2.2.1 f.1.2.2.2.2.2).mono ?_;rintro a f1 y ⟨rfl,rfl,h7,B⟩;simp only[Leaves,settle];exact⟨_,uG b8 d9 e0 h7,_,by rw[D],by rw[D];exact RE.nil _,hF.keep B (λe5 a=>by have:=f.1;omega)⟩)
 by_cases b0:p=0
 .subst b0
  go_wp
  refine aZ.nm (λx F=> ?_);have o:CV x d q c aV 0 0:=(by rw[F];exact⟨bi n.ha (H c 0) f.1.2.2.2.2.1 _,bi n.hb (H c 0) f.1.2.2.2.2.2 _,sU (aD n.hc 0 aI)⟩);have b6:bT c i2 x:=by rw[F];exact rF.aK _ _
  have a6:=(c6.keep b6 (λe5 a=>a▸f.1.2.2.1));have h5:fF 9 1 CS x d5 d6 e6 l:=(h4.aJ CSs b6 (λe7 b a4 u a=>u.ne ⟨_,_,a▸n.hc⟩ (a4.elim (λa=>by subst a;decide) (λe=>e.elim)) Y));have f6:N (gI i=fin [] (lu 0 l)):=Z (by rw[c3.1,aR sI,Wm]);have f5:=a6.size;clear F b6 s z;refine sg (tU 0 0 x) ?_;rintro a r ⟨rfl,⟨-,rfl⟩|⟨C,-⟩⟩
  case inr=>exact absurd Y C
  go_wp2;go_loopg [20] K (λgk s20 wr=>∃(b:E)(w:ζ)(t:L Ev),b+gk=K/\s20=I b/\wr.ownsRow r.heap.size 165 4 w b (ec t)/\t.length=b/\CV wr d q c w 0 0/\Fr j k wr/\fF 9 1 CS wr d5 d6 e6 l/\r.heap.size<=wr.heap.size/\gI i=fin t (lu b (l.drop b)))
  .exact⟨0,_,[],du,Y,iL _ _ _ _,Y,o,a6,h5,eG,f6.1⟩
  case round=>
   obtain⟨b,w,t,u,rfl,a7,e2,m,b1,a3,g3,D⟩:=hrel;have⟨HK,c9⟩:=bD u e2;have d4:=m;have SS:=a3;have b2:=Z D;obtain⟨V,W,rfl,-,-⟩:=bB a7;have v:b<=K:=O;have s:=bx m.ha;have z:=aG m.ha 0;have d7:=bx m.hb;have e9:=aG m.hb 0;have d8:=bx m.hc;have f0:=aG m.hc 0;clear u e2 D;by_cases v:b<K
   .clear m
    obtain⟨e,G⟩:=gE l b fU;obtain rfl:=a3.addr G;obtain⟨v,i1,m⟩:=a3.str G;have⟨d0,HT⟩:=bD G m;have⟨w,P⟩:=dy b K;have w:v.size<1000000:=(by have:=g6.1 e (bQ G);rw[<-m,iF] at this;exact this);clear G m a3;(go_wp);refine sg (WH v wr (c8.fr b1) w) ?_;rw[HT.1];obtain⟨⟨⟨a0,X,a2,a1⟩,U⟩,c1⟩:∃c,c=pC e:=⟨_,Y⟩;rw[<-c1];have d2:=Z c1;clear c1;rintro a i3 ⟨rfl,g⟩;simp only[Ev.val];have b6:=(d4.fr g id id id);have a5:=(g.owns a7 (λ_ _ e=>e));have P:=(b1.step g);have c0:=(SS.f g);have G:=(bX g3 g.size);clear g s z d7 e9 d8 f0 i1;(go_wp);refine nqS i3 ?_;intro c1 v m w;have m:=cY v;have a9:=(b6.fr m id id id);have g7:=(m.owns a5 (λ_ _ e=>e));have c7:=(P.step m);have h1:=(c0.f m);have f3:=(bX G m.size);have g2:=dL v w;clear v w m;refine sg (tU (b+1) U c1) ?_;rintro a i4 ⟨rfl,⟨C,rfl⟩|⟨C,rfl⟩⟩
    .subst C
     have f8:N (gI i=fin (t++[⟨a0,X,a2,a1⟩]) (lu (b+1) (l.drop (b+1)))):=Z (by rw[b2.1,Pc d0.1,<-d2.1];simp);have s:=bx a9.ha;have z:=aG a9.ha 0;obtain⟨w,G,P,U,-⟩:=gZ g2.1;go_wp2_with (at_builtin;refine stop ?_);refine aZ.go (AM (λi5 v=> ?_));obtain⟨l,m⟩:=M i4.heap.size;rw[<-m];have l:=cY v;have d3:=(dL v m).1;have b3:=l.owns g7 (λ_ _ e=>e);have g9:=(a9.fr l id id id);have f9:=(c7.step l);have h2:=(h1.f l);have c2:=(bX f3 l.size);clear v m l s z w G P U;have a8:N (d<r.heap.size/\q<r.heap.size/\c<r.heap.size):=Z ⟨ba o.ha,ba o.hb,ba o.hc⟩;refine eD Y (.tmp 34) (.tmp 36) Y JP Y b3 (m:=1) (news:=ec [⟨a0,X,a2,a1⟩]) Y Y (eF.block (cs:=#[I a0,I X,I a2,I a1]) d3 (Jk [⟨a0,X,a2,a1⟩])) O mL c2 ?_;intro l y b9 e3 D;obtain⟨b4,b5,rfl,-,-⟩:=bB b9;have B:=bq e3;have Q:∀h,(ζ.slice V b W).ownBlock=S h->r.heap.size<=h/\fE 165 i5 h:=λh A=>aW b3 A;have R:=(g9.fr B (λa=>by have:=(Q _ a).1;have:=a8.1;omega) (λa=>by have:=(Q _ a).1;have:=a8.1;omega) (λa=>by have:=(Q _ a).1;have:=a8.1;omega));have g0:=(f9.keep B (λe5 a=>bX f5 (Q _ a).1));have h3:=(h2.aJ CSs B (λe7 h a4 u a=>u.ne (Q _ a).2 (a4.elim (λa=>by subst a;decide) (λe=>e.elim)) Y));have f4:=(bX c2 B.size);have OB:N (∀h,(ζ.slice b4 (b+1) b5).ownBlock=S h->r.heap.size<=h):=Z (λh A=>(aW b9 A).1);have s:=bx R.ha;have z:=aG R.ha 0;clear e3 D B Q b3 d3;go_wp2;go_roundg (gk-1)
     .have b7:bT d y (y.setCell (H d 0) (.slice b4 (b+1) b5)):=rF.aK _ _
      refine⟨b+1,_,t++[⟨a0,X,a2,a1⟩],oB HK.1,by go_num,?_,by simp[c9.1],⟨sU (aD R.ha 0 (.slice b4 (b+1) b5)),bi R.hb (H d 0) f.1.2.2.2.1.symm _,bi R.hc (H d 0) f.1.2.2.2.2.1.symm _⟩,g0.cN (H d 0) f.1.1 _,h3.aJ CSs b7 (λe7 h a4 u a=>u.ne ⟨_,_,a▸R.ha⟩ (a4.elim (λa=>by subst a;decide) (λe=>e.elim)) Y),bX f4 b7.size,f8.1⟩
      have:=b7.owns b9 (λh A a=>by have:=OB.1 h A;have:=a8.1;omega);rw[ec,ny];exact this
     have:=HK.1;omega
    (go_wp);exact d1.1 _ _ _ _ _ _ _ (by rw[b2.1,Pc d0.1,<-d2.1,aS C]) a9 c7 Y Y Y
   (obtain rfl:b=K:=O;have c4:N (gI i=(t,0,0)):=Z (by rw[b2.1,dY fU];simp[fin,lu]);clear a3;have l:=f.1.2.2.2.1;have u:=f.1.2.2.2.2.1;have v:=f.1.2.2.2.2.2;have m:=l.symm;have m:=u.symm;have m:=v.symm;go_wp2;have m:=d4.put l u v (.slice V b W) 0 0;obtain⟨y,l⟩:=M (((wr.setCell (H d 0) (.slice V b W)).setCell (H q 0) aI).setCell (H c 0) aI);have h0:CV y d q c (.slice V b W) 0 0:=by rw[l];exact⟨m.ha,m.hb,m.hc⟩);(have g1:Fr j k y:=by rw[l];exact((b1.cN (H d 0) f.1.1 _).cN (H q 0) f.1.2.1 _).cN (H c 0) f.1.2.2.1 _);have g8:y.ownsRow r.heap.size 165 4 (.slice V b W) b (ec t):=by
    (have t:Fr (λb=>b=d\/b=q\/b=c) wr y:=by rw[l];exact(((rF.setCell (H d 0) (λ_=>.inl Y) _).setCell (H q 0) (λ_=>.inr (.inl Y)) _).setCell (H c 0) (λ_=>.inr (.inr Y)) _));refine t.owns a7 (λh A a=> ?_);have h6:=(aW a7 A).1;have b8:=ba o.ha;have d9:=ba o.hb;have e0:=ba o.hc;omega
   rw[<-l];clear l s z d7 e9 d8 f0 m;refine nJ (f:=65) (args:=#[aP d 0,aP q 0,aP c 0]) sI (by simp[go_sem]) ?_;refine(Ny _ _ _ _).mono ?_;rintro a f1 b ⟨rfl,rfl,g⟩;simp only[Leaves,settle];refine⟨_,uG Y Y Y (h0.fr g id id id),_,by rw[c4.1],?_,g1.step g⟩;rw[c4.1];exact RE.qc c9.1.symm (g.owns g8 (λ_ _ e=>e))
 have b:(p !=0)=γ:=sU b0;go_wp
 refine aZ.nm (λx F=> ?_);have o:CV x d q c aV 0 p:=(by rw[F];exact⟨bi n.ha (H c 0) f.1.2.2.2.2.1 _,bi n.hb (H c 0) f.1.2.2.2.2.2 _,sU (aD n.hc 0 (I p))⟩);have a6:Fr j k x:=(by rw[F];exact c6.cN (H c 0) f.1.2.2.1 _);have f7:N (gI i=([],0,p)):=Z (by rw[c3.1,aS b0]);clear F s z;refine sg (tU 0 p x) ?_;rintro a r ⟨rfl,⟨C,-⟩|⟨-,rfl⟩⟩
 .exact absurd C b0
 go_wp
 exact d1.1 _ _ _ _ _ _ _ f7.1 o a6 Y Y Y
section
open Go.RowKit Go.Maps
def Eh(a:It):ζ:=.agg #[I a.1,I a.2]
def ZB(a:It):Prop:=(Lit.int .i64 a.1).wf=γ/\(Lit.int .i64 a.2).wf=γ
theorem JF{a b:It}(c:Eh a=Eh b):a=b:=by
 obtain⟨a,d⟩:=a;obtain⟨a,b⟩:=b;simp[Eh] at c;obtain⟨rfl,rfl⟩:=c;rfl
theorem kr:Keyed prog 200:=Keyed.of_law (deep_law (m:=2) O kR kR kR)
theorem AX{a:It}(b:ZB a):∃c,keyOf prog 200 (Eh a)=S c:=by
 obtain⟨d,e⟩:=b;have b:prog.cellsOf 200=2:=kR;have c:prog.cellsOf 3=1:=kR;have f:(Eh a).formed prog 200=γ:=by simp[ζ.formed,underlying200,Eh,b]
 have h:prog.keyType 200=γ:=kR;obtain⟨i,g⟩:∃g,prog.types.size=g+1:=⟨prog.types.size-1,(E.succ_pred_eq_of_pos (by decide+kernel)).symm⟩;have b:prog.keyLits (prog.types.size+1) 200 [.int .i64 a.1,.int .i64 a.2]=S [.int .i64 a.1,.int .i64 a.2]:=by
  rw[g];simp[Program.keyLits,underlying200,underlying3,b,c,d,e]
 refine⟨.string (keyBytes [.int .i64 a.1,.int .i64 a.2]),?_⟩;simp only[keyOf,underlying200,h,f];simp only[Eh,ζ.cells,κ.and_self,eX];rw[b];rfl
def Nv(a:ζ):ι (DataW Unit×L MemPlace):=
 match a with
 |.agg a=>(match a.toList with|[.int .i64 x,.int .i64 y]=>S (.agg [.lit (.int .i64 x),.lit (.int .i64 y)],[])|_=>η)
 |_=>η
theorem Lm(a b:T):Nv (.agg #[.int .i64 a,.int .i64 b])=S (.agg [.lit (.int .i64 a),.lit (.int .i64 b)],[]):=Y
theorem Sm{d:DataW Unit×L MemPlace}(a:Nv x=S d):∃b c,x=.agg #[.int .i64 b,.int .i64 c]/\d=(.agg [.lit (.int .i64 b),.lit (.int .i64 c)],[]):=by
 cases x with
 |agg c=>
  obtain⟨c⟩:=c
  match c,a with
  |[.int .i64 c,.int .i64 d],b=>exact⟨c,d,Y,(cI b).symm⟩
 |_=>simp[Nv] at a
theorem Zp(a:ε):(zeroValue 190).run prog a=.ok (.agg #[aI,aI]) a:=kR
def MB(d:ε)(b:E)(a:By):Prop:=
 ∃c:DataW Unit,d.ownsMap prog 200 Nv b a.length c/\∀b d,keyOf prog 200 (Eh b)=S d->has c d=(ml b a).isSome/\c.atKey d (.agg [.lit (.int .i64 0),.lit (.int .i64 0)])=.agg [.lit (.int .i64 ((ml b a).getD (0,0)).1),.lit (.int .i64 ((ml b a).getD (0,0)).2)]
theorem MB.fr{w a:ε}{b:By}{S:E->Prop}(c:MB w m b)(d:Fr S w a)(f:¬S m):MB a m b:=by
 obtain⟨a,⟨c,b,g,h⟩,e⟩:=c;exact⟨a,⟨c,b,d.aB g f,h⟩,e⟩
theorem MB.keep{b w':ε}{a:By}(d:MB b m a)(c:Fr j b w'):MB w' m a:=d.fr c id
theorem MB.obj{a:By}(c:MB W m a):∃b a,W.heap[m]? =S (.map b a):=by
 obtain⟨b,⟨d,c,a,f⟩,e⟩:=c;exact⟨_,_,a⟩
theorem MB.made(a:m=W.heap.size):MB (W.alloc (.map #[] 0)) m []:=
 ⟨.map [],by rw[a];exact ε.ownsMap_made _ _ _ _,λb a _=>⟨Y,Y⟩⟩
theorem sq(l:o2.guard=η)(b c:Operand)(p:o2.op=Op.lookup 188 b c γ){a:By}{i:It}
  (o:a1.eval b=.map (S m))(f:MB W m a)(s:a1.eval c=Eh i)(n:ZB i)
  (k:wpList prog o1 Q r1 (a1.put o2.dst (.tuple #[.agg #[.int .i64 ((ml i a).getD (0,0)).1,.int .i64 ((ml i a).getD (0,0)).2],.bool (ml i a).isSome])) W):wpList prog o1 Q (o2::r1) a1 W:=by
 obtain⟨f,r,h⟩:=f;obtain⟨n,a⟩:=AX n;obtain⟨g,h⟩:=h i n a;refine wpList_lookup_own_ok _ l b c 188 p 200 190 kr underlying188 Nv (Zp W) _ _ (Lm 0 0) m _ f o r _ _ s a ?_;intro b a d;rw[h] at d;obtain⟨t,u,rfl,e⟩:=Sm d;simp only[gW,DataW.agg.injEq,iY,DataW.lit.injEq,Lit.int.injEq,ll,gT] at e;obtain⟨⟨a,b⟩,-⟩:=e;rw[g,<-a,<-b];exact k
theorem Eb(t:o2.guard=η)(f h g:Operand)(x:o2.op=Op.mapUpdate 188 f h g){a:By}{i j:It}
  (w:a1.eval f=.map (S m))(l:MB W m a)(z:a1.eval h=Eh i)(y:a1.eval g=Eh j)(u:ZB i)(v:a.length<maxLen)
  (r:∀b,MB b m ((i,j)::a)->Fr (λc=>c=m) W b->wpList prog o1 Q r1 (a1.put o2.dst undef) b):wpList prog o1 Q (o2::r1) a1 W:=by
 obtain⟨p,l,s⟩:=l;obtain⟨n,b⟩:=AX u;refine wpList_mapUpdate_own _ t f h g 188 x 200 190 kr underlying188 Nv m _ p w l v _ _ n z y b _ [] (Lm j.1 j.2) ?_;intro f g h;refine r f ⟨_,g,λd o c=> ?_⟩ ((bq h).mono (λ_ _ e=>by simpa using e.symm));have k:=l.isMap;by_cases e:i=d
 .subst e
  rw[b] at c;obtain rfl:=cI c;have f:=atKey_put_same k (kr.key b) (.agg [.lit (.int .i64 j.1),.lit (.int .i64 j.2)]) (.agg [.lit (.int .i64 0),.lit (.int .i64 0)]);refine⟨?_,?_⟩
  .rw[has_put_same k (kr.key b)];simp[ml]
  rw[f];simp[ml]
 have b:o≠n:=λf=>e (JF (kr.inj b (f▸c)));have a:ml d ((i,j)::a)=ml d a:=by simp[ml,e]
 rw[a,has_put_other b,atKey_put_other b];exact s d o c
def MZ(d:ε)(b:E)(c:L It):Prop:=
 ∃a:DataW Unit,d.ownsMap prog 200 (plainElem prog 4) b c.length a/\∀d b,keyOf prog 200 (Eh d)=S b->a.atKey b (.lit (.bool δ))=.lit (.bool (c.contains d))
theorem MZ.fr{w a:ε}{S:E->Prop}(b:MZ w m R)(d:Fr S w a)(f:¬S m):MZ a m R:=by
 obtain⟨a,⟨c,b,g,h⟩,e⟩:=b;exact⟨a,⟨c,b,d.aB g f,h⟩,e⟩
theorem MZ.keep{a w':ε}(c:MZ a m R)(b:Fr j a w'):MZ w' m R:=c.fr b id
theorem MZ.obj(c:MZ W m R):∃b a,W.heap[m]? =S (.map b a):=by
 obtain⟨b,⟨d,c,a,f⟩,e⟩:=c;exact⟨_,_,a⟩
theorem MZ.made(a:m=W.heap.size):MZ (W.alloc (.map #[] 0)) m []:=
 ⟨.map [],by rw[a];exact ε.ownsMap_made _ _ _ _,λb a _=>Y⟩
theorem MZ.look(c:MZ W m R){b:It}(e:ZB b):(Instr.lookup 198 (.map (S m)) (Eh b) δ).run prog W=.ok (.bool (R.contains b)) W:=by
 obtain⟨c,g,f⟩:=c;obtain⟨h,c⟩:=AX e;obtain⟨d,g,e,a⟩:=g.lookup kr underlying198 (ZU W) (zd:=.lit (.bool δ)) (zp:=[]) (plainElem_bool underlying4 δ) c;rw[e];rw[f b h c] at a;have:d=.bool (R.contains b):=by
  unfold plainElem at a;rw[underlying4] at a;cases d<;>simp at a
  simp[a]
 rw[this]
theorem DK(r:o2.guard=η)(d f e:Operand)(w:o2.op=Op.mapUpdate 198 d f e){i:It}
  (v:a1.eval d=.map (S m))(h:MZ W m R)(y:a1.eval f=Eh i)(x:a1.eval e=.bool γ)(s:ZB i)(u:R.length<maxLen)
  (o:∀a,MZ a m (R++[i])->bT m W a->wpList prog o1 Q r1 (a1.put o2.dst undef) a):wpList prog o1 Q (o2::r1) a1 W:=by
 obtain⟨n,h,p⟩:=h;obtain⟨k,a⟩:=AX s;refine wpList_mapUpdate_own _ r d f e 198 w 200 4 kr underlying198 (plainElem prog 4) m _ n v h u _ _ k y x a _ [] (plainElem_bool underlying4 γ) ?_;intro d e f;refine o d ⟨_,by rw[cA];exact e,λg l b=> ?_⟩ ((bq f).mono (λ_ _ c=>by simpa using c.symm));have t:=h.isMap;by_cases c:i=g
 .subst c
  rw[a] at b;obtain rfl:=cI b;rw[atKey_put_same t (kr.key a)];simp
 have a:l≠k:=λd=>c (JF (kr.inj a (d▸b)));rw[atKey_put_other a,p g l b];have:g≠i:=λa=>c a.symm;simp[this]
end
theorem Bg{b:θ MapEntry}(c:W.heap[m]? =S (.map b n2))(d:W.cell? (H q n1)=S x):q≠m:=λa=>by
 subst a;simp[ε.cell?,c] at d
theorem AZ.past{d:θ MapEntry}(c:AZ W A m q e1)(a:bT n1 W V)(b:W.heap[n1]? =S (.map d n2)):AZ V A m q e1:=
 ⟨c.1,λf d e=>by
  obtain⟨c,d,e,f⟩:=c.2 f d e;exact⟨a.aF c (Bg b c),a.aF d (Bg b d),a.aF e (Bg b e),a.aF f (Bg b f)⟩⟩
theorem Oy{c:T×T}{a:Ev}(d:e1[m]? =S a)(b:By):jX c (e1.drop m) b=if a.k≠2 then jX c (e1.drop (m+1)) b else if a.v=0 then(b,7) else if(ml (a.y,a.v) b).isSome then(b,8) else jX c (e1.drop (m+1)) (((a.y,a.v),c)::b):=by
 rw[nR (cj.1 d).1,(cj.1 d).2];rfl
theorem ZH{a:Ev}(c:yX a=γ):ZB (a.y,a.v):=by
 simp only[yX,bA] at c;obtain⟨-,b⟩:=c;split at b
 .simp at b
  exact⟨kD (by simp only[];omega),kD (by simp only[];omega)⟩
 simp at b;exact⟨kD (by simp only[];omega),kD (by simp only[];omega)⟩
def NTR(b:E)(c:By×T)(e:ε)(d:Ending)(a:ε):Prop:=d=.returned (I c.2)/\MB a b c.1/\bT b e a
theorem El(n:Tx)(V:ζ)(w:It)(o:E)(t:By)(k:ε)(z:RE k V n.o)(a6:n.o.all wJ=γ)(a3:MB k o t)(U:t.length+n.o.length<1000000):
  aQ 72 #[.map (S o),.agg #[I n.s,.bool n.d,I n.f,V],Eh w] k (NTR o (jX w n.o t) k):=by
 obtain⟨c3,V,b8,m⟩:=n;obtain⟨g,h⟩:=w;simp only at z a6 U |-;obtain⟨b5,b6,b9,a9,rfl,a4,a5,b2⟩:=z;obtain⟨s,n⟩:=M (jX (g,h) m t);rw[<-n];obtain⟨r,V⟩:=M m.length;rw[<-V] at a4 U |-;have HN:=Z V;unfold maxLen at a5;have a4:r<=9223372036854775807:=O;have b3:=Z n;unfold Eh;clear V n
 delta aQ;go_in
 go_wp2_with fail;refine cT (λa9 V=> ?_);obtain⟨b8,a4⟩:=M k.heap.size;obtain⟨n,a5⟩:=M (b8+1);try rw[<-a4,<-a5]
 have D:Fr j k a9:=(by rw[V];exact((Fr.refl j k).alloc _).alloc _);have b1:(aY a9 n #[I g,I h] 190):=(by rw[V];exact bM sO);have b4:(o<k.heap.size/\n≠o):=(by obtain⟨b8,a9,z⟩:=a3.obj;have:=ba z;omega);clear V a4 a5;go_loopg [15] r (λgk w wr=>∃(b:E)(a:By),b+gk=r/\w=I b/\jX (g,h) (m.drop b) a=s/\MB wr o a/\AZ wr b5 b6 b9 m/\a.length<=t.length+b/\bT o k wr/\aY wr n #[I g,I h] 190)
 .exact⟨0,t,du,Y,b3.1.symm,(a3.keep D),(b2.j D),eG,D.mono (λ_ _ c=>c.elim),b1⟩
 case round=>
  obtain⟨b,a,c2,rfl,a8,P,R,G,C,a7⟩:=hrel;have X:=R;have a2:=Z a7;have k:b<=r:=O;clear a7;by_cases k:b<r
  .obtain⟨d,B⟩:=gE m b fU
   (obtain rfl:=R.addr B;obtain⟨k,n,o,t⟩:=R.2 b d B;have u:N (s=if d.k≠2 then jX (g,h) (m.drop (b+1)) a else if d.v=0 then(a,7) else if(ml (d.y,d.v) a).isSome then(a,8) else jX (g,h) (m.drop (b+1)) (((d.y,d.v),(g,h))::a)):=Z (by rw[<-a8,Oy B]));have K:ZB (d.y,d.v):=(ZH (by
    have:=fY.1 a6 d (bQ B);simp only[wJ,bA] at this;exact this.1))
   have⟨w,z⟩:=dy b r;obtain⟨y,b7,l,e⟩:=d;simp only at k n o t u K;by_cases A:y=2
   .subst A
    go_wp2_with (at_lookup;refine stop ?_);(refine aZ.go (AM (λo d=> ?_));have f:Fr j wr o:=by rw[d];exact((Fr.refl j wr).alloc _).alloc _);obtain⟨t,k⟩:=M wr.heap.size;obtain⟨w,n⟩:=M (t+1);(try rw[<-k,<-n]);have t:=uV d k;have a0:(aY o w #[I l,I e] 200):=(by rw[d];exact bM sO);have x:=(P.keep f);have b0:=(X.j f);have F:=(C.trans f (λ_ _ c=>c) (λ_ _ c=>c.elim));have Q:=(f.hs a2.1);clear d k n;obtain⟨d,k⟩:=M (((ml (l,e) a).getD (0,0)).1);obtain⟨d,n⟩:=M (((ml (l,e) a).getD (0,0)).2);obtain⟨c0,d⟩:=M ((ml (l,e) a).isSome);have a1:=Z d;refine sq Y (.tmp 28) (.tmp 29) Y Y x (i:=(l,e)) Y K ?_;rw[<-k,<-n,<-d];clear k n d;have d:=λi=>iT (aC t.1 i);by_cases v:e=0
    .have c1:(e==0)=γ:=sU v
     have p:(s=(a,7)):=(by rw[u.1,aR sI,aS v]);go_wp2;all_goals(go_ret;exact⟨by rw[p];rfl,by rw[p];exact x.keep cZ,F.alloc _⟩)
    have c1:(e==0)=δ:=sU v;cases c0
    .have p:(s=jX (g,h) (m.drop (b+1)) (((l,e),g,h)::a)):=(by rw[u.1,aR sI,aR v,aR (by rw[<-a1.1];simp)])
     have d:=λi=>bx (aC a0 i);have f:=λi=>dh (aC a0 i);have d:=λi=>bx (aC Q i);have d:=λi=>dh (aC Q i);go_wp2_with (at_mapUpdate;refine stop ?_);refine aZ.go (AM (λd k=> ?_));have d:=cY k;have i:=(x.keep d);have m:=(b0.j d);have n:=(F.trans d (λ_ _ c=>c) (λ_ _ c=>c.elim));have o:=(d.hs Q);clear k;refine Eb Y (.tmp 39) (.tmp 40) (.tmp 41) Y Y i (i:=(l,e)) (j:=(g,h)) Y Y K (by have:=G;have:=U;unfold maxLen;omega) ?_;intro h g d;go_wp2;go_roundg (gk-1)
     .obtain⟨t,k,h⟩:=i.obj
      exact⟨b+1,_,O,by go_num,p.symm,g,m.past d h,by have:=G;simp;omega,n.tr d,d.aB o b4.2⟩
     omega
    have p:(s=(a,8)):=(by rw[u.1,aR sI,aR v,aS (by rw[<-a1.1])]);go_wp2;all_goals(go_ret;exact⟨by rw[p];rfl,by rw[p];exact x.keep cZ,F.alloc _⟩)
   have d:(y==2)=δ:=sU A;have d:(y !=2)=γ:=sU A;go_wp2;go_roundg (gk-1)
   .have f:=(Fr.refl j wr).alloc (.cells #[I y,I b7,I l,I e] 165)
    exact⟨b+1,a,O,by go_num,by rw[u.1,aS A],P.keep f,X.j f,oB G,C.trans f (λ_ _ c=>c) (λ_ _ c=>c.elim),f.hs a2.1⟩
   omega
  obtain rfl:b=r:=O;have W:(s=(a,0)):=(by rw[<-a8,dY fU];rfl);go_wp2;go_ret;exact⟨by rw[W];rfl,by rw[W];exact P,C⟩
theorem AZ.beside{c e q:E}(d:AZ W A c e e1)(a:bT q W V)(b:c≠q):AZ V A c e e1:=
 ⟨d.1,λf c e=>by
  obtain⟨c,d,e,f⟩:=d.2 f c e;exact⟨a.aF c b,a.aF d b,a.aF e b,a.aF f b⟩⟩
theorem OV(h:E)(t:θ ζ)(o:ι Addr)(g y c w q:E)(d:L Ev)(i:Ev->κ)(f:ε)(A:∀a b,(callFunc h a).run prog b=.ok (.enter h a) b)(r:AZ f o g y d)(l:c=d.length)(y:c<=9223372036854775807)(x:g≠q)(g:ε->Prop)(k:g f)
  (m:∀(e:E)(b:Ev)(a:ε),d[e]? =S b->g a->aQ h (#[evv b]++t) a λn e=>n=.returned (.bool (i b))/\bT q a e/\g e):
  aQ 156 #[.slice o c w,.func (.func h) #[] t] f λb a=>b=.returned (I (fx i d))/\bT q f a:=by
 have⟨HP,HN,HJ⟩:=dt m l k;clear m l k
 delta aQ;go_in
 go_wp2_with fail;go_loopg [8] c (λgk a wr=>∃b:E,b+gk=c/\a=I b/\(∀(a:E)(e:Ev),a<b->d[a]? =S e->i e=δ)/\bT q f wr/\g wr)
 .exact⟨0,du,Y,λa e b=>by omega,rF,HJ.1⟩
 case round=>
  obtain⟨b,k,rfl,n,l,e⟩:=hrel;have⟨HK,m,v⟩:=dt k n e;have f:b<=c:=O;clear k n e;by_cases f:b<c
  .obtain⟨k,e⟩:=gE d b fU
   obtain rfl:=r.addr e;obtain⟨g,h,o,r⟩:=(r.beside l x).2 b k e;have d:=HP.1 b k wr e v.1;have n:=Z e;have⟨c,f⟩:=dy b c;clear e;obtain⟨z,c⟩:=M (i k);rw[<-c] at d;have⟨HQ,f⟩:=bD c d;clear c d;obtain⟨c,d,k,i⟩:=k;simp only at g h o r;go_wp2_with fail;refine f.1.mono ?_;rintro c d ⟨rfl,p,s⟩;have u:=Z s;have e:=(l.tr p);clear p s;cases z with
   |true=>
    have c:=Z (Vg n.1 HQ.1.symm m.1);go_wp2;go_ret;exact⟨iB c.1.symm,e⟩
   |false=>
    go_wp2;go_roundg (gk-1)
    .exact⟨b+1,oB HK.1,by go_num,λa d c p=>by
     rcases dP a b with c|c
     .exact m.1 a d c p
     obtain rfl:a=b:=O
     have:=n.1.symm.trans p;obtain rfl:=cI this;exact HQ.1.symm,e,u.1⟩
    have:=HK.1;omega
  go_wp2;go_ret;exact⟨iB (Kl λa c b=>m.1 a c (gX ((cj.1 b).1) HN.1) b).symm,l⟩
theorem uz(b:E)(k:θ ζ)(h:ι Addr)(i v f n q:E)(a:L Ev)(c:Ev->κ)(d:ε)(o:∀e g,(callFunc b e).run prog g=.ok (.enter b e) g)(p:AZ d h i v a)(t:f=a.length)(r:f<=9223372036854775807)(x:i≠q)(e:ε->Prop)(s:e d)
  (u:∀(m:E)(l:Ev)(g:ε),a[m]? =S l->e g->aQ b (#[evv l]++k) g λw m=>w=.returned (.bool (c l))/\bT q g m/\e m):
  aQ 108 #[.slice h f n,.func (.func b) #[] k] d λl g=>l=.returned (.bool (a.any c))/\bT q d g:=by
 have⟨b,g⟩:=bD (OV b k h i v f n q a c d o p t r x e s u) (II c a);obtain⟨c,a⟩:=M (fx c a);rw[<-a] at b g;clear a p u o t r s
 delta aQ;go_in
 go_wp2_with fail;refine aZ.go (b.1.mono ?_);rintro a b ⟨rfl,l⟩;go_wp2;go_ret;exact⟨dR g.1,l⟩
def LK(q:E)(d b:T)(c:ε):Prop:=∃a,aY c q #[I 2,I a,I d,I b] 165
def sj(c b:T)(a:Ev):κ:=a.k==2&&a.y==c&&a.v==b
theorem Ii(g:ε)(a b:Ev):(binOp .eql 165 (.agg #[I a.k,I a.s,I a.y,I a.v]) (.agg #[I b.k,I b.s,I b.y,I b.v])).run prog g=.ok (.bool (decide (a=b))) g:=by
 rw[run_eql_struct];have g:=underlying165;have c:=underlying3;rw[run_equalIn_agg (d:=9999) _ _ _ _ (by simp only[Program.fieldsOf,g]) abb];rw[<-acu];simp only[Program.fieldsOf,g];cases d:(a.k==b.k)
 .simp[Op.eqFields,go_sem,c,d]
 cases e:(a.s==b.s)
 .simp[Op.eqFields,go_sem,c,d,e]
 cases f:(a.y==b.y)
 .simp[Op.eqFields,go_sem,c,d,e,f]
 cases h:(a.v==b.v)
 .simp[Op.eqFields,go_sem,c,d,e,f,h]
 simp[Op.eqFields,go_sem,c,d,e,f,h]
theorem Yu(f b c a e d:T):decide ((⟨c,a,e,d⟩:Ev)=⟨2,a,f,b⟩)=sj f b ⟨c,a,e,d⟩:=by
 rw[dS];simp[sj,and_assoc]
theorem Qt(q:E)(c b:Int)(a:Ev)(d:ε)(g:LK q c b d):aQ 107 #[evv a,aP q 0] d λf e=>f=.returned (.bool (sj c b a))/\bT q d e/\LK q c b e:=by
 obtain⟨f,e⟩:=g;obtain⟨f,a,h,g⟩:=a;obtain⟨l,i⟩:=M (sj c b ⟨f,a,h,g⟩);rw[<-i];have k:∀k:ε,(binOp .eql 165 (.agg #[I f,I a,I h,I g]) (.agg #[I 2,I a,I c,I b])).run prog k=.ok (.bool l) k:=λk=>by rw[i,<-Yu];exact Ii k ⟨f,a,h,g⟩ ⟨2,a,c,b⟩
 have HQ:=Z e;have r:=(ba e);clear e i;unfold evv
 delta aQ;go_in
 go_upto_region 1 with fail;refine cT (λe k=> ?_);obtain⟨o,e⟩:=M d.heap.size;try rw[<-e]
 have l:=cY k;have i:=(l.hs HQ.1);have m:=dL k e;have r:q≠o:=oB r;clear k e;have e:=dh m.1;have e:=dh i;have e:=aG i 1;go_upto_region 2 with fail;refine cT (λk e=> ?_);have n:(aY k q #[I 2,I a,I c,I b] 165):=(by rw[e];simpa using aD i 1 (I a));have a:(aY k o #[I f,I a,I h,I g] 165):=(by rw[e];exact bi m.1 (H q 1) r.symm _);have p:bT q d k:=(by rw[e];exact Fr.trans (T:=λb=>b=q) l (rF.aK _ _) (λ_ _ b=>b.elim) (λ_ _ b=>b));clear e;obtain⟨b,c,d,e,-⟩:=gZ n;obtain⟨a,b,c,d,-⟩:=gZ a;go_wp2;all_goals(go_ret;exact⟨Y,p,_,n⟩)
theorem Rz(q o r p:E)(i:E)(a:E)(b:L It)(f:T)(t:E)(s:ζ)(d:E)(e:ε)(n:aY e r #[.bool (qD f b a)] 4)(m:aY e p #[I a] 3)
  (l:aY e o #[aP q i] 249)(z:e.cell? (H q i)=S s)(c:e.ownsRow t 200 2 s d (ic b))(h:b.length=d)(i:a<=d)(i:d<=1000):
  dr 153 #[aP r 0,aP o 0,aP p 0] e (.tuple #[I (if qD f b a then((b[a]?).getD (0,0)).2 else 0),.bool (qD f b a)]):=by
 obtain⟨v,w,x,rfl,y,u,g,-⟩:=VF.qc c h;unfold maxLen at u;have k:=bx n;have e:=bx l;have e:=bx m;clear n l m c;cases c:b[a]? with
 |none=>
  have e:qD f b a=δ:=by simp[qD,c]
  rw[e] at k |-;clear e c g h
  delta dr aQ;go_in
  go_wp2;go_ret2;exact⟨Y,rF⟩
 |some l=>
  obtain rfl:=g.addr c;obtain⟨e,i⟩:=g.2 a l c;obtain⟨l,n⟩:=l;have l:a<d:=oB ((cj.1 c).1);have⟨d,l⟩:=dy a d;simp only[jx] at e i |-;obtain⟨m,a⟩:=M (qD f b a);rw[<-a] at k |-;clear a c g h;cases m
  .delta dr aQ;go_in
   go_wp2;go_ret2;exact⟨Y,rF⟩
  delta dr aQ;go_in
  go_wp2_with fail;go_region;all_goals(go_wp2;go_ret2;exact⟨Y,by first|exact rF|exact rF.drew⟩)
theorem Hr{P:Program}(a f:Operand)(b c:TypeId)(i:o2.op=Op.call {callee:=Callee.builtin Builtin.append,args:=#[a,f],argTypes:=#[b,c]})
  (e d:ζ)(h:a1.eval a=e)(l:a1.eval f=d)(k:(Builtin.append_ #[b,c] o2.type #[e,d]).run P W=.ok x V)(g:K1 (a1.put o2.dst x) V):Oper.wp P o2 a1 W K1 Q:=by
 unfold Oper.wp;simp[execOp,i,resolve,invoke,builtin,h,l,k,Result.andThen];exact g
theorem Tz(b:L It)(a:E)(c d:T)(e:L ζ)(f:a<b.length)(f:(b.length+1-a)*2<=e.length):
  let e:=ic (b.take a)++e
  let f:=e.take (a*2)++[I c,I d]++e.drop (a*2+2)
  let g:=f.take ((a+1)*2)++ic (b.drop a)++f.drop ((a+1)*2+(ic (b.drop a)).length)
  g.take ((b.length+1)*2)=ic (b.take a++(c,d)::b.drop a)/\f.length=e.length/\g.length=e.length:=by
 intro e f h;have g:(ic (b.take a)).length=a*2:=by rw[fK,cV];omega
 have l:(ic (b.drop a)).length=(b.length-a)*2:=by rw[fK,ik]
 have k:e.take (a*2)=ic (b.take a):=by simp only[e];rw[<-g,L.take_left]
 have i:f.length=e.length:=by simp only[f,e,cA,cV,ik,g,bW,fq];omega
 have k:f.take ((a+1)*2)=ic (b.take a++[(c,d)]):=by
  simp only[f];rw[k,qV,show ic [(c,d)]=[ζ.int .i64 c,I d] from Y,show(a+1)*2=(ic (b.take a)++[ζ.int .i64 c,I d]).length from by simp[g];omega,L.take_left]
 have f:h=ic (b.take a++(c,d)::b.drop a)++f.drop ((a+1)*2+(ic (b.drop a)).length):=by
  simp only[h];rw[k,<-qV];simp
 have a:(ic (b.take a++(c,d)::b.drop a)).length=(b.length+1)*2:=by rw[fK];simp;omega
 refine⟨?_,i,?_⟩
 .rw[f,pF O,dq O]
 rw[f,cA,a,ik,l,i];simp only[e,cA,g];omega
theorem YU:∃a,prog.info? 200=S a/\a.zero=S (.agg #[aI,aI])/\a.size=2/\a.bytes=16:=⟨_,Y,kR,kR,kR⟩
theorem Qr(D:E)(h:E)(r:θ ζ)(e:L It)(b a:E)(n:It)(s K:E)(d:ε)(z:d.heap[h]? =S (.cells r 200 (0,0)))(b0:r.size=b*2)(b1:r.toList.take (b*2)=ic e)(u:e.length=b)(c6:a<b)(W:d.heap[s]? =S (.cells #[I n.1,I n.2] 200 (0,0)))(c6:b<=1000)(c1:D<=d.heap.size):
  aQ 155 #[.slice (S (H h 0)) b b,I a,.slice (S (H s 0)) 1 K] d (YG D (.slice (S (H h 0)) b b) b (e.take a++n::e.drop a) d):=by
 obtain⟨B,C⟩:=n;obtain⟨b6,b2,b4,b5,X⟩:=YU;have V:r.toList=ic e:=by rw[<-b1,dq (by rw[nY,b0];exact eG)]
 obtain⟨g,x⟩:=M (grownCap d (b+1) b 200);obtain⟨m,Q⟩:=M (Builtin.zeroCells (ζ.agg #[aI,aI]).cells (b+1-a)++Builtin.zeroCells (ζ.agg #[aI,aI]).cells (g-(b+1)):θ ζ);have c2:b+1<=g:=by rw[x];exact grownCap_ge d _ _ _
 have a8:g<=maxLen:=by rw[x];exact grownCap_le_maxLen d (b+1) b 200 (by unfold maxLen;omega)
 have a9:m.size=(g-a)*2:=by
  rw[Q,θ.size_append,size_zeroCells,size_zeroCells];simp[ζ.cells];omega
 obtain⟨k,y⟩:=M (d.drew.alloc (.cells ((ic (e.take a)).toArray++m) 200));have b3:∀i,(Builtin.append_ #[193,3] i #[.slice (S (H h 0)) a b,I ((b:T)+1-(a:T))]).run prog d=.ok (.slice (S (H d.heap.size 0)) (b+1) g) k:=λi=>by
  have l:(Builtin.firstCells b6.size a (.slice (S (H h 0)) a b)).run prog d.drew=.ok (ic (e.take a)).toArray d.drew:=by
   rw[b5];exact run_firstCells_some d.drew 2 a (H h 0) a b (ic (e.take a)) (by rw[fK,cV];omega) (λf n c=>by
    have f:=aj (w:=d.drew) z f;rw[eV,de,f,<-kp,V];rw[<-vS,L.getElem?_take] at c;split at c
    .exact c
    cases c)
  have c:=Lib.run_append_grow_zeros d 193 3 i 200 b6 _ .i64 .i64 underlying193 underlying3 b2 b4 (S (H h 0)) a b (ic (e.take a)) l (b+1-a) O O O O (by rw[X];omega) (by rw[X,show a+(b+1-a)=b+1 from by omega];exact growslice_fits O O);rw[show a+(b+1-a)=b+1 from by omega,<-x,θ.append_assoc,<-Q,<-y] at c;rw[show(b:T)+1-(a:T)=((b+1-a:E):T) from by omega];exact c
 obtain⟨c,P⟩:=M d.heap.size;rw[<-P] at b3;have c3:h≠c:=oB (ba z);have n:s≠c:=oB (ba W);obtain⟨n,A⟩:=M (ic (e.take a)++m.toList);have a7:(ic (e.take a)).toArray++m=n.toArray:=by rw[A];simp
 have F:k.heap[c]? =S (.cells n.toArray 200 (0,0)):=by rw[y,a7,P];exact eR (w:=d.drew) Y _
 have v:Fr j d k:=by rw[y];exact(rF.drew).alloc _
 have a6:=v.aB W id;have a1:=v.aB z id;have a0:m.toList.length=(g-a)*2:=sU a9;have m:=Tz e a B C m.toList O (by rw[a0,u];omega);dsimp only at m
 rw[<-A] at m;obtain⟨o,R⟩:=M (n.take (a*2)++[I B,I C]++n.drop (a*2+2));rw[<-R] at m;obtain⟨p,U⟩:=M (o.take ((a+1)*2)++ic (e.drop a)++o.drop ((a+1)*2+(ic (e.drop a)).length));rw[<-U,u] at m;obtain⟨a3,a4,a5⟩:=m;have w:n.length=g*2:=by rw[A,cA,fK,cV,a0];omega
 obtain⟨f,t⟩:=M (k.setRow c o.toArray);have c4:∀i l,(Builtin.copy_ #[193,193] i #[.slice (S (H c (a*2))) (b+1-a) l,.slice (S (H s 0)) 1 K]).run prog k=.ok (goInt (1:E)) f:=λi l=>by
  have:=jH (P:=prog) 2 k 193 193 i 200 c (a*2) (b+1-a) l (H s 0) 1 K n.toArray 200 [I B,I C] underlying193 Kg F 1 (by simp only[E.min_def];split<;>omega) Y (λn s m=>by
   rw[eV,de,aj a6 n,<-kp];exact m) (by simp[w];omega) oC
  rw[this,t,R];rfl
 have a2:f.heap[h]? =S (.cells r 200 (0,0)):=by rw[t,nF _ _ _ _ c3];exact a1
 have G:f.heap[c]? =S (.cells o.toArray 200 (0,0)):=by rw[t];exact setRow_heap k c _ _ 200 (0,0) F
 have c5:∀i l m,(Builtin.copy_ #[193,193] i #[.slice (S (H c ((a+1)*2))) (b-a) l,.slice (S (H h (a*2))) (b-a) m]).run prog f.drew=.ok (goInt (b-a:E)) (f.drew.setRow c p.toArray):=λi l m=>by
  have:=jH (P:=prog) 2 f.drew 193 193 i 200 c ((a+1)*2) (b-a) l (H h (a*2)) (b-a) m o.toArray 200 (ic (e.drop a)) underlying193 Kg G (b-a) (by simp only[E.min_def];split<;>omega) (by rw[fK,ik,u]) (λi l h=>by
   rw[eV];have i:=aj (w:=f.drew) a2 (a*2+i);rw[i,<-kp,V];rw[<-vP,qt] at h;exact h) (by rw[fK,ik,u,ko,a4,w];omega) (AU _)
  rw[this,U]
 have b8:(f.drew.setRow c p.toArray).ownsRow D 200 2 (.slice (S (H c 0)) (b+1) g) (b+1) (ic (e.take a++(B,C)::e.drop a)):=⟨by rw[fK];simp;omega,.inr ⟨c,g,p.toArray,Y,O,setRow_heap f.drew c _ _ 200 (0,0) G,c2,a8,by simpa[a5] using w,sU a3⟩⟩;have b7:Fr j d (f.drew.setRow c p.toArray):=(by
  have b9:bT c k f:=by rw[t];exact⟨Y,Y,Y,by simp only[ε.setRow,tA];exact eG,λh i e=>nF k c h _ e⟩
  have c0:bT c f (f.drew.setRow c p.toArray):=⟨Y,Y,Y,by simp only[ε.setRow,tA];exact eG,λh i e=>nF f.drew c h _ e⟩;exact(v.keep b9 (λf e=>by omega)).keep c0 (λf e=>by omega))
 have RS:d.heap.size<=c:=O;have c:(0:T)<=(a:T):=O;have c:((a:T)+1).toNat=a+1:=O;have c:IntKind.i64.wrap ((a:T)+1)=(a:T)+1:=by rw[IntKind.wrap_i64];omega
 have c:(0:T)<=(a:T)+1:=O;have c:(a:T)+1<=(b:T)+1:=O;have c:(a:T)<=(b:T)+1:=O;have c:(a:T)<=(b:T):=O;have c:¬(g=a):=O;have c:¬(g=a+1):=O;have a:¬(b=a):=O;unfold maxLen at a8;clear z b0 b1 W u c1 F a6 a0 R y U V x Q a9 P A a7 v a1 a3 a4 a5 w t a2 G b2 b4 b5 X
 delta aQ;go_in
 go_wp2_with (first|(at_builtin;refine wpList_plain Y λb a=>Hr _ _ 193 3 Y _ _ Y Y (b3 _) (a _ _ ?_))|(at_builtin;refine wpList_plain Y λb a=>wU _ _ 193 193 Y _ _ Y Y (c4 _ _) (a _ _ ?_)));go_region_law (refine yC Y _ _ 193 193 Y _ _ (by simp[Act.eval,Act.put]) (by simp[Act.eval,Act.put]) (c5 _ _ _) ?_)
 go_wp2;go_ret;exact⟨_,Y,b8,b7.mono (λ_ _ a=>a.elim),.inr (λa t=>by cases t;exact RS)⟩
theorem XS(e:E)(h:ζ)(d:L It)(a b:E)(g:It)(f k:E)(c:ε)(r:c.ownsRow e 200 2 h a (ic d))(l:d.length=a)(B:b<=a)(p:aY c f #[I g.1,I g.2] 200)(A:∀q,h.ownBlock=S q->q≠f)(o:a<=1000)(t:e<=c.heap.size):
  aQ 155 #[h,I b,.slice (S (H f 0)) 1 k] c (YG e h a (d.take b++g::d.drop b) c):=by
 rcases dP b a with n|n
 .rcases r.2 with⟨rfl,x⟩|⟨m,i,s,rfl,y,u,C,z,v,w⟩
  .omega
  rcases dP a i with x|x
  .exact YQ e m i s d a b g f k c u v w l n O z p (A m Y) o y
  obtain rfl:i=a:=O;exact Qr e m s d i b g f k c u v w l n p o t
 obtain rfl:b=a:=O
 have:=Ya e h d b g f k c r p o t;rwa[<-l,oz,L.drop_length,l]
def itc(a:It):L ζ:=[I a.1,I a.2]
def np:ε->L ζ->It->Prop:=Pl itc
theorem np.aJ:dU (λ_=>False) np:=Pl.aJ itc _
instance:SC np:=⟨_,np.aJ⟩
theorem tH(b:W.ownsRow m 200 2 x q (ic R))(c:R.length=q):cC m 200 2 np W x R (R.map itc):=by
 subst c;refine⟨b,sI,λc b d a b=> ?_⟩;rw[fN,b] at a;cases a
 exact⟨Y,Y⟩
theorem cC.ic(a:cC m 200 2 np W x R L1):W.ownsRow m 200 2 x R.length (ic R):=by
 have f:L1=R.map itc:=by
  refine lB λc=> ?_;rw[fN];cases b:R[c]? with
  |none=>rw[jw (gX a.len (L.getElem?_eq_none_iff.1 b))];rfl
  |some g=>
   obtain⟨e,d⟩:=gE L1 c (gX a.len ((cj.1 b).1));rw[d,(a.each c e g d b).2];rfl
 have:=a.row;rwa[f] at this
structure IB(B q c:E)(cs:θ ζ)(v:ζ)(xs:L It)(w:ε):Prop where
 box:aY w q cs 195
 at_:cs[c]? =S v
 own:w.ownsRow B 200 2 v xs.length (ic xs)
def OB(c:ε)(b a:ζ):Prop:=a.ownBlock=b.ownBlock\/∀b,a.ownBlock=S b->c.heap.size<=b
def CPR(f q c:E)(g:θ ζ)(d:ζ)(h:L It)(e:ε)(a:Ending)(b:ε):Prop:=
 a=.returned (.tuple #[])/\∃a,IB f q c (g.setIfInBounds c a) a h b/\Fr (λc=>c=q\/d.ownBlock=S c) e b/\OB e d a
theorem Tj(q a2 b0 a3 b1 e a:E)(f:L It)(h val:T)(s:E)(y:θ ζ)(b2:ζ)(i:E)(l:ε)(c0:l.heap[b0]? =S (.cells #[.bool δ] 4 (0,0)))(F:l.heap[a3]? =S (.cells #[I a] 3 (0,0)))
  (z:l.heap[a2]? =S (.cells #[aP q e] 249 (0,0)))(B:l.heap[b1]? =S (.cells #[I h] 3 (0,0)))(b5:IB s q e y b2 f l)(a9:f.length=i)(K:a<=i)(c8:i<=500)(G:s<=l.heap.size)(a1:e<y.size):
  aQ 154 #[I val,aP b0 0,aP a2 0,aP a3 0,aP b1 0] l (CPR s q e y b2 (f.take a++(h,val)::f.drop a) l):=by
 obtain⟨c,a8,v⟩:=b5;obtain⟨t,u,rfl,b9,c7⟩:=bB v;rw[a9] at v b9 a8 |-;have x:=v;have V:=Z c;have a5:(a2≠q):=(λk=>by subst k;rw[c] at z;simp at z);have b6:(a3≠q):=(λk=>by subst k;rw[c] at F;simp at F);have w:N ((f.take a++(h,(0:T))::f.drop a).length=i+1):=Z sO;have a2:=λb(p:Fr j l b)=>bx (p.aB z id);have a2:=λb(p:Fr j l b)=>bx (p.aB F id);have a2:=λb(p:Fr j l b)=>bx (p.aB B id);have a2:∀b,Fr j l b->b.cell? (H q e)=S (.slice t i u):=λb p=>(aj (p.aB V.1 id) e).trans a8;have a2:=bx c0
 delta aQ;go_in
 go_upto_region 1 with fail;refine gL [7] [8,10] [1,2,3,4,5,6,8] (λix=>if ix=8 then Qb 200 (ζ.slice t i u) q e 195 else Jn q e 195) (zf (ζ.slice t i u) q e 195) [[],[],[1],[1,2],[],[],[5],[5,6],[1,2,3,4,5,6,7],[0],[0,1,2,3,4,5,6,8,9]] [.eq 0 (aP q e),.eq 1 (aP q e),.eq 2 (aP q e),.eq 3 (.slice t i u),.eq 4 (I a),.eq 5 (I h),.eq 6 (.agg #[I h,aI]),.w1 7 (λo b=>∃r,o=.slice (S (H r 0)) 1 1/\l.heap.size<=r/\b.heap[r]? =S (.cells #[I h,aI] 200 (0,0))),.w1 8 (λo b=>qx np s 200 2 (i+1) (f.take a++(h,0)::f.drop a) o b/\OB l (.slice t i u) o),.eq 9 (aP q e),.w1 8 (λo b=>Bv np s 200 2 (i+1) (f.take a++(h,0)::f.drop a) q e 195 y o b/\OB l (.slice t i u) o)] [[0],[1],[2],[3],[4],[5],[6],[7],[8],[9],[8]] kR kR kR kR Y (λ_ _ _ _ k d=>⟨k.symm.trans d.1,d.2⟩) (λ_ _ p=>zf.of p) (λ_ _ _ d n=>d.trans n) ?hma ?hstab ?hstabM (λa2=> ?_)
 case hma=>
  exact zf.ma fX fX
 case hstab=>exact Il
 case hstabM=>
  intro a K;simp only[rB] at K;rcases K with rfl|rfl;all_goals(refine⟨?_,?_,?_,?_,?_,?_,?_,?_,?_,?_,?_,trivial⟩<;>first|exact λd=>absurd Y d|exact λ_ d=>absurd J d|exact λ_ _ d=>absurd J d|exact λ_ _ _ _ _ _ d _=>d|exact λ_ _ _ _ _ _ n a2=>qx.sto np.aJ J id n a2|exact λ_ _ _ _ _ _ ⟨n,d⟩ a2=>⟨qx.sto np.aJ J id n a2,d⟩)
 refine⟨?_,?_,?_,?_,?_,?_,?_,?_,?_,?_,?_,?_⟩;all_goals first|exact Ca|skip
 .intro b c m Q g
  simp only[rX,ξ] at c m g |-;try simp only[m] at g
  have a2:=bx (c.obj z a5 x J);go_simp;exact g _ _ rF Y
 .intro b c m Q g
  simp only[rX,ξ] at c m g |-;try simp only[m] at g
  go_simp;exact g _ _ cZ ⟨_,Y,c.1.size,bM Y⟩
 .intro b c m Q g
  have a2:=m 7 J;simp only[rX,ξ] at c a2 m g |-;try simp only[m] at g
  obtain⟨r,a3,a8,A⟩:=a2;simp only[a3] at g;go_simp;go_at_call 155;have U:=c.owns x (λn _ o=>o);refine(XS s _ f i a (h,0) r 1 b U a9 K A (λn B=>by have:=ba (aW x B).2.choose_spec.choose_spec;omega) O (bX G c.size)).mono ?_;rintro k W ⟨K,rfl,v,p,c3⟩;obtain⟨c5,c6,rfl,-,-⟩:=bB v;exact g _ _ ⟨p,λn k=>(aW U k).2,iW.apart p (λk=>(aW U k).2.ne ⟨_,_,c.aB V.1 id⟩ J Y)⟩ ⟨⟨_,_,_,Y,tH v w.1⟩,c3.imp id (λd n k=>bX c.size (d n k))⟩
 .intro b c m Q g
  have p:=m 8 J;simp only[rX,ξ] at c p m g |-;try simp only[m] at g
  obtain⟨p,v⟩:=p;obtain⟨⟨v,K⟩,U,Q,G⟩:=zi np.aJ J id c V.1 a1 p;obtain⟨K,D,U,v,-⟩:=p;rw[v] at Q G;simp only[v] at g;go_simp;exact g undef _ Q ⟨G,by first|trivial|assumption⟩
 intro b c m;have g:=m 10 J J;simp only[rX,ξ] at g;simp only[Act.put,rC];obtain⟨⟨⟨K,D,U,v,R⟩,m⟩,P⟩:=g;have C:=Z m;have g:=bx (c.obj z a5 x J);have g:=bx (c.obj F b6 x J);obtain⟨g,A⟩:=M (f.take a++(h,(0:T))::f.drop a);have a4:(g[a]? =S (h,0)/\g.set a (h,val)=f.take a++(h,val)::f.drop a):=(by
  have g:(f.take a).length=a:=by rw[cV];omega
  rw[A];refine⟨?_,?_⟩
  .rw[iV O,g];simp
  rw[vJ _ _ O,g];simp)
 rw[<-A] at R w;rw[v] at C P;have QC:b.cell? (H q e)=S (.slice K (i+1) D):=(aj C.1 e).trans (by rw[sJ]<;>simp[a1]);clear m A;obtain⟨r,g,a7,X,c1,p,CS,c2,c4,m,b4⟩:=R.at a4.1;rw[w.1] at X;simp only[cM] at X;obtain⟨rfl,-,rfl⟩:=X;have g:b.cell? (H r (a*2+1))=S aI:=c2 1 _ (by rw[show a7=[I h,aI] from CS];rfl);have g:=c4 (a*2+1);go_wp2_with fail;go_region;all_goals
  refine Xk (λW a0=> ?_);have g:=R;rw[<-w.1] at g;have a6:=(g.set np.aJ id c1 (i:=1) J (u:=I val) (x:=(h,val)) (by rw[show a7=[I h,aI] from CS];rfl)).ic;rw[a4.2,w.1] at a6;have b8:q≠r:=λk=>by subst k;exact b4.ne ⟨_,_,C.1⟩ J Y
  have g:bT r b (b.setCell (H r (a*2+1)) (I val)):=rF.aK _ _;have b7:IB s q e (y.setIfInBounds e (.slice (S (H r 0)) (i+1) D)) (.slice (S (H r 0)) (i+1) D) (f.take a++(h,val)::f.drop a) W:=(by
   rw[a0];exact⟨(g.aB C.1 b8),by simp[a1],tC.drew.owns a6 (λ_ _ o=>o)⟩)
  have b3:Fr (λn=>n=q\/(ζ.slice t i u).ownBlock=S n) l W:=(by
   rw[a0];refine Fr.drew (c.1.trans g (λ_ _ o=>o.symm) (λn B k=> ?_));subst k;rcases P with d|d
   .exact .inr (d▸rfl)
   exact absurd (d _ Y) (lN B))
  clear a0;go_wp2;exact aO (v:=.tuple #[]) (by simp[results,results154,go_sem]) Y ⟨Y,_,b7,b3,P⟩
theorem Sy(q y A z W b c:E)(e:L It)(g n val:T)(k:E)(f:θ ζ)(B:ζ)(h:E)(a:ε)(K:aY a A #[.bool γ] 4)(G:aY a z #[I c] 3)
  (F:aY a y #[aP q b] 249)(C:IB k q b f B e a)(x:e[c]? =S (g,n))(w:e.length=h)(a1:h<=500)(R:b<f.size):
  aQ 154 #[I val,aP A 0,aP y 0,aP z 0,aP W 0] a (CPR k q b f B (e.set c (g,val)) a):=by
 obtain⟨m,l,y⟩:=C;have o:=tH y Y;obtain⟨d,i,r,rfl,P,a0,v,U,V,X,Q⟩:=o.at x;have D:q≠d:=λp=>by subst p;exact Q.ne ⟨_,_,m⟩ J Y
 have u:bT d a (a.setCell (H d (c*2+1)) (I val)):=rF.aK _ _;have y:=U 1 _ (by rw[show r=[I g,I n] from v];rfl);have y:=V (c*2+1);have QC:a.cell? (H q b)=S (.slice (S (H d 0)) h i):=by rw[<-w];exact(aj m b).trans l
 have p:N (∀s,CPR k q b f (.slice (S (H d 0)) e.length i) (e.set c (g,val)) a (.returned (.tuple #[])) ((a.setCell (H d (c*2+1)) (I val)).drewN s)):=Z λa=>by
  have s:f.setIfInBounds b (.slice (S (H d 0)) e.length i)=f:=by
   apply kF;intro a;by_cases t:b=a
   .subst t;rw[nQ,aS R,l]
   rw[ew t]
  refine⟨Y,.slice (S (H d 0)) e.length i,⟨?_,?_,?_⟩,Fr.drewN (u.mono (λ_ _ t=>.inr (by subst t;rfl))) _,.inl Y⟩
  .rw[s];exact(tC.drewN _).hs (u.aB m D)
  .rw[s];exact l
  have:=(o.set np.aJ id P (i:=1) J (u:=I val) (x:=(g,val)) (by rw[show r=[I g,I n] from v];rfl)).ic;rw[dN] at this |-;exact(tC.drewN _).owns this (λ_ _ a=>a)
 have a:c<h:=oB ((cj.1 x).1);have⟨a,b⟩:=dy c h;have a:=bx F;have a:=bx G;have a:=bx K;rw[w] at p |-
 delta aQ;go_in
 go_wp2_with fail;go_region;all_goals
  go_wp2;exact aO (v:=.tuple #[]) (by simp[results,results154,go_sem]) Y (p.1 1)
theorem Bb:Sx []:=λb c d e _ a=>by simp at a
theorem ld{a:It}:Sx (a::R)↔(∀b∈R,a.1<b.1)/\Sx R:=by
 constructor
 .intro c
  refine⟨λb k=> ?_,λh i d e l f g=>c (h+1) (i+1) d e O (sU f) (sU g)⟩;obtain⟨e,d⟩:=kc k;exact c 0 (e+1) a b O Y (sU d)
 rintro⟨h,i⟩ l g c d b e f;obtain⟨m,rfl⟩:∃b,g=b+1:=⟨g-1,O⟩;cases l with
 |zero=>
  obtain rfl:a=c:=sU e;exact h d (bQ (sU f))
 |succ a=>exact i a m c d O (sU e) (sU f)
theorem zt:∀{a:L It},(∀b∈a,b.1≠i1)->pc i1 a=η
 |[],_=>rfl
 |x::b,a=>by rw[pc,aR (a x (jg ..))];exact zt λc b=>a c (jh _ b)
theorem zK{b:It}(a:yS i1 (b::R) (m+1)):b.1<i1/\yS i1 R m:=
 ⟨a.2.1 0 b O Y,by have:=a.1;simp at this;exact this,λc d e b=>a.2.1 (c+1) d O (sU b),λc d e b=>a.2.2 (c+1) d O (sU b)⟩
theorem CE{a:It}:qD i1 (a::R) (m+1)=qD i1 R m:=by unfold qD;rw[L.getElem?_cons_succ]
theorem EZ:∀{a:L It}{b:E},Sx a->yS i1 a b->pc i1 a=if qD i1 a b then S ((a[b]?).getD (0,0)).2 else η
 |[],a,_,h=>by
  have:=h.1;simp at this;subst this;rfl
 |x::r,0,hS,h=>by
  have a:=h.2.2 0 x O Y;have a:pc i1 r=η:=zt λb a=>by have:=(ld.1 hS).1 b a;omega
  simp only[pc,qD,vF,jx,a];by_cases a:x.1=i1<;>simp[a]
 |x::r,a+1,hS,h=>by
  obtain⟨b,a⟩:=zK h;rw[pc,aR O,EZ (ld.1 hS).2 a,CE,L.getElem?_cons_succ]
theorem Cq(c:T):∀{a:L It}{b:E},yS i1 a b->mj i1 c a=if qD i1 a b then a.set b (i1,c) else a.take b++(i1,c)::a.drop b
 |[],a,h=>by
  have:=h.1;simp at this;subst this;rfl
 |x::r,0,h=>by
  have b:=h.2.2 0 x O Y;simp only[mj,qD,vF];by_cases a:x.1=i1
  .subst a;simp
  rw[aS O];simp[a]
 |x::r,b+1,h=>by
  obtain⟨d,a⟩:=zK h;rw[mj,aR O,aR O,Cq c a,CE];cases qD i1 r b<;>simp
theorem yE{b:It}:∀{a:L It},b∈mj i1 i2 a->b=(i1,i2)\/b∈a
 |[],a=>by simp[mj] at a;exact .inl a
 |x::b,a=>by
  rw[mj] at a;split at a
  .simpa using a
  split at a
  .rcases cK.1 a with b|b
   .exact .inl b
   exact .inr (jh _ b)
  rcases cK.1 a with a|a
  .exact .inr (by rw[a];exact jg ..)
  exact(yE a).imp id (jh _)
theorem rI:∀{a:L It},Sx a->Sx (mj i1 i2 a)
 |[],_=>ld.2 ⟨sI,Bb⟩
 |x::g,b=>by
  obtain⟨a,c⟩:=ld.1 b;rw[mj];split
  .exact ld.2 ⟨λf e=>(cK.1 e).elim (λd=>by subst d;assumption) (λd=>by have:=a f d;simp only;omega),b⟩
  split
  .exact ld.2 ⟨λd b=>by have:=a d b;simp only;omega,c⟩
  exact ld.2 ⟨λe b=>(yE b).elim (λd=>by subst d;simp only;omega) (λb=>a e b),rI c⟩
theorem mT(a b:T):∀(c:L It),(mj a b c).length<=c.length+1
 |[]=>by simp[mj]
 |x::c=>by
  rw[mj]
  have:=mT a b c;split
  .simp
  split<;>simp<;>omega
structure CB(q c:E)(key:T)(xs:L It)(q2 qk q6 q7 i:E)(w:ε):Prop where
 h7:aY w q7 #[.bool (qD key xs i)] 4
 h6:aY w q6 #[I i] 3
 h2:aY w q2 #[aP q c] 249
 hk:aY w qk #[I key] 3
 cut:yS key xs i
theorem CB.fr{q d f i g h e:E}{w c:ε}(a:CB q d i1 R f i g h e w)(b:Fr j w c):CB q d i1 R f i g h e c:=
 ⟨b.hs a.h7,b.hs a.h6,b.hs a.h2,b.hs a.hk,a.cut⟩
def TK(e:E)(b:TypeId)(a c:ε):Prop:=Fr (λd=>e<=d/\fE b a d) a c/\∀(d:E)(e:ζ),aY a d #[e] b->∃a:ζ,aY c d #[a] b
def WV(c:E)(d:TypeId)(e:ζ)(b:ε):Prop:=∃a,e=aP a 0/\c<=a/\∃c,aY b a #[c] d
def WN(c:E)(d:TypeId)(f e:ζ)(b:ε):Prop:=∃a,f=aP a 0/\c<=a/\aY b a #[e] d
theorem WV.fr(a:WV m t x W)(b:Fr j W V):WV m t x V:=by
 obtain⟨c,a,e,f,d⟩:=a;exact⟨c,a,e,f,b.hs d⟩
theorem WN.fr(a:WN m t x v1 W)(b:Fr j W V):WN m t x v1 V:=by
 obtain⟨c,a,e,d⟩:=a;exact⟨c,a,e,b.hs d⟩
theorem WV.own(a:WV m t x W)(e:TK m t W V):WV m t x V:=by
 obtain⟨a,b,d,f,c⟩:=a;exact⟨a,b,d,e.2 a f c⟩
theorem WV.oth{a b:TypeId}(c:WV m a x W)(f:TK m b W V)(d:b≠a):WV m a x V:=by
 obtain⟨c,b,e,g,a⟩:=c;exact⟨c,b,e,g,f.1.aB a (λx=>x.2.ne ⟨_,_,a⟩ d Y)⟩
theorem WN.oth{a b:TypeId}(c:WN m a x v1 W)(f:TK m b W V)(d:b≠a):WN m a x v1 V:=by
 obtain⟨c,b,e,a⟩:=c;exact⟨c,b,e,f.1.aB a (λx=>x.2.ne ⟨_,_,a⟩ d Y)⟩
theorem TK.set{t:TypeId}{u:ζ}(e:aY W q #[u] t)(g:m<=q)(a:ζ):TK m t W (W.setCell (H q 0) a)/\(W.setCell (H q 0) a).heap[q]? =S (.cells #[a] t (0,0)):=by
 have c:bT q W (W.setCell (H q 0) a):=rF.aK _ _;have d:(W.setCell (H q 0) a).heap[q]? =S (.cells #[a] t (0,0)):=sU (aD e 0 a);refine⟨⟨c.mono (λk _ b=>by subst b;exact⟨g,_,_,e⟩),λk x f=> ?_⟩,d⟩;by_cases b:k=q
 .subst b;exact⟨_,d⟩
 exact⟨_,c.aB f b⟩
def acT(a b c:E):ζ:=.func (.func 153) #[] #[aP c 0,aP a 0,aP b 0]
def acJ(a d b c:E):ζ:=.func (.func 154) #[] #[aP c 0,aP a 0,aP b 0,aP d 0]
def CER(q f:E)(i:T)(l:L It)(k:ε)(g:Ending)(d:ε):Prop:=∃a e b c h,g=.returned (.tuple #[acT a b c,acJ a e b c])/\CB q f i l a e b c h d/\Fr j k d
theorem Ed(q r:E)(i:L It)(h:T)(a3:E)(v:ζ)(u:E)(C:ε)(a7:C.cell? ⟨q,r,η⟩=S v)(K:C.ownsRow a3 200 2 v u (ic i))(a2:i.length=u)(G:u<=500)(b2:Sx i):
  aQ 106 #[.pointer (S ⟨q,r,η⟩),I h] C (CER q r h i C):=by
 obtain⟨m,t,U,rfl,b3,b4,b0,-⟩:=VF.qc K a2;clear K b3 b4
 delta aQ;go_in
 go_upto_region 1 with fail;refine cT (λl K=> ?_);obtain⟨a8,a3⟩:=M C.heap.size;obtain⟨a9,C⟩:=M (a8+1);rw[<-a3];try rw[<-C]
 have D:=lq K;have P:=uV K a3;have Q:N (l.heap[a9]? =S (.cells #[I h] 3 (0,0))):=Z (by rw[K];exact bM sO);have HN:=Z a2;have c1:=λf(k:Fr j l f)=>bx (k.aB P.1 (λg=>g));have c2:=λf(k:Fr j l f)=>bx (k.aB Q.1 (λg=>g));have c3:∀f,Fr j l f->f.cell? ⟨q,r,η⟩=S (.slice m u U):=λf k=>(D.step k).aF a7 (λg=>g);clear K a3 C a2 a7;refine gL [] [10,11] [0,1,2,3,4,5] (λix=>if ix=10 then TK l.heap.size 3 else TK l.heap.size 4) (λm t=>Fr (λC=>l.heap.size<=C) m t) [[],[0],[0,1],[],[0,1,2,3],[0,1,2,3,4],[0,1,2,3,4,5],[0,1,2,3,4,5],[],[],[0,1,2,3,4,5,6,8],[0,1,2,3,4,5,7,9]] [.eq 0 (.pointer (S ⟨q,r,η⟩)),.eq 1 (.pointer (S ⟨q,r,η⟩)),.eq 2 (.slice m u U),.eq 3 (I h),.w1 4 (λg f=>∃c,g=.tuple #[I (c:E),.bool (qD h i c)]/\yS h i c),.w1 5 (λg f=>∃c,g=.tuple #[I (c:E),.bool (qD h i c)]/\yS h i c),.w2 5 6 (λv m f=>∃c,v=.tuple #[I (c:E),.bool (qD h i c)]/\yS h i c/\m=I (c:E)),.w2 5 7 (λv m f=>∃c,v=.tuple #[I (c:E),.bool (qD h i c)]/\m=.bool (qD h i c)),.w1 8 (WV l.heap.size 3),.w1 9 (WV l.heap.size 4),.w2 8 6 (WN l.heap.size 3),.w2 9 7 (WN l.heap.size 4)] [[0],[1],[2],[3],[4],[5],[5,6],[5,7],[8],[9],[8,6],[9,7]] kR kR kR kR Y (λ_ _ _ _ a4 d=>⟨a4.symm.trans d.1,d.2⟩) (λ_ _ k=>k.mono (λ_ _ g=>g.elim)) (λ_ _ _ d C=>d.trans C (λ_ _ g=>g) (λ_ _ g=>g)) ?hma ?hstab ?hstabM (λv=> ?_)
 case hma=>
  intro c A m t d;simp only[rB] at A;rcases A with rfl|rfl
  .exact(show TK l.heap.size 3 m t from d).1.mono (λ_ _ g=>g.1)
  exact(show TK l.heap.size 4 m t from d).1.mono (λ_ _ g=>g.1)
 case hstab=>refine⟨?_,?_,?_,?_,?_,?_,?_,?_,?_,?_,?_,?_,trivial⟩<;>first|exact λ_ _ _ d _=>d|exact λ_ _ _ d k=>WV.fr d k|exact λ_ _ _ d k=>WN.fr d k
 case hstabM=>
  intro c A;simp only[rB] at A;rcases A with rfl|rfl;all_goals(refine⟨?_,?_,?_,?_,?_,?_,?_,?_,?_,?_,?_,?_,trivial⟩<;>first|exact λd=>absurd Y d|exact λ_ d=>absurd J d|exact λ_ _ d=>absurd J d|exact λ_ _ _ _ _ _ d _=>d|exact λ_ _ _ _ _ _ d o=>WV.own d o|exact λ_ _ _ _ _ _ d o=>WV.oth d o J|exact λ_ _ _ _ _ _ d o=>WN.oth d o J)
 refine⟨?_,?_,?_,?_,?_,?_,?_,?_,?_,?_,?_,?_,?_⟩;all_goals first|exact Ca|skip
 .intro f e a p b
  simp only[rX,ξ] at e a b |-;try simp only[a] at b
  go_simp;go_at_call 151;refine(YC m t u U i h f (b0.fr (D.step e) (λg=>g)) HN.1 O b2).mono ?_;rintro a4 g ⟨c,rfl,n,k⟩;exact b _ _ k ⟨c,Y,n⟩
 .intro f e a p b
  have g:=a 4 J;simp only[rX,ξ] at e g a b |-;try simp only[a] at b
  obtain⟨c,k,n⟩:=g;simp only[k] at b;go_simp;exact b _ _ rF ⟨c,Y,n⟩
 .intro f e a p b
  have x:=a 5 J;simp only[rX,ξ] at e x a b |-;try simp only[a] at b
  obtain⟨c,w,n⟩:=x;simp only[w] at b;go_simp;exact b _ _ rF ⟨c,Y,n,Y⟩
 .intro f e a p b
  have x:=a 5 J;simp only[rX,ξ] at e x a b |-;try simp only[a] at b
  obtain⟨c,w,n⟩:=x;simp only[w] at b;go_simp;exact b _ _ rF ⟨c,Y,Y⟩
 .intro f e a p b
  simp only[rX,ξ] at e a b |-;try simp only[a] at b
  go_simp;exact b _ _ cZ ⟨_,Y,e.size,_,bM Y⟩
 .intro f e a p b
  simp only[rX,ξ] at e a b |-;try simp only[a] at b
  go_simp;exact b _ _ cZ ⟨_,Y,e.size,_,bM Y⟩
 .intro f e a p b
  have y:=a 6 J;have g:=a 8 J;simp only[rX,ξ] at e y g a b |-;try simp only[a] at b
  obtain⟨X,a5,B,c0,s⟩:=g;obtain⟨c,-,-,V⟩:=y;have R:=aj s 0;have c4:=aG s 0;simp only[sJ,vF] at R;obtain⟨o,G⟩:=TK.set s B (I (c:E));simp only[a5,V] at b;go_simp;exact b undef _ o ⟨X,Y,B,G⟩
 .intro f e a p b
  have z:=a 7 J;have g:=a 9 J;simp only[rX,ξ] at e z g a b |-;try simp only[a] at b
  obtain⟨X,a6,B,c0,s⟩:=g;obtain⟨c,-,W⟩:=z;have R:=aj s 0;have c4:=aG s 0;simp only[sJ,vF] at R;obtain⟨o,G⟩:=TK.set s B (.bool (qD h i c));simp only[a6,W] at b;go_simp;exact b undef _ o ⟨X,Y,B,G⟩
 intro f e a;have y:=a 6 J J;have z:=a 7 J J;have b:=a 10 J J;have g:=a 11 J J;simp only[rX,ξ] at y z b g;clear a;simp only[Act.put,rC];obtain⟨c,w,n,V⟩:=y;obtain⟨b7,F,W⟩:=z;obtain⟨b8,a5,b5,a0⟩:=b;obtain⟨b9,a6,b6,a1⟩:=g;rw[w] at F;simp only[ζ.tuple.injEq,kI,iY,ζ.int.injEq,ll,gT] at F;obtain rfl:c=b7:=oB F.1;rw[V] at a0;rw[W] at a1;have b1:CB q r h i a8 a9 b8 b9 c f:=⟨a1,a0,e.aB P.1 (oB (ba P.1)),e.aB Q.1 (oB (ba Q.1)),n⟩;have HF:=(D.keep e (λc d=>bX D.size d));clear e a0 a1 n c1 c2 c3 b5 b6 F;go_wp2;go_ret2;exact⟨_,_,_,_,_,Y,b1,HF⟩
theorem VJ(a:qD i1 R m=γ):∃b,R[m]? =S (i1,b):=by
 unfold qD at a;cases b:R[m]? with
 |none=>rw[b] at a;cases a
 |some c=>rw[b] at a;simp at a;exact⟨c.2,by rw[<-a]⟩
theorem yu{q b f i g h e:E}{c:θ ζ}(a:CB q b i1 R f i g h e W)(l:IB m q b c x R W)(val:T)(o:R.length<=500)(p:m<=W.heap.size)(n:b<c.size):
  aQ 154 #[I val,aP h 0,aP f 0,aP g 0,aP i 0] W (CPR m q b c x (mj i1 val R) W):=by
 rw[Cq val a.cut];have d:=a.h7;cases k:qD i1 R e with
 |true=>
  obtain⟨s,r⟩:=VJ k;rw[k] at d;exact Sy q f h g i b e R i1 s val m c x _ W d a.h6 a.h2 l r Y o n
 |false=>
  rw[k] at d;exact Tj q f h g i b e R i1 val m c x _ W d a.h6 a.h2 a.hk l Y a.cut.1 o p n
theorem Kp{q c e i f g d:E}(a:CB q c i1 R e i f g d W)(l:W.cell? (H q c)=S x)(i:W.ownsRow m 200 2 x R.length (ic R))(k:R.length<=500)(k:Sx R):
  dr 153 #[aP g 0,aP e 0,aP f 0] W (.tuple #[I ((pc i1 R).getD 0),.bool (pc i1 R).isSome]):=by
 have k:=EZ k a.cut;have b:=Rz q e g f c d R i1 m x _ W a.h7 a.h6 a.h2 l i Y a.cut.1 O;rw[k];cases h:qD i1 R d with
 |true=>rw[h] at b;simpa using b
 |false=>rw[h] at b;simpa using b
theorem Af{a:L Tx}{b:Tx}(c:a[m]? =S b):oO m (a.drop m)=if txB b then oO (m+1) (a.drop (m+1)) else S m:=by rw[dG c];rfl
theorem Ht{d:L Tx}{a:Tx}(e:d[m]? =S a)(b:T)(c:By):jb m b (d.drop m) c=if(jX (m,if a.d then b else -1) a.o c).2=0 then jb (m+1) (if a.d then b+1 else b) (d.drop (m+1)) (jX (m,if a.d then b else -1) a.o c).1 else((jX (m,if a.d then b else -1) a.o c).1,m,(jX (m,if a.d then b else -1) a.o c).2):=by rw[dG e];rfl
theorem LY{c:Ev}(d:e1[m]? =S c)(a b:L It):look (e1.drop m) m a b=if tg a b c (e1.drop (m+1))=0 then look (e1.drop (m+1)) (m+1) (oA a b c).1 (oA a b c).2 else(([],[]),m,tg a b c (e1.drop (m+1))):=by rw[dG d];rfl
abbrev Fa:=L It×L It
def jG(b:L α)(a:L α×T×T):L α×T×T:=if a.2.2≠0 then([],a.2) else(b++a.1,0,0)
theorem qP(a:E)(c:Tx)(b:L Tx):dH a (c::b)=if c.d=δ then(([],[])::(dH (a+1) b).1,(dH (a+1) b).2) else if(ru c).2.2≠0 then([],a,(ru c).2.2) else((ru c).1::(dH (a+1) b).1,(dH (a+1) b).2):=Y
theorem xd{a:Tx}{d:L Tx}{c:L Fa}{f:Fa}(e:(a.d=δ/\f=([],[]))\/(a.d=γ/\(ru a).2.2=0/\f=(ru a).1)):jG c (dH m (a::d))=jG (c++[f]) (dH (m+1) d):=by
 rw[qP];rcases e with⟨b,rfl⟩|⟨b,g,rfl⟩
 .rw[aS b];simp[jG]
 rw[aR (by simp[b]),aR (by simp[g])];simp[jG]
theorem xu{a:Tx}{e:L Tx}{c:L Fa}(d:a.d=γ)(b:¬(ru a).2.2=0):jG c (dH m (a::e))=([],(m:T),(ru a).2.2):=by
 rw[qP,aR (by simp[d]),aS b];simp[jG,b]
def ua(b:L Tk)(a:L Tk×T):L Tk×T:=if a.2≠0 then([],a.2) else(b++a.1,0)
theorem Yx{a:By}{b:It}{c:L Tk}(d:JY a R b=0):ua c (vn a R (b::R1))=ua (c++[⟨b.1,Qq a b⟩]) (vn a R R1):=by
 rw[vn,aS d];simp[ua]
theorem OO{a:By}{b:It}{d:L Tk}(c:¬JY a R b=0):ua d (vn a R (b::R1))=([],JY a R b):=by
 rw[vn,aR c];simp[ua,c]
theorem Ee{c:By}{d:L Tk}(a:ua [] (vn c R R1)=(d,0)):(vn c R R1).2=0/\(vn c R R1).1=d:=by
 unfold ua at a;split at a
 .rename_i b
  simp only[gW] at a;exact absurd a.2 b
 rename_i b;simp at b a;exact⟨b,a⟩
theorem Bk{b:By}{d:L Tk}(a:ua [] (vn b R R1)=(d,i1))(c:i1≠0):(vn b R R1).2=i1:=by
 unfold ua at a;split at a
 .simp only[gW] at a
  exact a.2
 simp only[gW] at a;exact absurd a.2.symm c
theorem tG(a:By)(b:L It)(d:E)(g:Tx)(f:L Tx)(c:Fa)(e:L Fa):jP a b d (g::f) (c::e)=if g.d=δ then jP a b (d+1) f e else
  if(vn a b c.1).2≠0 then([],d,(vn a b c.1).2) else(⟨g.s,c.2.map (·.1),(vn a b c.1).1⟩::(jP a b (d+1) f e).1,(jP a b (d+1) f e).2):=Y
theorem MU{a:By}{c:Tx}{d:L Tx}{e:Fa}{b:L Fa}(f:c.d=δ):jP a R m (c::d) (e::b)=jP a R (m+1) d b:=by rw[tG,aS f]
theorem Uo{a:By}{e:Tx}{i:L Tx}{b:Fa}{g:L Fa}{f:Hs}(h:e.d=γ)(d:(vn a R b.1).2=i1)(c:i1≠0):jG f (jP a R m (e::i) (b::g))=([],(m:T),i1):=by
 rw[tG,aR (by simp[h]),aS (by rw[d];exact c),d];simp[jG,c]
theorem VK{a:By}{c:Tx}{g:L Tx}{b:Fa}{e:L Fa}{d:Hs}(h:c.d=γ){f:L Tk}(k:(vn a R b.1).2=0)(i:(vn a R b.1).1=f):jG d (jP a R m (c::g) (b::e))=jG (d++[⟨c.s,b.2.map (·.1),f⟩]) (jP a R (m+1) g e):=by
 rw[tG,aR (by simp[h]),aR (by simp[k]),i];simp[jG]
theorem JI:∀{c:L Tx}{b a:E},oO b c=S a->a<b+c.length
 |[],c,b,a=>by cases a
 |t::d,c,b,a=>by
  rw[oO] at a;split at a
  .have:=JI a;simp only[bW];omega
  cases a;simp only[bW];omega
theorem Cn:∀{b:L Tx}{a:E}{d:T}{c:By},(jb a d b c).2.2≠0->0<=(jb a d b c).2.1/\(jb a d b c).2.1<a+b.length
 |[],c,d,b,a=>absurd Y a
 |t::e,c,d,b,a=>by
  rw[jb] at a |-;by_cases b:(jX (c,if t.d then d else -1) t.o b).2=0
  .rw[aS b] at a |-
   have:=Cn a;simp only[bW];omega
  rw[aR b];simp only[bW];omega
theorem wy:∀{c:L Tx}{b:E},(dH b c).2.2≠0->0<=(dH b c).2.1/\(dH b c).2.1<b+c.length
 |[],b,a=>absurd Y a
 |t::c,b,a=>by
  rw[qP] at a |-;split at a
  .rename_i d
   rw[aS d]
   have:=wy a;simp only[bW];omega
  rename_i d;rw[aR d];split at a
  .rename_i e
   rw[aS e];simp only[bW];omega
  rename_i e;rw[aR e]
  have:=wy a;simp only[bW];omega
theorem BF{e:By}:∀{d:L Tx}{c:L Fa}{b:E},(jP e R b d c).2.2≠0->0<=(jP e R b d c).2.1/\(jP e R b d c).2.1<b+d.length
 |[],c,b,a=>absurd Y a
 |t::d,c,b,a=>by
  rw[jP] at a |-;split at a
  .rename_i f
   rw[aS f]
   have:=BF a;simp only[bW];omega
  rename_i f;rw[aR f];split at a
  .rename_i g
   rw[aS g];simp only[bW];omega
  rename_i g;rw[aR g]
  have:=BF a;simp only[bW];omega
theorem My{a:L Tx}(b:(gR a).2.2≠0):0<=(gR a).2.1/\(gR a).2.1<a.length:=by
 unfold gR at b |-;by_cases c:32<a.length
 .rw[aS c]
  simp only;omega
 rw[aR c] at b |-;cases d:oO 0 a with
 |some c=>
  have:=JI d;simp only;omega
 |none=>
  rw[d] at b;simp only at b |-;by_cases c:(jb 0 0 a []).2.2≠0
  .rw[aS c]
   have:=Cn c;simpa using this
  rw[aR c] at b |-;by_cases c:(dH 0 a).2.2≠0
  .rw[aS c]
   have:=wy c;simpa using this
  rw[aR c] at b |-;by_cases a:(jP (jb 0 0 a []).1 (ki (dH 0 a).1) 0 a (dH 0 a).1).2.2≠0
  .rw[aS a]
   have:=BF a;simpa using this
  rw[aR a] at b;exact absurd Y b
def LKR(a:Fa×T×T)(f:ε)(e:Ending)(b:ε):Prop:=∃c d,e=.returned (.tuple #[.agg #[c,d],I a.2.1,I a.2.2])/\Sl 200 2 np b c a.1.1/\Sl 200 2 np b d a.1.2/\Fr j f b
structure FQ(B q:E)(R W:L It)(vr vw:ζ)(w:ε):Prop where
 box:aY w q #[vr,vw] 195
 ro:w.ownsRow B 200 2 vr R.length (ic R)
 wo:w.ownsRow B 200 2 vw W.length (ic W)
 ap:∀b,vr.ownBlock=S b->¬vw.ownBlock=S b
theorem FQ.fr{d q:E}{w c:ε}(a:FQ d q R R1 x v1 w)(b:Fr j w c):FQ d q R R1 x v1 c:=
 ⟨b.hs a.box,b.owns a.ro (λ_ _ c=>c),b.owns a.wo (λ_ _ b=>b),a.ap⟩
theorem FQ.ne{b q:E}{w:ε}(a:FQ b q R R1 x v1 w):(∀b,x.ownBlock=S b->b≠q)/\∀b,v1.ownBlock=S b->b≠q:=
 ⟨λc b=>(aW a.ro b).2.ne ⟨_,_,a.box⟩ J,λc b=>(aW a.wo b).2.ne ⟨_,_,a.box⟩ J⟩
theorem FQ.adl{b q:E}(a:FQ b q R R1 x v1 W){c:L It}(e:CPR b q 1 #[x,v1] v1 c W e2 V):e2=.returned (.tuple #[])/\∃d,FQ b q R c x d V/\Fr (λb=>b=q\/v1.ownBlock=S b) W V:=by
 obtain⟨e2,c,⟨d,g,e⟩,b,f⟩:=e;refine⟨e2,c,⟨d,b.owns a.ro (λd c g=>g.elim (a.ne.1 d c) (a.ap d c)),e,λc d e=> ?_⟩,b⟩;rcases f with b|b
 .exact a.ap c d (b▸e)
 have b:=b c e;obtain⟨b,c,a⟩:=(aW a.ro d).2
 have:=ba a;omega
theorem FQ.acb{b q:E}(a:FQ b q R R1 x v1 W){c:L It}(e:CPR b q 0 #[x,v1] x c W e2 V):e2=.returned (.tuple #[])/\∃d,FQ b q c R1 d v1 V/\Fr (λb=>b=q\/x.ownBlock=S b) W V:=by
 obtain⟨e2,c,⟨d,g,e⟩,b,f⟩:=e;refine⟨e2,c,⟨d,e,b.owns a.wo (λd c e=>e.elim (a.ne.2 d c) (λe2=>a.ap d e2 c)),λc d e=> ?_⟩,b⟩;rcases f with b|b
 .exact a.ap c (b▸d) e
 have b:=b c d;obtain⟨b,c,a⟩:=(aW a.wo e).2
 have:=ba a;omega
theorem FQ.sub{d q e:E}(a:FQ d q R R1 x v1 W)(b:bT e W V)(c:fE 165 W e):FQ d q R R1 x v1 V:=
 ⟨b.aB a.box (fE.ne ⟨_,_,a.box⟩ c J),b.owns a.ro (λe d=>(aW a.ro d).2.ne c J),b.owns a.wo (λd b=>(aW a.wo b).2.ne c J),a.ap⟩
theorem CB.sub{q e g k h i f d:E}(a:CB q e i1 R g k h i f W)(b:bT d W V)(c:fE 165 W d):CB q e i1 R g k h i f V:=
 ⟨b.aB a.h7 (fE.ne ⟨_,_,a.h7⟩ c J),b.aB a.h6 (fE.ne ⟨_,_,a.h6⟩ c J),b.aB a.h2 (fE.ne ⟨_,_,a.h2⟩ c J),b.aB a.hk (fE.ne ⟨_,_,a.hk⟩ c J),a.cut⟩
theorem Zx(a:W.ownsRow m 200 2 x R.length (ic R)):Sl 200 2 np W x R:=(tH a Y).read
theorem WQ:(prog.info? 195).map (·.size)=S 2:=kR
theorem ie{a:θ ζ}{b:θ ζ}(f:a[2]?.getD undef=aP m 0)(d:a[3]?.getD undef=x)(e:a[4]?.getD undef=v1)(c:aY W m b 195)(g:b.size=2):
  (results Tryz.f73 a).run prog W=.ok (.tuple #[.agg b,x,v1]) W:=by
 have a:Tryz.f73.results=#[.cell 2 195,.tmp 3,.tmp 4]:=Y;simp[results,a,f,d,e,asAddr,fQ c Y underlying195 (by rw[g];exact WQ),Result.andThen]
theorem Ls(b:W.cell? (H m q)=S x):m<W.heap.size:=by
 rcases dP m W.heap.size with a|a
 .exact a
 simp[ε.cell?,kC a] at b
theorem acY{a:Ev}(b:yX a=δ):(!wJ a)=γ:=by unfold wJ;rw[b];rfl
theorem ZO{a:Ev}(b:yX a=γ)(c:a.k=1\/a.k=2):(!wJ a)=δ:=by
 unfold wJ lm;rw[b];rcases c with a|a<;>rw[a]<;>rfl
theorem acz{a:Ev}(b:¬a.k=1)(c:¬a.k=2):(!wJ a)=γ:=by
 unfold wJ lm;rw[show(a.k==1)=δ by simpa using b,show(a.k==2)=δ by simpa using c];cases yX a<;>rfl
def qI(c d:ι T)(a:T)(b:κ):T:=match c with
 |some own=>if own=a then 0 else 10
 |none=>match d with
  |some c=>if c=a then 0 else 11
  |none=>if b then 9 else 0
theorem YM{a:Ev}(b:wJ a=γ):tg R R1 a e1=if a.k=2 then 0 else qI (pc a.y R1) (pc a.y R) a.v (e1.any (sj a.y a.v)):=by
 unfold tg;rw[aR (by rw[b];simp)];rfl
theorem Tm(C:Tx)(d5:ζ)(t:ε)(d0:RE t d5 C.o)(d3:C.o.length<=400):aQ 73 #[.agg #[I C.s,.bool C.d,I C.f,d5]] t (LKR (ru C) t):=by
 obtain⟨g9,g7,g8,h⟩:=C;unfold ru;simp only at d0 d3 |-;obtain⟨f0,s,B,a5,rfl,b5,g6,f7⟩:=d0;obtain⟨X,a⟩:=M (look h 0 [] []);rw[<-a];have e6:=Z a;obtain⟨k,b⟩:=M h.length;rw[<-b] at b5 d3 |-;have⟨HN,a4⟩:=bD b f7;unfold maxLen at g6;clear b a
 delta aQ;go_in
 go_wp2_with fail;refine cT (λi a=> ?_);obtain⟨x,b⟩:=M t.heap.size;obtain⟨n,d⟩:=M (x+1);obtain⟨l,e⟩:=M (x+2);rw[<-b];try rw[show x+1+1=l by omega]
 try rw[show x+1=n by omega]
 have c1:=fa3 a;have e8:(aY i x #[I g9,.bool g7,I g8,.slice f0 k a5] 130):=(by rw[a];exact aC (aC (bM b) _) _);have c6:N (aY i n #[aV,aV] 195):=Z (by rw[a];exact aC (bM sO) _);have e9:(FQ i.heap.size l [] [] aV aV i):=⟨by rw[a];exact bM sO,iL _ _ _ _,iL _ _ _ _,λf c=>by cases c⟩;have z:N (t.heap.size<=x/\x<n/\n<l):=Z O;clear a b d e;go_loopg [21] k (λgk s21 wr=>∃(a:E)(b c:L It)(d e:ζ),a+gk=k/\s21=I a/\look (h.drop a) a b c=X/\FQ i.heap.size l b c d e wr/\Sx b/\Sx c/\b.length<=a/\c.length<=a/\bT l i wr)
 .exact⟨0,[],[],_,_,du,Y,e6.1.symm,e9,Bb,Bb,eG,eG,rF⟩
 case round=>
  obtain⟨c,e,g,a6,K,g1,rfl,g2,g0,g4,g5,g3,a,f9⟩:=hrel;have⟨HK,b2,FB,SR,SW,LR,w,F⟩:=SD g1 g2 g0 g4 g5 g3 a f9;have C:c<=k:=O;clear a;by_cases C:c<k
  .obtain⟨a,b4⟩:=gE h c fU
   have b0:=Z b4;have c7:(Fr j t wr):=(c1.1.keep F.1 (λd b=>by subst b;have:=z.1;omega));obtain rfl:=a4.1.addr b4;obtain⟨C,b4,d0,d3⟩:=(a4.1.j c7).2 c a b4;have⟨C,b4⟩:=dy c k;go_upto_region 5 with fail;refine cT (λD o=> ?_);obtain⟨C,m⟩:=M wr.heap.size;rw[<-m];have a0:=cY o;have u:N (∀d,Fr j D d->d.cell? (H C 0)=S (I a.k)/\d.cell? (H C 1)=S (I a.s)/\d.cell? (H C 2)=S (I a.y)/\d.cell? (H C 3)=S (I a.v)):=Z λd b=>by
    have f:=b.hs (show aY D C #[I a.k,I a.s,I a.y,I a.v] 165 by rw[o];exact bM m);exact⟨aj f 0,aj f 1,aj f 2,aj f 3⟩
   have b3:=Z (c7.step a0);have V:N (∀d,Fr j D d->aY d n #[aV,aV] 195):=Z λd b=>(a0.step b).hs (F.1.aB c6.1 (oB z.1));have e5:N (∀d,Fr j D d->d.cell? (H x 3)=S (.slice (S (H s B)) k a5)):=Z λd b=>aj ((a0.step b).hs (F.1.aB e8 (oB z.1))) 3;have Q:=Z (F.1.trans a0 (λ_ _ f=>f) (λ_ _ f=>f.elim));have c4:=(LY b0.1 e g);have P:N (∀(f:T)(d:ε),Fr j D d->tg e g a (h.drop (c+1))=f->f≠0->LKR X t (.returned (.tuple #[.agg #[aV,aV],I c,I f])) (xP d n aV aV)):=Z λp d b r f=>by
    have p:=c4;rw[b2.1,r,aR f] at p;rw[p];exact⟨_,_,Y,dJ,dJ,(b3.1.step b).keep (eO d n _ _) (λp v=>by subst v;have:=z.1;omega)⟩
   have W:N (tg e g a (h.drop (c+1))=0->look (h.drop (c+1)) (c+1) (oA e g a).1 (oA e g a).2=X):=Z λr=>by
    have p:=c4;rw[b2.1,r,aS Y] at p;exact p.symm
   clear o m;go_cut [38] (λs38 m=>s38=.bool (!wJ a)/\Fr j D m)
   .obtain⟨o,v,x,y⟩:=u.1 _ rF
    go_wp2_with fail;refine sg (AO a _) ?_;rintro v o ⟨rfl,b⟩;obtain⟨o,v,x,y⟩:=u.1 _ b;obtain⟨p,o⟩:=M (yX a);rw[<-o];have m:=o.symm;clear o;cases p
    .go_wp2
     go_meet;exact⟨by rw[(acY m)],b⟩
    by_cases r:a.k=1
    .have o:(a.k !=1)=δ:=by simp[r]
     go_wp2;go_meet;exact⟨by rw[(ZO m (.inl r))],b⟩
    by_cases f:a.k=2
    .have o:(a.k !=1)=γ:=by simp[r]
     (have o:(a.k !=2)=δ:=by simp[f]);go_wp2;go_meet;exact⟨by rw[(ZO m (.inr f))],b⟩
    (have m:(a.k !=1)=γ:=by simp[r]);(have m:(a.k !=2)=γ:=by simp[f]);go_wp2;go_meet;exact⟨by rw[(acz r f)],b⟩
   case' rest=>
    obtain⟨h2,m⟩:=M wc;rw[<-m] at hcut |-;clear m;obtain⟨rfl,b⟩:=hcut;have R:=Z b;cases d4:wJ a
    .have f:=V.1 _ R.1
     obtain⟨m,o,p⟩:=oK f;go_wp2;exact aO (ie Y Y Y (fg f _ _) Y) Y (P.1 1 _ R.1 (by unfold tg;rw[aS d4]) J)
    have e7:=Z d4;have d8:N (i.heap.size<=D.heap.size):=Z Q.1.size;obtain⟨x,C,D,b4⟩:=u.1 _ R.1;have A:=((FB.1.fr a0).fr R.1);go_wp2_with fail;refine sg (Ed l 1 g a.y i.heap.size K _ h2 (aj A.box 1) A.wo Y (oB w.1) SW.1) ?_;rintro c4 h3 ⟨x,b4,C,D,a0,rfl,f6,b⟩;have c2:=Z (R.1.step b);have a1:=(A.fr b);obtain⟨x,C,D,R⟩:=u.1 _ c2.1;go_wp2_with fail;refine sg (Ed l 0 e a.y i.heap.size a6 _ h3 (aj a1.box 0) a1.ro Y (oB LR.1) SR.1) ?_;rintro c4 b4 ⟨x,a0,C,D,R,rfl,f5,b⟩;have e2:=(c2.1.step b);have a2:=(a1.fr b);have a9:=(f6.fr b);unfold acT acJ;go_wp2_with fail;refine sg (Kp a9 (aj a2.box 1) a2.wo (oB w.1) SW.1) ?_;rintro C x ⟨rfl,b⟩;have e3:=(e2.step b);have a3:=(a2.fr b);have⟨b9,a8⟩:=bD (a9.fr b) (f5.fr b);go_wp2_with fail;(refine sg (Kp a8.1 (aj a3.box 0) a3.ro (oB LR.1) SR.1) ?_;rintro m d6 ⟨rfl,b⟩;have⟨U,b4,a0,R⟩:=gB (e3.step b) (a3.fr b) (b9.1.fr b) (a8.1.fr b);clear b;obtain⟨b6,m⟩:=M (pc a.y g);obtain⟨b7,o⟩:=M (pc a.y e);rw[<-m,<-o];have p:N (tg e g a (h.drop (c+1))=if a.k=2 then 0 else qI b6 b7 a.v ((h.drop (c+1)).any (sj a.y a.v))):=Z (by rw[m,o];exact YM e7.1));(have LN:N (oA e g a=if a.k=2 then(e,mj a.y a.v g) else if b6.isSome then(e,g) else if b7.isSome then(e,g) else(mj a.y a.v e,g)):=Z (by rw[m,o];rfl));clear m o;obtain⟨c0,c3,c4,c5⟩:=u.1 _ U.1;go_upto_region 12 with fail;refine cT (λy D=> ?_);obtain⟨o,C⟩:=M d6.heap.size;rw[<-C];have x:=cY D;have G:N (aY y o #[I 2,I a.s,I a.y,I a.v] 165):=Z (by rw[D];exact bM C);have⟨m,v,c2,b8⟩:=gB (U.1.step x) (b4.1.fr x) (a0.1.fr x) (R.1.fr x);have a7:N (i.heap.size<=y.heap.size):=Z (gX d8.1 m.1.size);have b1:N (d6.heap.size<=o):=Z O;clear c0 c3 c4 c5 D C x A a1 a2 a3 b4 a9 b9 a0 a8 R;have e1:N (∀(d:ε)(q:ζ),Fr (λx=>x=l\/q.ownBlock=S x) y d->(∀x,q.ownBlock=S x->i.heap.size<=x)->bT l i d):=Z λd q b A=>(Q.1.trans m.1 (λ_ _ x=>x) (λ_ _ x=>x.elim)).trans b (λ_ _ x=>x) (λD C x=>x.elim id (λx=>absurd (A D x) (lN C)));obtain⟨a2,a3,a8,a9⟩:=u.1 _ m.1;by_cases A:a.k=2
    .have x:(a.k==2)=γ:=sU A
     have NX:=Z (W.1 (by rw[p.1,aS A]));rw[LN.1,aS A] at NX;clear A;go_wp2_with fail;refine sg (yu c2.1 ⟨v.1.box,Y,v.1.wo⟩ a.v (oB w.1) a7.1 sI) ?_;intro x c3 b9;obtain⟨rfl,c0,a1,b⟩:=v.1.adl b9;have⟨x,C⟩:=bD a1 (e1.1 c3 K b (λC x=>(aW v.1.wo x).1));clear b9 a1 b a2 a3 a8 a9;go_wp2;go_roundg (gk-1)
     .exact⟨c+1,e,mj a.y a.v g,a6,c0,oB HK.1,by go_num,NX.1,x.1,SR.1,rI SW.1,oB LR.1,gX w.1 (mT a.y a.v g),C.1⟩
     have:=HK.1;omega
    have x:(a.k==2)=δ:=sU A;rw[aR A] at p LN;clear A;have c5:N (∀(d:ε),Fr j y d->bT l i d):=Z λd b=>((Q.1.trans m.1 (λ_ _ x=>x) (λ_ _ x=>x.elim)).trans b (λ_ _ x=>x) (λ_ _ x=>x.elim));cases b6 with
    |some A=>
     by_cases x:A=a.v
     .have NX:=Z (W.1 (by rw[p.1];simp[qI,x]))
      rw[LN.1] at NX;have C:(A !=a.v)=δ:=sU x;clear x;simp only[nU,jx,eX] at NX |-;go_wp2;go_roundg (gk-1)
      .exact⟨c+1,e,g,a6,K,oB HK.1,by go_num,NX.1,v.1,SR.1,SW.1,oB LR.1,oB w.1,c5.1 _ rF⟩
      have:=HK.1;omega
     have C:N (tg e g a (h.drop (c+1))=10):=Z (by rw[p.1];simp[qI,x]);have A:(A !=a.v)=γ:=sU x;have f:=V.1 _ m.1;obtain⟨A,D,R⟩:=oK f;have A:=Z f;clear x f;simp only[nU,jx];go_wp2;exact aO (ie Y Y Y (fg A.1 _ _) Y) Y (P.1 10 _ m.1 C.1 J)
    |none=>
    cases b7 with
    |some A=>
     by_cases x:A=a.v
     .have NX:=Z (W.1 (by rw[p.1];simp[qI,x]))
      rw[LN.1] at NX;have C:(A !=a.v)=δ:=sU x;clear x;simp only[nU,qu,jx,pY,eX] at NX |-;go_wp2;go_roundg (gk-1)
      .exact⟨c+1,e,g,a6,K,oB HK.1,by go_num,sU NX.1,v.1,SR.1,SW.1,oB LR.1,oB w.1,c5.1 _ rF⟩
      have:=HK.1;omega
     have C:N (tg e g a (h.drop (c+1))=11):=Z (by rw[p.1];simp[qI,x]);have A:(A !=a.v)=γ:=sU x;have f:=V.1 _ m.1;obtain⟨A,D,R⟩:=oK f;have A:=Z f;clear x f;simp only[nU,qu,jx,pY];go_wp2;exact aO (ie Y Y Y (fg A.1 _ _) Y) Y (P.1 11 _ m.1 C.1 J)
    |none=>
     have d2:=e5.1 _ m.1;simp only[qu,pY];have KN:N (c+1<=k):=Z O;have c0:N (AZ y (S (H s B)) s B h):=Z (a4.1.j (b3.1.step m.1));have c8:s≠o:=by
      obtain⟨x,-⟩:=c0.1.2 c a b0.1;intro A;subst A;have r:=(a4.1.2 c a b0.1).1;have f:s<t.heap.size:=Ls r
      have:=b1.1
      have:=U.1.size
      have:=b3.1.size;omega
     have b9:N (∀r,r=S (H s (B+(c+1)*4))\/c+1=k->AZ y r s (B+(c+1)*4) (h.drop (c+1))):=Z λx r=>⟨r.symm.imp (λr=>dY fU) id,λx A r=>by
      have:=c0.1.2 (c+1+x) A (sU r);rw[E.add_mul,<-nT] at this;exact this⟩
     obtain⟨c9,r⟩:=M ((h.drop (c+1)).any (sj a.y a.v));rw[<-r] at p;have c3:=Z r;clear r;have e4:N (k<=a5/\c+1<=k):=Z ⟨b5,KN.1⟩;clear b5;by_cases f8:a5=c+1
     .subst f8
      have r:N (c+1=k):=Z (oB e4.1);go_wp2_with fail;clear a2 a3 a8 a9 d2;refine sg (uz 107 #[aP o 0] _ s (B+(c+1)*4) _ _ o (h.drop (c+1)) (sj a.y a.v) y (by simp[go_sem]) (b9.1 _ (by first|exact .inl Y|exact .inr r.1)) (by rw[ik,<-HN.1]) O c8 (LK o a.y a.v) ⟨a.s,G.1⟩ (λ_ x d _ r=>Qt o a.y a.v x d r)) ?_;rintro r h0 ⟨rfl,b⟩;rw[<-c3.1];have a1:=Z (m.1.keep b (λr A=>by subst A;have:=b1.1;have:=U.1.size;omega));have⟨A,e0⟩:=bD (v.1.sub b ⟨_,_,G.1⟩) (b8.1.sub b ⟨_,_,G.1⟩);have d9:N (i.heap.size<=h0.heap.size):=Z (gX a7.1 b.size);clear b;obtain⟨f1,f2,f3,f4⟩:=u.1 _ a1.1;cases c9
      .have NX:=Z (W.1 (by rw[p.1];simp[qI]))
       rw[LN.1] at NX;go_wp2_with fail;refine sg (yu e0.1 ⟨A.1.box,Y,A.1.ro⟩ a.v (oB LR.1) d9.1 sI) ?_;intro r h1 d1;obtain⟨rfl,d7,b5,b⟩:=A.1.acb d1;have r:=Z b5;have x:N (bT l i h1):=Z ((Q.1.trans a1.1 (λ_ _ x=>x) (λ_ _ x=>x.elim)).trans b (λ_ _ x=>x) (λD C x=>x.elim id (λx=>absurd (aW A.1.ro x).1 (lN C))));clear d1 b5 b f1 f2 f3 f4;go_wp2;go_roundg (gk-1)
       .exact⟨c+1,mj a.y a.v e,g,d7,K,oB HK.1,by go_num,sU NX.1,r.1,rI SR.1,SW.1,gX LR.1 (mT a.y a.v e),oB w.1,x.1⟩
       have:=HK.1;omega
      have r:N (tg e g a (h.drop (c+1))=9):=Z (by rw[p.1];simp[qI]);have f:=V.1 _ a1.1;obtain⟨x,A,C⟩:=oK f;have x:=Z f;clear f;go_wp2;exact aO (ie Y Y Y (fg x.1 _ _) Y) Y (P.1 9 _ a1.1 r.1 J)
     have r:N True:=Z trivial;go_wp2_with fail;clear a2 a3 a8 a9 d2;refine sg (uz 107 #[aP o 0] _ s (B+(c+1)*4) _ _ o (h.drop (c+1)) (sj a.y a.v) y (by simp[go_sem]) (b9.1 _ (by first|exact .inl Y|exact .inr r.1)) (by rw[ik,<-HN.1]) O c8 (LK o a.y a.v) ⟨a.s,G.1⟩ (λ_ s d _ r=>Qt o a.y a.v s d r)) ?_;rintro d e0 ⟨rfl,b⟩;rw[<-c3.1];have a1:=Z (m.1.keep b (λd A=>by subst A;have:=b1.1;have:=U.1.size;omega));have⟨A,b5⟩:=bD (v.1.sub b ⟨_,_,G.1⟩) (b8.1.sub b ⟨_,_,G.1⟩);have a9:N (i.heap.size<=e0.heap.size):=Z (gX a7.1 b.size);clear b;obtain⟨d1,d2,d7,d9⟩:=u.1 _ a1.1;cases c9
     .have NX:=Z (W.1 (by rw[p.1];simp[qI]))
      rw[LN.1] at NX;go_wp2_with fail;refine sg (yu b5.1 ⟨A.1.box,Y,A.1.ro⟩ a.v (oB LR.1) a9.1 sI) ?_;intro d f1 a3;obtain⟨rfl,a8,a2,b⟩:=A.1.acb a3;have d:=Z a2;have i:N (bT l i f1):=Z ((Q.1.trans a1.1 (λ_ _ i=>i) (λ_ _ i=>i.elim)).trans b (λ_ _ i=>i) (λo m i=>i.elim id (λi=>absurd (aW A.1.ro i).1 (lN m))));clear a3 a2 b d1 d2 d7 d9;go_wp2;go_roundg (gk-1)
      .exact⟨c+1,mj a.y a.v e,g,a8,K,oB HK.1,by go_num,sU NX.1,d.1,rI SR.1,SW.1,gX LR.1 (mT a.y a.v e),oB w.1,i.1⟩
      have:=HK.1;omega
     have a:N (tg e g a (h.drop (c+1))=9):=Z (by rw[p.1];simp[qI]);have f:=V.1 _ a1.1;obtain⟨b,d,h⟩:=oK f;have b:=Z f;clear f;go_wp2;exact aO (ie Y Y Y (fg b.1 _ _) Y) Y (P.1 9 _ a1.1 a.1 J)
  have v:N (X=((e,g),0,0)):=Z (by rw[<-b2.1,dY fU];rfl);obtain rfl:c=k:=O;obtain⟨a,m,rfl,-,-⟩:=bB FB.1.ro;obtain⟨b,o,rfl,-,-⟩:=bB FB.1.wo;have c:=bx FB.1.box;have c:=dh FB.1.box;have f:=F.1.aB c6.1 (show n≠l by have:=z.1;omega);obtain⟨c,d,h⟩:=oK f;have u:=Z f;clear f;go_wp2;have f:=eO wr n (.slice a e.length m) (.slice b g.length o);have G:∀c,(ζ.slice a e.length m).ownBlock=S c->¬c=n:=λd c=>(aW FB.1.ro c).2.ne ⟨_,_,u.1⟩ J;have P:∀c,(ζ.slice b g.length o).ownBlock=S c->¬c=n:=λd c=>(aW FB.1.wo c).2.ne ⟨_,_,u.1⟩ J;have RR:LKR X t (.returned (.tuple #[.agg #[.slice a e.length m,.slice b g.length o],aI,aI])) (xP wr n (.slice a e.length m) (.slice b g.length o)):=by
   rw[v.1];exact⟨_,_,Y,Zx (f.owns FB.1.ro G),Zx (f.owns FB.1.wo P),(c1.1.keep F.1 (λc A=>by subst A;have:=z.1;omega)).keep f (λc A=>by subst A;have:=z.1;omega)⟩
  exact aO (v:=.tuple #[.agg #[.slice a e.length m,.slice b g.length o],aI,aI]) (ie Y Y Y (fg u.1 _ _) Y) Y RR
theorem abU{p:α->κ}(a:X[m]? =S x1)(b:p x1=δ):X.all p=δ:=lG.2 ⟨x1,bQ a,by simp[b]⟩
theorem UO{a:α->κ}(b:X[m]? =S x1)(c:(X.take m).all a=γ)(d:a x1=γ):(X.take (m+1)).all a=γ:=by
 rw[bJ b,lZ,c];simp[d]
theorem Vk(k:Tx)(a1:ζ)(l:ε)(n:RE l a1 k.o):dr 71 #[.agg #[I k.s,.bool k.d,I k.f,a1]] l (.bool (txB k)):=by
 obtain⟨f,a4,a5,i⟩:=k;simp only at n |-;obtain⟨b1,b2,c6,b3,rfl,c5,a9,G⟩:=n;obtain⟨e,A⟩:=M i.length;rw[<-A];have HN:=Z A;obtain⟨r,x⟩:=M (txB ⟨f,a4,a5,i⟩);rw[<-x];have P:N (r=(i.all wJ&&(decide (0<=f)&&decide (f<8)))):=Z (by rw[x];rfl);unfold maxLen at a9;have c4:e<=9223372036854775807:=O;clear A x
 delta dr aQ;go_in
 go_wp2_with fail;refine cT (λa2 C=> ?_);obtain⟨b9,z⟩:=M l.heap.size;try rw[<-z]
 have h:Fr j l a2:=(by rw[C];exact(Fr.refl j l).alloc _);have a3:=dL C z;clear C z;go_loopg [8] e (λgk a8 wr=>∃(b:E),b+gk=e/\a8=I b/\(i.take b).all wJ=γ/\Fr j a2 wr)
 .exact⟨0,du,Y,sI,rF⟩
 case round=>
  obtain⟨b,a7,rfl,a6,g⟩:=hrel;have⟨HK,K⟩:=bD a7 a6;have c2:b<=e:=O;by_cases c3:b<e
  .obtain⟨s,y⟩:=gE i b fU
   obtain rfl:=G.addr y;obtain⟨b4,b5,b6,b7⟩:=(G.j (h.step g)).2 b s y;have Q:=Z y;have⟨c0,c1⟩:=dy b e;go_wp2_with fail;refine sg (AO s _) ?_;rintro b8 d1 ⟨rfl,a0⟩;obtain⟨b0,w⟩:=M wr.heap.size;have m:=((g.alloc _).step a0);rw[<-w];have X:=bx (a0.hs (bM w));clear w;obtain⟨a,t,v,u⟩:=s;simp only at X;have V:N (wJ ⟨a,t,v,u⟩=(yX ⟨a,t,v,u⟩&&(a==1||a==2))):=Z Y;obtain⟨D,B⟩:=M (yX ⟨a,t,v,u⟩);rw[<-B];have R:=Z B;clear B;have W:N (D=γ->(a=1\/a=2)->(i.take (b+1)).all wJ=γ):=Z (λc d=>UO Q.1 K.1 (by rw[V.1,<-R.1,c];rcases d with rfl|rfl<;>rfl));have U:N (D=δ\/(a≠1/\a≠2)->r=δ):=Z (λn=>by
    rw[P.1,abU Q.1 (p:=wJ) (by rw[V.1,<-R.1];rcases n with rfl|⟨c,d⟩<;>simp_all)];rfl)
   cases D
   .have o:=Z (U.1 (.inl Y))
    go_wp2;all_goals(go_ret;exact⟨by rw[o.1];rfl,h.step m⟩)
   by_cases c:a=1
   .subst c
    go_wp2;go_roundg (gk-1)
    .exact⟨b+1,oB HK.1,by go_num,W.1 sI (.inl sI),m⟩
    have:=HK.1;omega
   have c7:(a==1)=δ:=sU c;have c8:(a !=1)=γ:=sU c;by_cases d:a=2
   .subst d
    go_wp2;go_roundg (gk-1)
    .exact⟨b+1,oB HK.1,by go_num,W.1 sI (.inr sI),m⟩
    have:=HK.1;omega
   have c9:(a==2)=δ:=sU d;have d0:(a !=2)=γ:=sU d;have o:=Z (U.1 (.inr ⟨c,d⟩));go_wp2;all_goals(go_ret;exact⟨by rw[o.1];rfl,h.step m⟩)
  obtain rfl:b=e:=O;have p:N (r=(decide (0<=f)&&decide (f<8))):=Z (by rw[P.1];have:=K.1;rw[HN.1,oz] at this;rw[this];rfl);have F:=g.hs a3.1;have X:=bx F;clear F;by_cases c:0<=f
  .by_cases d:f<8
   .go_wp2
    all_goals(go_ret;exact⟨by rw[p.1];simp[c,d],h.step g⟩)
   go_wp2;all_goals(go_ret;exact⟨by rw[p.1];simp[c,d],h.step g⟩)
  go_wp2;all_goals(go_ret;exact⟨by rw[p.1];simp;omega,h.step g⟩)
theorem aaM:(prog.info? 54).map (·.size)=S 1:=kR
theorem cG{d:Func}{e b c:Tmp}(h:d.results=#[.cell e 54,.tmp b,.tmp c]){a:θ ζ}{q:E}(g:a[e]?.getD undef=aP q 0)(e:a[b]?.getD undef=v1)(f:a[c]?.getD undef=v2)(b:aY W q #[x] 54):
  (results d a).run prog W=.ok (.tuple #[.agg #[x],v1,v2]) W:=by
 simp[results,h,g,e,f,asAddr,fQ b Y underlying54 aaM,Result.andThen]
theorem jK(a b:T)(c:ε):dr 70 #[I a,I b] c (.tuple #[.agg #[aV],I a,I b]):=by
 delta dr aQ;go_in
 go_wp2;exact aO (cG Y Y Y Y (bM Y)) Y ⟨Y,(Fr.refl j c).alloc _⟩
def ra(d:ε)(e:L ζ)(a:Fa):Prop:=∃b c,e=[b,c]/\Sl 200 2 np d b a.1/\Sl 200 2 np d c a.2
theorem ra.aJ:dU (λa=>a=200) ra:=by
 rintro i l h k x a b ⟨f,g,c,d,e⟩;exact⟨f,g,c,d.aJ np.aJ a (λf d c=>b f d (c.elim id (λx=>x.elim))),e.aJ np.aJ a (λd c a=>b d c (a.elim id (λx=>x.elim)))⟩
instance:SC ra:=⟨_,ra.aJ⟩
theorem ra.nil(a:ε):ra a [aV,aV] ([],[]):=⟨_,_,Y,dJ,dJ⟩
theorem fF.itm(c:fF 200 2 np W A m q R){a:It}(d:R[n1]? =S a):W.cell? (H m (q+n1*2))=S (I a.1)/\W.cell? (H m (q+n1*2+1))=S (I a.2):=by
 obtain⟨e,-,rfl,b⟩:=c.2 n1 a d;exact⟨b 0 _ Y,b 1 _ Y⟩
theorem fF.fac{c:L Fa}(d:fF 195 2 ra W A m q c){a:Fa}(g:c[n1]? =S a):∃b c,W.cell? (H m (q+n1*2))=S b/\W.cell? (H m (q+n1*2+1))=S c/\Sl 200 2 np W b a.1/\Sl 200 2 np W c a.2:=by
 obtain⟨k,-,⟨h,i,rfl,e,f⟩,b⟩:=d.2 n1 a g;exact⟨h,i,b 0 _ Y,b 1 _ Y,e,f⟩
theorem Ri(a:L α)(b:E)(d c:α)(e:a.length=m):(a++L.replicate (b+1) d).set m c=(a++[c])++L.replicate b d:=by
 subst e;rw[vJ _ _ eG,E.sub_self,sF];simp
theorem ym(a:T×T):∀(c:L Ev)(b:By),(jX a c b).1.length<=b.length+c.length
 |[],b=>eG
 |e::c,b=>by
  rw[jX];have d:=ym a c b;have a:=ym a c (((e.y,e.v),a)::b);simp only[bW] at a |-;split
  .omega
  split
  .simp only;omega
  split
  .simp only;omega
  omega
def Pt(a:L It):Prop:=∀b∈a,ZB b
theorem qv:Pt []:=λb a=>by cases a
theorem Kj{a:Ev}(d:Pt R)(b:wJ a=γ):Pt (mj a.y a.v R):=λe a=>(yE a).elim (λc=>by
 subst c;simp only[wJ,bA] at b;exact ZH b.1) (d e)
theorem Lf:∀(a:L Ev)(d:E)(b c:L It),Pt b->Pt c->a.all wJ=γ->Pt (look a d b c).1.1/\Pt (look a d b c).1.2/\(look a d b c).1.1.length<=b.length+a.length/\(look a d b c).1.2.length<=c.length+a.length
 |[],f,c,d,a,b,_=>⟨a,b,eG,eG⟩
 |e::n,k,a,b,c,d,f=>by
  simp only[lM,bA] at f;have h:=Kj c f.1;have i:=Kj d f.1;have l:=mT e.y e.v a;have m:=mT e.y e.v b;have g:Pt (oA a b e).1/\Pt (oA a b e).2/\(oA a b e).1.length<=a.length+1/\(oA a b e).2.length<=b.length+1:=by
   unfold oA;split
   .exact⟨c,i,jz _,m⟩
   split
   .exact⟨c,d,jz _,jz _⟩
   split
   .exact⟨c,d,jz _,jz _⟩
   exact⟨h,d,l,jz _⟩
  rw[look];split
  .obtain⟨a,b,c,d⟩:=Lf n (k+1) _ _ g.1 g.2.1 f.2
   simp only[bW];exact⟨a,b,oB g.2.2.1,oB g.2.2.2⟩
  exact⟨qv,qv,nG,nG⟩
def inF(b:E)(a:Fa):Prop:=Pt a.1/\Pt a.2/\a.1.length<=b/\a.2.length<=b
theorem VM(a:E):inF a ([],[]):=⟨qv,qv,nG,nG⟩
theorem YW{t:Tx}(a:t.o.all wJ=γ)(c:t.o.length<=m):inF m (ru t).1:=by
 obtain⟨d,e,a,b⟩:=Lf t.o 0 [] [] qv qv a;simp at a b;exact⟨d,e,bX a c,bX b c⟩
theorem DP:∀{d:L Tx}{f:E},oO f d=η->∀c∈d,c.o.all wJ=γ
 |[],_,_,c,a=>by cases a
 |x::d,f,b,c,a=>by
  rw[oO] at b;split at b
  .rename_i e
   rcases cK.1 a with rfl|a
   .simp only[txB,bA] at e;exact e.1
   exact DP b c a
  cases b
theorem IZ{a:L Fa}{b:Fa}(c:a[m]? =S b):ki (a.take (m+1))=ki (a.take m)++b.2:=by
 unfold ki;rw[bJ c,ny];simp
theorem QI:(prog.info? 195).map (λa=>(a.zero,a.size,a.bytes))=S (S (.agg #[aV,aV]),2,48):=kR
theorem MQ(a:ζ)(b:E):(madeCells #[a,a] (b*2)).toList=(L.replicate b [a,a]).flatten:=by
 rw[show[a,a]=L.replicate 2 a from Y,L.flatten_replicate_replicate];refine L.ext_getElem (by simp[madeCells]) λa b c=> ?_;have:a % 2=0\/a % 2=1:=O;rcases this with a|a<;>simp[madeCells,a]
theorem Gp(c:m<=W.heap.size)(d:q<=100000):cC m 195 2 ra (W.alloc (.cells (madeCells #[aV,aV] (q*2)) 195)) (.slice (S (H W.heap.size 0)) q q) (L.replicate q ([],[])) (L.replicate q [aV,aV]):=
 cC.lit (bM Y) c sI (by unfold maxLen;omega) (MQ _ _) sI λc b d c d=>by
  obtain⟨c,a⟩:=cj.1 c;obtain⟨c,b⟩:=cj.1 d;simp only[L.getElem_replicate] at a b;subst a b;exact⟨Y,ra.nil _⟩
theorem Mp{c:L Fa}{a:Fa}(e:cC m 195 2 ra W (.slice (S (H n1 0)) n2 n4) c L1)(u:c.length=n2)(k:c[n3]? =S ([],[]))(r:Sl 200 2 np W x a.1)(hw:Sl 200 2 np W v1 a.2):
  ∃b,cC m 195 2 ra ((W.setCell (H n1 (n3*2)) x).setCell (H n1 (n3*2+1)) v1) (.slice (S (H n1 0)) n2 n4) (c.set n3 a) b:=by
 subst u;obtain⟨w,v,y,h,o,z,⟨s,f,rfl,-,-⟩,-,-,-,d⟩:=e.at k;simp only[cM,fZ,Addr.mk.injEq,gT] at h;obtain⟨rfl,-⟩:=h;have g:bT n1 W (W.setCell (H n1 (n3*2)) x):=rF.aK _ _;have b:∀{i:ε}{l:ζ}{n:L It},fE 195 i n1->Sl 200 2 np i l n->∀{h},bT n1 i h->Sl 200 2 np h l n:=@λv w y n u h l=>u.aJ np.aJ l (λh q t p i=>by
  subst i;exact p.ne n (t.elim (λh=>by rw[h];decide) (λh=>h.elim)) Y)
 have p:fE 195 (W.setCell (H n1 (n3*2)) x) n1:=by
  obtain⟨i,l,h⟩:=d;exact⟨_,_,aD h _ _⟩
 have n:bT n1 (W.setCell (H n1 (n3*2)) x) ((W.setCell (H n1 (n3*2)) x).setCell (H n1 (n3*2+1)) v1):=rF.aK _ _;have t:Sl 200 2 np W f []:=by
  obtain⟨h,u,i,-,l⟩:=(e.each n3 _ _ o k).2;simp only[iY,gT] at i;obtain⟨rfl,rfl⟩:=i;exact l
 have i:=e.set ra.aJ J o (i:=0) J (u:=x) (x:=(a.1,[])) ⟨x,f,Y,b d r g,b d t g⟩;have h:=(cj.1 k).1;have e:(L1.set n3 ([s,f].set 0 x))[n3]? =S [x,f]:=by rw[jU (oB e.len)];rfl
 rw[show c.length=(c.set n3 (a.1,[])).length by simp] at i;have l:=i.set ra.aJ J e (i:=1) J (u:=v1) (x:=a) ⟨x,v1,Y,b p (b d r g) n,b p (b d hw g) n⟩;rw[L.set_set,dN] at l;exact⟨_,l⟩
theorem Rm{b:L Tx}(a:jG [] (dH 0 b)=([],(m:T),i1))(d:i1≠0):(dH 0 b).2.2≠0/\(dH 0 b).2=((m:T),i1):=by
 unfold jG at a;split at a
 .rename_i c
  simp only[gW,ll] at a;exact⟨c,a⟩
 simp only[gW] at a;exact absurd a.2.2.symm d
theorem Vj{c:L Tx}{d:L Fa}(a:jG [] (dH 0 c)=(d,0,0)):(dH 0 c).2.2=0/\(dH 0 c).1=d:=by
 unfold jG at a;split at a
 .rename_i b
  simp only[gW] at a;rw[a.2] at b;exact absurd Y b
 rename_i b;simp only[gW,eW,gT] at a;exact⟨sU b,a⟩
def SHR(a:Hs×T×T)(e:ε)(d:Ending)(b:ε):Prop:=∃c,d=.returned (.tuple #[c,I a.2.1,I a.2.2])/\eJ b c a.1/\Fr j e b
theorem Hw(o:L Tx)(c2:ζ)(h4:ε)(e:RT h4 c2 o)(B5:o.length<=100000)(B9:∀t∈o,t.o.length<=400):aQ 42 #[c2] h4 (SHR (gR o) h4):=by
 have u7:=@run_makeMap prog;obtain⟨R,n1,n6,u1,rfl,G5,G6,U⟩:=e;obtain⟨a0,u1⟩:=M (gR o);rw[<-u1];have x8:=Z u1;obtain⟨g,u7⟩:=M o.length;rw[<-u7] at G5 B5 |-;have⟨HN,x0,x7⟩:=dt u7 U B9;unfold maxLen at G6;clear u7 u1 U B9
 delta aQ;go_in
 go_upto_region 2 with fail;refine cT (λA v1=> ?_);obtain⟨j3,u8⟩:=M h4.heap.size;rw[<-u8];have j5:=fa1 v1;have w:N (∀p,Fr j A p->aY p j3 #[aV] 54):=Z λp d=>d.hs (by rw[v1];exact bM u8);have y6:N (h4.heap.size<=j3):=Z O;have g7:N (∀(f:E)(k:T)(p:ε),Fr j A p->a0=([],(f:T),k)->SHR a0 h4 (.returned (.tuple #[.agg #[aV],I f,I k])) (p.setCell (H j3 0) aV)):=Z λf k p d b=>by
  rw[b];exact⟨_,Y,⟨_,Y,dJ⟩,(j5.1.step d).keep (show bT j3 p _ from rF.aK _ _) (λf b=>b▸y6.1)⟩
 clear v1 u8;by_cases A6:32<g
 .have h7:N (a0=([],((0:E):T),4)):=Z (by rw[x8.1];unfold gR;rw[aS fU];rfl)
  have D1:(32:T)<(g:T):=O;clear A6;go_wp2_with fail;refine sg (jK _ _ _) ?_;rintro c H2 ⟨rfl,d⟩;have K:=bx (w.1 _ d);have b5:=aG (w.1 _ d) 0;have g8:=Z d;clear d;go_wp2;exact aO (cG Y Y Y Y (sU (aD (w.1 _ g8.1) 0 aV))) Y (g7.1 0 4 _ g8.1 h7.1)
 have D1:¬(32:T)<(g:T):=O;have u1:g<=32:=O;have c3:N (a0=match oO 0 o with
  |some f=>([],(f:T),1)
  |none=>if(jb 0 0 o []).2.2≠0 then([],(jb 0 0 o []).2) else
   if(dH 0 o).2.2≠0 then([],(dH 0 o).2) else jG [] (jP (jb 0 0 o []).1 (ki (dH 0 o).1) 0 o (dH 0 o).1)):=Z (by
  rw[x8.1];unfold gR;rw[aR fU];cases oO 0 o with
  |some f=>rfl
  |none=>
   simp only;split
   .rfl
   split
   .rfl
   unfold jG;split<;>simp)
 clear A6;have p0:N (∀(a:E)(p:ε),a<g->Fr j h4 p->R=S (H n1 n6)/\∃t h3,o[a]? =S t/\RE p h3 t.o/\p.cell? (H n1 (n6+a*4))=S (I t.s)/\p.cell? (H n1 (n6+a*4+1))=S (.bool t.d)/\p.cell? (H n1 (n6+a*4+2))=S (I t.f)/\p.cell? (H n1 (n6+a*4+3))=S h3):=Z λa p V d=>by
  obtain⟨t,F⟩:=gE o a fU;obtain⟨h3,P,m,e2,p5,n1⟩:=(x0.1.j d).2 a t F;exact⟨x0.1.addr F,t,h3,F,n1,P,m,e2,p5⟩
 go_upto_block 0 with fail;go_cut [45] (λs45 x=>oO 0 o=η/\Fr j A x)
 .go_wp2_with fail
  go_loopg [45] g (λgk s45 wr=>∃a:E,a+gk=g/\s45=I a/\oO a (o.drop a)=oO 0 o/\Fr j A wr)
  .exact⟨0,du,Y,Y,rF⟩
  case round=>
   obtain⟨a,V,rfl,d5,h⟩:=hrel;have⟨HK,HM,y⟩:=dt V d5 h;have p9:a<=g:=O;clear V d5 h;by_cases e3:a<g
   .obtain⟨rfl,t,h3,F,b3,K,b9,d1,d2⟩:=p0.1 a wr e3 (j5.1.step y.1)
    have⟨HT,h0⟩:=bD F b3;have⟨p7,p8⟩:=dy a g;obtain⟨n0,n2,rfl,-⟩:=b3.slice;clear F b3;go_wp2_with fail;refine sg (Vk t _ _ (h0.1.fr cZ)) ?_;rintro c H2 ⟨rfl,d⟩;have g8:=Z ((y.1.alloc _).step d);clear d K b9 d1 d2;cases p6:txB t with
    |true=>
     have NX:N (oO (a+1) (o.drop (a+1))=oO 0 o):=Z (by rw[<-HM.1,Af HT.1,aS p6]);clear p6;go_wp2;go_roundg (gk-1)
     .exact⟨a+1,oB HK.1,by go_num,NX.1,g8.1⟩
     have:=HK.1;omega
    |false=>
     have b6:N (a0=([],(a:T),1)):=Z (by rw[c3.1,<-HM.1,Af HT.1,p6];rfl);clear p6;go_wp2_with fail;refine sg (jK _ _ _) ?_;rintro c v7 ⟨rfl,d⟩;have n1:=Z (g8.1.step d);have K:=bx (w.1 _ n1.1);have b5:=aG (w.1 _ n1.1) 0;clear d;go_wp2;exact aO (cG Y Y Y Y (sU (aD (w.1 _ n1.1) 0 aV))) Y (g7.1 a 1 _ n1.1 b6.1)
   obtain rfl:a=g:=O;have c7:N (oO 0 o=η):=Z (by rw[<-HM.1,dY fU];rfl);go_wp2;go_meet;exact⟨c7.1,y.1⟩
 case' rest=>
  obtain⟨n1,h⟩:=hcut;have r1:=Z h;rw[n1] at c3;have v9:=Z (DP n1);clear n1 h;simp only at c3;go_upto_block 2 with fail;refine cT (λv7 n1=> ?_);obtain⟨a7,k5⟩:=M wc.heap.size;rw[<-k5];have w1:N (Fr j A v7):=Z (by rw[n1];exact r1.1.alloc _);have y2:N (MB v7 a7 []):=Z (by rw[n1];exact MB.made k5);have y7:N (A.heap.size<=a7):=Z (oB r1.1.size);clear n1 k5;obtain⟨u,n1⟩:=M (jb 0 0 o []);rw[<-n1] at c3;have x6:=Z n1;clear n1;go_cut [9,63] (λs9 s63 x=>∃z:T,s9=I z/\u.2.2=0/\MB x a7 u.1/\u.1.length<=400*g/\Fr j A x)
  .go_wp2_with fail
   go_loopg [9,63] g (λgk s9 s63 wr=>∃(a:E)(z:T)(a9:By),a+gk=g/\s63=I a/\s9=I z/\0<=z/\z<=a/\jb a z (o.drop a) a9=u/\MB wr a7 a9/\a9.length<=400*a/\Fr j A wr)
   .exact⟨0,0,[],du,Y,Y,pG _,pG _,x6.1.symm,y2.1,nG,w1.1⟩
   case round=>
    obtain⟨a,z,a9,V,rfl,rfl,H3,B7,d5,b1,f9,h⟩:=hrel;have⟨HK,HM,i4,h9,y⟩:=va V d5 b1 f9 h;have p9:a<=g:=O;clear V d5 h b1 f9;by_cases e3:a<g
    .obtain⟨rfl,t,h3,F,b3,K,b9,d1,d2⟩:=p0.1 a wr e3 (j5.1.step y.1)
     (have⟨HT,h0,OB,d8⟩:=gB F b3 (v9.1 t (bQ F)) (x7.1 t (bQ F));have⟨p7,p8⟩:=dy a g;obtain⟨n0,n2,rfl,-⟩:=b3.slice;have f2:=Z (Ht HT.1 z a9);have t0:N (∀f:It,(jX f t.o a9).1.length<=400*(a+1)):=Z λf=>by have:=ym f t.o a9;have:=h9.1;have:=d8.1;omega);obtain⟨X,n7,g3,c1⟩:=t;simp only at h0 OB d8 f2 t0 K b9 d1 d2;clear F b3;cases n7
     .simp only[eX,iG,kv] at f2
      go_wp2_with fail;refine aZ.nm (λg4 c0=> ?_);have a1:=lq c0;have r4:=Z (y.1.step a1);have r7:N (a9.length+c1.length<1000000):=Z (gX h9.1 d8.1);refine sg (El ⟨X,_,g3,c1⟩ _ ((a:T), -1) a7 a9 g4 (h0.1.fr a1) OB.1 (i4.1.keep a1) r7.1) ?_;rintro c n9 ⟨rfl,j2,d3⟩;have⟨g9,m0⟩:=bD (r4.1.keep d3 (λf b=>b▸y7.1)) (t0.1 ((a:T), -1));obtain⟨c8,n3⟩:=M (jX ((a:T), -1) c1 a9);rw[<-n3] at f2 j2 m0 |-;have f1:=Z j2;clear n3 j2 d3 a1 c0 K b9 d1 d2;by_cases B:c8.2=0
      .have NX:=Z (by have:=f2.1;rw[HM.1,aS B] at this;exact this)
       rw[B];clear B;go_wp2;go_roundg (gk-1)
       .exact⟨a+1,z,c8.1,oB HK.1,by go_num,Y,O,O,NX.1.symm,f1.1,m0.1,g9.1⟩
       have:=HK.1;omega
      have A7:(c8.2 !=0)=γ:=sU B;have b6:N (a0=([],(a:T),c8.2)):=Z (by
       have:=f2.1;rw[HM.1,aR B] at this;rw[c3.1,aS (by rw[this];exact B),this])
      clear B;go_wp2_with fail;refine sg (jK _ _ _) ?_;rintro c g5 ⟨rfl,d⟩;have f0:=Z (g9.1.step d);have K:=bx (w.1 _ f0.1);have b5:=aG (w.1 _ f0.1) 0;clear d;go_wp2;exact aO (cG Y Y Y Y (sU (aD (w.1 _ f0.1) 0 aV))) Y (g7.1 a c8.2 _ f0.1 b6.1)
     simp only[eX,iG,kv] at f2;go_wp2_with fail;refine aZ.nm (λg4 c0=> ?_);have a1:=lq c0;have r4:=Z (y.1.step a1);have r7:N (a9.length+c1.length<1000000):=Z (gX h9.1 d8.1);refine sg (El ⟨X,_,g3,c1⟩ _ ((a:T),z) a7 a9 g4 (h0.1.fr a1) OB.1 (i4.1.keep a1) r7.1) ?_;rintro c n9 ⟨rfl,j2,d3⟩;have⟨g9,m0⟩:=bD (r4.1.keep d3 (λf b=>b▸y7.1)) (t0.1 ((a:T),z));obtain⟨c8,n3⟩:=M (jX ((a:T),z) c1 a9);rw[<-n3] at f2 j2 m0 |-;have f1:=Z j2;clear n3 j2 d3 a1 c0 K b9 d1 d2;by_cases B:c8.2=0
     .have NX:=Z (by have:=f2.1;rw[HM.1,aS B] at this;exact this)
      rw[B];clear B;go_wp2;go_roundg (gk-1)
      .exact⟨a+1,z+1,c8.1,oB HK.1,by go_num,Y,O,O,NX.1.symm,f1.1,m0.1,g9.1⟩
      have:=HK.1;omega
     have A7:(c8.2 !=0)=γ:=sU B;have b6:N (a0=([],(a:T),c8.2)):=Z (by
      have:=f2.1;rw[HM.1,aR B] at this;rw[c3.1,aS (by rw[this];exact B),this])
     clear B;go_wp2_with fail;refine sg (jK _ _ _) ?_;rintro c g5 ⟨rfl,d⟩;have f0:=Z (g9.1.step d);have K:=bx (w.1 _ f0.1);have b5:=aG (w.1 _ f0.1) 0;clear d;go_wp2;exact aO (cG Y Y Y Y (sU (aD (w.1 _ f0.1) 0 aV))) Y (g7.1 a c8.2 _ f0.1 b6.1)
    obtain rfl:a=g:=O;have c7:N (u=(a9,0,0)):=Z (by rw[<-HM.1,dY fU];rfl);go_wp2;go_meet;exact⟨z,Y,by rw[c7.1],by rw[c7.1];exact i4.1,by rw[c7.1];exact h9.1,y.1⟩
  case' rest=>
   obtain⟨z,rfl,k8,b1,f9,h⟩:=hcut;have⟨o1,y3,a9⟩:=dt h b1 f9;obtain⟨h8,a9⟩:=M (jG [] (dH 0 o));have x1:=Z a9;have z3:N (∀(a:E)(b:T),h8=([],(a:T),b)->b≠0->a0=([],(a:T),b)):=Z λa b e c5=>by
    obtain⟨P,m⟩:=Rm (a9▸e) c5;rw[c3.1,aR (by simp[k8]),aS P,m]
   have z4:N (∀r,h8=(r,0,0)->a0=jG [] (jP u.1 (ki r) 0 o r)):=Z λr e=>by
    obtain⟨P,m⟩:=Vj (a9▸e);rw[c3.1,aR (by simp[k8]),aR (by simp[P]),m]
   obtain⟨f2,n,q0,c8,f0⟩:=lV QI;have B7:∀k0:ε,(Instr.makeSlice 192 (I g) (I g)).run prog k0=.ok (.slice (S (H k0.heap.size 0)) g g) (k0.alloc (.cells (madeCells #[aV,aV] (g*2)) 195)):=λk0=>by
    have:=run_make (P:=prog) (w:=k0) 192 195 f2 (.agg #[aV,aV]) underlying192 n q0 .i64 .i64 g g O O (by rw[f0];omega) O;rw[c8] at this;simpa[ζ.cells] using this
   clear n q0 c8 f0 c3 k8 b1 f9 h a9;go_upto_block 4 with fail;refine cT (λg4 c0=> ?_);obtain⟨D,a9⟩:=M wc.heap.size;rw[<-a9];have y9:N (cC A.heap.size 195 2 ra g4 (.slice (S (H D 0)) g g) (L.replicate g ([],[])) (L.replicate g [aV,aV])):=Z (by rw[c0,a9];exact Gp (by have:=o1.1.size;exact this) B5);have w2:N (Fr j A g4):=Z (by rw[c0];exact o1.1.alloc _);have y4:N (MB g4 a7 u.1):=Z (by rw[c0];exact y3.1.keep cZ);have E1:N (A.heap.size<=D):=Z (oB o1.1.size);clear c0 a9 B7;go_cut [95] (λs95 x=>∃r:L Fa,h8=(r,0,0)/\r.length=g/\(∀d∈r,inF 400 d)/\MB x a7 u.1/\(∃b8,cC A.heap.size 195 2 ra x (.slice (S (H D 0)) g g) r b8)/\Fr j A x)
   .go_wp2_with fail
    go_loopg [95] g (λgk s95 wr=>∃(a:E)(l:L Fa)(b8:L (L ζ)),a+gk=g/\s95=I a/\l.length=a/\jG l (dH a (o.drop a))=h8/\(∀d∈l,inF 400 d)/\MB wr a7 u.1/\cC A.heap.size 195 2 ra wr (.slice (S (H D 0)) g g) (l++L.replicate gk ([],[])) b8/\Fr j A wr)
    .exact⟨0,[],_,du,Y,Y,x1.1.symm,sI,y4.1,y9.1,w2.1⟩
    case round=>
     obtain⟨a,l,b8,V,rfl,A9,d5,n4,b1,b2,h⟩:=hrel;have⟨HK,HM,i0,j8,i4,i5,y⟩:=acv V d5 A9 n4 b1 b2 h;have p9:a<=g:=O;clear V d5 h b1 b2 n4 A9;by_cases e3:a<g
     .obtain⟨rfl,t,h3,F,b3,K,b9,d1,d2⟩:=p0.1 a wr e3 (j5.1.step y.1)
      have⟨HT,h0,OB,d8,e7⟩:=va F b3 (v9.1 t (bQ F)) (x7.1 t (bQ F)) (dG F);have⟨p7,p8⟩:=dy a g;obtain⟨k4,u5⟩:∃z,gk=z+1:=⟨gk-1,oB HK.1⟩;have i1:=Z u5;have q5:N (cC A.heap.size 195 2 ra wr (.slice (S (H D 0)) g g) (l++L.replicate (k4+1) ([],[])) b8):=Z (by rw[<-u5];exact i5.1);obtain⟨n0,n2,rfl,-⟩:=b3.slice;obtain⟨X,n7,g3,c1⟩:=t;simp only at h0 OB d8 e7 K b9 d1 d2;clear F b3 u5;cases n7
      .have NX:N (jG (l++[([],[])]) (dH (a+1) (o.drop (a+1)))=h8):=Z (by
        have:=HM.1;rw[e7.1,xd (f:=([],[])) (.inl ⟨Y,Y⟩)] at this;exact this)
       go_wp2;go_roundg (gk-1)
       .have d9:Fr j wr _:=(Fr.refl j wr).alloc (.cells #[I X,.bool δ,I g3,.slice n0 c1.length n2] 130)
        refine⟨a+1,l++[([],[])],b8,gX HK.1 i1.1,by go_num,by simp[i0.1],NX.1,λd h=> ?_,i4.1.keep d9,?_,y.1.step d9⟩
        .rcases cB.1 h with e|e
         .exact j8.1 d e
         simp only[cX] at e;subst e;exact VM _
        have:=q5.1.f d9;rw[sF] at this;rw[show gk-1=k4 by have:=i1.1;omega,dm];exact this
       have:=i1.1;omega
      go_wp2_with fail;refine aZ.nm (λg4 c0=> ?_);have a1:=cY c0;refine sg (Tm ⟨X,γ,g3,c1⟩ _ g4 (h0.1.fr a1) d8.1) ?_;have w5:=Z (YW (t:=⟨X,γ,g3,c1⟩) OB.1 d8.1);obtain⟨h1,u4⟩:=M (ru ⟨X,γ,g3,c1⟩);rw[<-u4] at w5 |-;have FC:=Z u4;rintro c n9 ⟨H0,H1,rfl,g2,e4,d3⟩;obtain⟨a4,g0⟩:=M (h1.1.1.length);obtain⟨v,d6⟩:=M (h1.1.2.length);obtain⟨f3,f6,rfl,-⟩:=g2.slice;obtain⟨f5,f8,rfl,-⟩:=e4.slice;rw[<-g0] at g2;rw[<-d6] at e4;rw[<-g0,<-d6];clear g0 d6 K b9 d1 d2 u4;go_upto_region 29 with fail;(refine cT (λg5 j0=> ?_);obtain⟨c8,a9⟩:=M n9.heap.size;rw[<-a9];have d4:=cY j0;have z2:=dL j0 a9;have⟨g9,z0,f1,SR,SW⟩:=va (((y.1.step a1).step d3).step d4) (q5.1.f ((a1.step d3).step d4)) (i4.1.keep ((a1.step d3).step d4)) (g2.f d4) (e4.f d4);have f0:N (∀k d,g5.heap[D]? =S (.cells k 195 d)->D<n9.heap.size->c8≠D):=Z λk d _ e b=>by omega);have c8:N (D<n9.heap.size):=Z (by
       have:=(aW (q5.1.f (a1.step d3)).row Y).2;obtain⟨k,d,e⟩:=this;exact ba e)
      clear c0 a1 d3 d4 j0 a9 g2 e4;by_cases B:h1.2.2=0
      .have NX:N (jG (l++[h1.1]) (dH (a+1) (o.drop (a+1)))=h8):=Z (by
        have:=HM.1;rw[e7.1,xd (f:=h1.1) (.inr ⟨Y,by rw[<-FC.1];exact B,by rw[<-FC.1]⟩)] at this;exact this)
       rw[B];have z8:N ((l++L.replicate (k4+1) (([],[]):Fa))[a]? =S ([],[])):=Z (by rw[iV (by rw[i0.1];exact eG),i0.1,E.sub_self];rfl);have F5:N ((l++L.replicate (k4+1) (([],[]):Fa)).length=g):=Z (by simp[i0.1];have:=HK.1;have:=i1.1;omega);obtain⟨c0,a1,a9,p4,G1,G3,⟨b5,l3,u3,-,-⟩,u2,B1,-,A8⟩:=z0.1.at z8.1;simp only[cM,fZ,Addr.mk.injEq,gT] at p4;obtain⟨rfl,-⟩:=p4;have D5:=Z A8;have h6:=u2 0 b5 (by rw[u3];rfl);have l2:=u2 1 l3 (by rw[u3];rfl);have D0:=B1;rw[fI] at h6;have a1:=bx z2.1;have a1:=dh z2.1;clear B u2 G1 G3 u3 B1 A8;go_wp2;go_roundg (gk-1)
       .obtain⟨a9,a1⟩:=Mp z0.1 F5.1 z8.1 SR.1 SW.1
        rw[Ri l k4 _ _ i0.1] at a1;have b0:bT D g5 ((g5.setCell (H D (a*2)) (.slice f3 a4 f6)).setCell (H D (a*2+1)) (.slice f5 v f8)):=(rF.aK _ _).aK _ _;refine⟨a+1,l++[h1.1],a9,gX HK.1 i1.1,by go_num,by simp[i0.1],NX.1,λd h=> ?_,f1.1.fr b0 (λb=> ?_),by rw[show gk-1=k4 by have:=i1.1;omega];exact a1,g9.1.keep b0 (λf b=>b▸E1.1)⟩
        .rcases cB.1 h with e|e
         .exact j8.1 d e
         simp only[cX] at e;subst e;exact w5.1
        obtain⟨k,d,P⟩:=D5.1;obtain⟨c,g6,m⟩:=f1.1.obj;rw[b,P] at m;cases m
       have:=i1.1;omega
      have b6:=Z (z3.1 a h1.2.2 (by
       have:=HM.1;rw[e7.1,xu Y (by rw[<-FC.1];exact B),<-FC.1] at this;exact this.symm) B)
      have A7:(h1.2.2 !=0)=γ:=sU B;clear B;go_wp2_with fail;refine sg (jK _ _ _) ?_;rintro c v8 ⟨rfl,d⟩;have B:=Z (g9.1.step d);have K:=bx (w.1 _ B.1);have b5:=aG (w.1 _ B.1) 0;clear d;go_wp2;exact aO (cG Y Y Y Y (sU (aD (w.1 _ B.1) 0 aV))) Y (g7.1 a _ _ B.1 b6.1)
     obtain rfl:a=g:=O;have G4:gk=0:=oB HK.1;subst G4;have c7:N (h8=(l,0,0)):=Z (by rw[<-HM.1,dY fU];simp[dH,jG]);go_wp2;go_meet;exact⟨l,c7.1,i0.1,j8.1,i4.1,⟨b8,sU i5.1⟩,y.1⟩
   case' rest=>
    obtain⟨r,a9,a1,n4,b1,⟨b8,b2⟩,h⟩:=hcut;have⟨B,f1,j8,w6,c3,c0⟩:=qK h b1 n4 a1 (z4.1 r a9) b2.read;clear h b1 b2 n4 a1 a9 z4 z3 x1 y9 y4 w2 y3 o1 y2 w1 r1 x6;go_upto_block 6 with fail;refine cT (λg5 j0=> ?_);obtain⟨a8,k7⟩:=M wc.heap.size;rw[<-k7];have d4:=cY j0;have⟨w3,y5,t5⟩:=dt (B.1.step d4) (f1.1.keep d4) (c0.1.f d4);have p1:N (MZ g5 a8 []):=Z (by rw[j0];exact MZ.made k7);have y8:N (A.heap.size<=a8/\a7≠a8):=Z (by
     obtain⟨c,g6,e⟩:=f1.1.obj
     have:=ba e
     have:=B.1.size;omega)
    clear j0 k7 d4;have w4:N (∀(a:E)(p:ε),a<g->Sl 195 2 ra p (.slice (S (H D 0)) g g) r->∃d f3 a4 f6 f5 v f8,r[a]? =S d/\a4=d.1.length/\v=d.2.length/\p.cell? (H D (a*2))=S (.slice f3 a4 f6)/\p.cell? (H D (a*2+1))=S (.slice f5 v f8)/\Sl 200 2 np p (.slice f3 a4 f6) d.1/\Sl 200 2 np p (.slice f5 v f8) d.2):=Z λa p V e=>by
     obtain⟨d,h⟩:=gE r a (by rw[w6.1];exact V);obtain⟨q6,q7,q9,q8,b,-,-,U⟩:=e;have i7:=U.addr h;subst i7;simp only[cM,fZ,Addr.mk.injEq,gT] at b;obtain⟨⟨rfl,rfl⟩,-,-⟩:=b;obtain⟨H0,H1,P,m,e2,p5⟩:=U.fac h;obtain⟨f3,f6,rfl,-⟩:=e2.slice;obtain⟨f5,f8,rfl,-⟩:=p5.slice;rw[de] at P m;exact⟨d,f3,_,f6,f5,_,f8,h,Y,Y,P,m,e2,p5⟩
    go_cut [126] (λs126 x=>MZ x a8 (ki r)/\bT a8 g5 x)
    .go_wp2_with fail
     go_loopg [126] g (λgk s126 wr=>∃a:E,a+gk=g/\s126=I a/\MZ wr a8 (ki (r.take a))/\(ki (r.take a)).length<=400*a/\bT a8 g5 wr)
     .exact⟨0,du,Y,p1.1,nG,rF⟩
     case round=>
      obtain⟨a,V,rfl,W,C4,h⟩:=hrel;have⟨HK,A4,A3,y⟩:=gB V W C4 h;have p9:a<=g:=O;have SS:N (Sl 195 2 ra wr (.slice (S (H D 0)) g g) r):=Z (t5.1.aJ ra.aJ y.1 (λt q _ a3 b=>by
       subst b;obtain⟨c,g6,P⟩:=p1.1.obj;obtain⟨k,d,m⟩:=a3;rw[P] at m;cases m))
      clear V W h C4;by_cases e3:a<g
      .obtain⟨d,f3,a4,f6,f5,v,f8,i8,g0,d6,K,b9,g2,e4⟩:=w4.1 a wr e3 SS.1
       (have⟨p7,p8⟩:=dy a g;have⟨y0,j7,i2,SW⟩:=gB (IZ i8) (j8.1 d (bQ i8)) d6 e4;have G7:v<=400:=by rw[d6];exact j7.1.2.2.2);clear i8 g0 d6 g2 e4;obtain⟨u0,rfl⟩:=M gk;go_upto_block 8 with fail;refine cT (λv8 l0=> ?_);have e0:=cY l0;have⟨m7,r2,F1⟩:=dt (A4.1.keep e0) (y.1.trans e0 (λ_ _ c=>c) (λ_ _ c=>c.elim)) (SW.1.f e0);clear l0 e0 K b9;go_wp2_with fail;go_loopg [133] v (λgk s133 wr=>∃i:E,i+gk=v/\s133=I i/\MZ wr a8 (ki (r.take a)++d.2.take i)/\bT a8 v8 wr)
       .exact⟨0,du,Y,sU m7.1,rF⟩
       case round=>
        obtain⟨i,h2,rfl,W,h⟩:=hrel;have⟨HJ,A2,b7⟩:=dt h2 W h;have B3:i<=v:=O;clear h2 W h;by_cases B4:i<v
        .obtain⟨c,G⟩:=gE d.2 i (oB i2.1)
         have m3:=F1.1.aJ np.aJ b7.1 (λt q _ a3 b=>by
          subst b;obtain⟨c,g6,P⟩:=m7.1.obj;obtain⟨k,d,m⟩:=a3;rw[P] at m;cases m)
         obtain⟨q6,q7,q9,q8,b,-,-,U⟩:=m3;have i7:=U.addr G;subst i7;simp only[cM] at b;obtain⟨rfl,-,rfl⟩:=b;obtain⟨p4,i6⟩:=U.itm G;have⟨B,TK⟩:=bD (j7.1.2.1 c (bQ G)) (bJ G);have⟨C5,C6⟩:=dy i v;clear G U;go_wp2_with (at_mapUpdate;refine stop ?_);refine aZ.go (AM (λc6 l1=> ?_));have a2:=cY l1;have a1:N ((ki (r.take a)++d.2.take i).length<maxLen):=Z (by rw[cA,cV];have:=A3.1;unfold maxLen;omega);have⟨a9,r3⟩:=bD (A2.1.keep a2) (b7.1.trans a2 (λ_ _ c=>c) (λ_ _ c=>c.elim));clear l1 a2 p4 i6;refine DK Y (.tmp 137) (.tmp 138) (.const (.bool γ)) Y Y a9.1 (i:=c) Y Y B.1 a1.1 ?_;intro j4 B c4;rw[dm,<-TK.1] at B;have⟨t9,d7⟩:=bD B (r3.1.tr c4);clear B c4;go_wp2;go_roundg (gk-1)
         .exact⟨i+1,oB HJ.1,by go_num,t9.1,d7.1⟩
         have:=HJ.1;omega
        obtain rfl:i=v:=O;go_wp2;go_roundg (u0-1)
        .have W:=A2.1
         rw[show d.2.take i=d.2 from dq (by rw[<-i2.1];exact eG),<-y0.1] at W;exact⟨a+1,oB HK.1,by go_num,W,by rw[y0.1,cA];have:=A3.1;have:=i2.1;omega,r2.1.tr b7.1⟩
        have:=HK.1;omega
      obtain rfl:a=g:=O;have W:N (MZ wr a8 (ki r)):=Z (by have:=A4.1;rwa[dq (by rw[w6.1];exact eG)] at this);go_wp2;go_meet;exact⟨W.1,y.1⟩
    case' rest=>
     obtain⟨W,h⟩:=hcut;have⟨m9,l9,e9⟩:=dt W (y5.1.fr h y8.1.2) (w3.1.keep h (λf b=>b▸y8.1.1));have SW:N (Sl 195 2 ra wc (.slice (S (H D 0)) g g) r):=Z (t5.1.aJ ra.aJ h (λt q _ a3 b=>by
      subst b;obtain⟨c,g6,P⟩:=p1.1.obj;obtain⟨k,d,m⟩:=a3;rw[P] at m;cases m))
     clear W h y5 w3 t5 p1;go_upto_block 10 with fail;refine cT (λv8 l0=> ?_);obtain⟨q,a3⟩:=M wc.heap.size;rw[<-a3];have e0:=cY l0;have E4:=dL l0 a3;have⟨r2,E0,m7,E5⟩:=gB (e9.1.step e0) (l9.1.keep e0) (m9.1.keep e0) (SW.1.f e0);have t1:N (A.heap.size<=q/\a7≠q/\a8≠q):=Z (by
      obtain⟨c,g6,e⟩:=l9.1.obj
      have:=ba e;obtain⟨c,g6,e⟩:=m9.1.obj
      have:=ba e
      have:=e9.1.size;omega)
     clear l0 a3 e0 l9 m9 SW e9;obtain⟨LS,B⟩:=M (ki r);rw[<-B] at m7 c3;clear B;go_cut [143] (λs143 x=>∃(Q:Hs)(c2:ζ),a0=(Q,0,0)/\aY x q #[c2] 54/\Sl 77 3 CT x c2 Q/\Fr j A x)
     .go_wp2_with fail
      go_loopg [143] g (λgk s143 wr=>∃(a:E)(Q:Hs)(c2:ζ)(b8:L (L ζ)),a+gk=g/\s143=I a/\jG Q (jP u.1 LS a (o.drop a) (r.drop a))=a0/\Q.length<=a/\aY wr q #[c2] 54/\cC A.heap.size 77 3 CT wr c2 Q b8/\MB wr a7 u.1/\MZ wr a8 LS/\Sl 195 2 ra wr (.slice (S (H D 0)) g g) r/\Fr j A wr)
      .exact⟨0,[],_,[],du,Y,c3.1.symm,eG,E4.1,qG,E0.1,m7.1,E5.1,r2.1⟩
      case round=>
       obtain⟨a,Q,c2,b8,V,rfl,d5,B2,a3,b2,b1,B8,k9,h⟩:=hrel;have⟨HK,HM,x3,o7,i5,l8,m8,t4⟩:=SD V d5 B2 a3 b2 b1 B8 k9;have y:=Z h;have p9:a<=g:=O;clear V d5 B2 a3 b2 b1 B8 k9 h;by_cases e3:a<g
       .obtain⟨rfl,t,h3,F,b3,K,b9,d1,d2⟩:=p0.1 a wr e3 (j5.1.step y.1)
        (obtain⟨d,f3,a4,f6,f5,v,f8,i8,g0,d6,h6,l2,g2,e4⟩:=w4.1 a wr e3 t4.1;have⟨e7,r0,j7,HNR,i2⟩:=va (dG F) (dG i8) (j8.1 d (bQ i8)) g0 d6;have G7:v<=400:=by rw[d6];exact j7.1.2.2.2);(have B:a4<=400:=by rw[g0];exact j7.1.2.2.1);have⟨E9,F3⟩:=bD g2 e4;have⟨p7,p8⟩:=dy a g;obtain⟨n0,n2,rfl,-⟩:=b3.slice;obtain⟨X,n7,g3,c1⟩:=t;simp only at K b9 d1 d2 e7;clear F b3 i8 g0 d6 g2 e4;cases n7
        .have NX:N (jG Q (jP u.1 LS (a+1) (o.drop (a+1)) (r.drop (a+1)))=a0):=Z (by
          have:=HM.1;rw[e7.1,r0.1,MU Y] at this;exact this)
         go_wp2;go_roundg (gk-1)
         .have d9:Fr j wr _:=(Fr.refl j wr).alloc (.cells #[I X,.bool δ,I g3,.slice n0 c1.length n2] 130)
          exact⟨a+1,Q,c2,b8,oB HK.1,by go_num,NX.1,oB x3.1,d9.hs o7.1,i5.1.f d9,l8.1.keep d9,m8.1.keep d9,t4.1.f d9,y.1.step d9⟩
         have:=HK.1;omega
        go_upto_region 49 with fail;refine cT (λc6 l1=> ?_);obtain⟨c,G⟩:=M (wr.heap.size+1);rw[<-G];have a2:=lq l1;have t7:=dL l1 sO;have NX:N (wr.heap.size<=c):=Z O;have⟨F2,E8,E6⟩:=dt (F3.1.f a2) (E9.1.f a2) (t4.1.f a2);have A0:N (∀p,bT c c6 p->p.cell? (H D (a*2))=S (.slice f3 a4 f6)/\p.cell? (H D (a*2+1))=S (.slice f5 v f8)):=Z λp d=>by
         have A5:D≠c:=by
          intro b;subst b
          have:=Ls h6
          have:=NX.1;omega
         exact⟨d.aF (a2.aF h6 id) A5,d.aF (a2.aF l2 id) A5⟩
        have o3:N (∀(s:TypeId)(p:ε)(f:E),s≠77->bT c c6 p->fE s c6 f->¬f=c):=Z λs p f C _ e b=>by
         subst b;exact e.ne ⟨_,_,t7.1⟩ C Y
        obtain⟨h6,l2⟩:=A0.1 c6 rF;have r8:N (c<c6.heap.size):=Z (ba t7.1);have w8:=Z (y.1.step a2);clear l1 G K b9 d1 d2;go_upto_block 12 with fail;clear h6 l2;go_cut [160] (λs160 x=>∃R k,aY x c #[I X,.slice R v k,aV] 77/\Sl 3 1 CI x (.slice R v k) (d.2.map Prod.fst)/\bT c c6 x)
        .obtain⟨u0,rfl⟩:=M gk
         go_wp2_with fail;go_loopg [160] v (λgk s160 wr=>∃(i:E)(R:ι Addr)(k:E)(y1:L (L ζ)),i+gk=v/\s160=I i/\aY wr c #[I X,.slice R i k,aV] 77/\cC c6.heap.size 3 1 CI wr (.slice R i k) ((d.2.take i).map Prod.fst) y1/\bT c c6 wr)
         .exact⟨0,_,_,[],du,Y,t7.1,qG,rF⟩
         case round=>
          obtain⟨i,R,k,y1,h2,rfl,G,b2,h⟩:=hrel;have⟨HJ,m6,m2,b7⟩:=gB h2 G b2 h;have B3:i<=v:=O;clear h2 G b2 h;by_cases B4:i<v
          .obtain⟨b,c5⟩:=gE d.2 i (oB i2.1)
           have m3:=F2.1.aJ np.aJ b7.1 (λs f C n=>o3.1 s _ f (C.elim (λe=>by rw[e];decide) (λe=>e.elim)) b7.1 n);obtain⟨q6,q7,q9,q8,i6,-,-,U⟩:=m3;have i7:=U.addr c5;subst i7;simp only[cM] at i6;obtain⟨rfl,-,rfl⟩:=i6;obtain⟨b5,l3⟩:=U.itm c5;have TK:N ((d.2.take (i+1)).map Prod.fst=(d.2.take i).map Prod.fst++[b.1]):=Z (by rw[bJ c5,nO];rfl);have d8:N (((d.2.take i).map Prod.fst).length=i):=Z (by rw[eo,cV];have:=i2.1;omega);have⟨C5,C6⟩:=dy i v;clear c5 U;go_upto_region 52 with fail;refine cT (λj4 i9=> ?_);obtain⟨g6,j1⟩:=M wr.heap.size;rw[<-j1];have c4:=cY i9;have k1:=dL i9 j1;have⟨m5,j9,d7⟩:=dt (c4.hs m6.1) (m2.1.fr da c4) (b7.1.trans c4 (λ_ _ c=>c) (λ_ _ c=>c.elim));clear i9 j1 c4 b5 l3;have q1:=bx k1.1;have q2:=dh m5.1;go_wp2_with (at_builtin;refine stop ?_);have B:Fr j j4 (j4.alloc (.cells #[I b.1] 3)):=cZ;refine aZ.go ?_;refine bH Y (.tmp 165) (.tmp 168) Y oG i d8.1 Y (j9.1.fr da B) da id b.1 Y Y (eF.one _ _ _ Y) (λ_ _=>Y) O mL (bX d7.1.size B.size) ?_;intro c9 d0 n8 g1 e1 _ _;have V:=Z (e1.1.aB (B.hs m5.1) (λb=>by have:=(aW j9.1.row b).1;have:=r8.1;omega));have a5:N (bT c c6 n8):=Z ((d7.1.trans B (λ_ _ c=>c) (λ_ _ c=>c.elim)).trans e1.1 (λ_ _ c=>c) (λf n b=>absurd (aW j9.1.row b).1 (lN n)));rw[<-TK.1] at g1;have a1:=Z g1;have q3:=dh V.1;have v6:=aG V.1 1;clear g1 e1 B q1 q2;go_wp2;go_roundg (gk-1)
           .have b0:bT c n8 (n8.setCell (H c 1) (.slice c9 (i+1) d0)):=rF.aK _ _
            exact⟨i+1,c9,d0,_,oB HJ.1,by go_num,sU (aD V.1 1 (.slice c9 (i+1) d0)),a1.1.aJ da b0 (λf n b=>by have:=(aW a1.1.row n).1;have:=r8.1;omega) (λ_ _ c=>c.elim),a5.1.tr b0⟩
           have:=HJ.1;omega
          obtain rfl:i=v:=O;have k6:=m2.1.read;rw[show d.2.take i=d.2 from dq (by rw[<-i2.1];exact eG)] at k6;have r5:=Z k6;clear k6;go_wp2;go_meet;exact⟨R,k,m6.1,r5.1,b7.1⟩
        case' rest=>
         obtain⟨p2,p3,G,B,h⟩:=hcut;obtain⟨e5,V⟩:=M wc;rw[<-V] at G B h |-;have⟨z6,D6,j6⟩:=dt G B h;obtain⟨h6,l2⟩:=A0.1 e5 h;have D8:N (c6.heap.size<=e5.heap.size):=Z h.size;clear V G B h;obtain⟨o9,B⟩:=M (ua [] (vn u.1 LS d.1));have r6:=Z B;clear B;have E2:N (∀(s:TypeId)(p:ε)(f:E),s≠77->fE s e5 f->¬f=c):=Z λs p f C e b=>by
          subst b;exact e.ne ⟨_,_,z6.1⟩ C Y
         go_upto_block 14 with fail;clear h6 l2;go_cut [178] (λs178 x=>∃R k l,o9=(l,0)/\aY x c #[I X,.slice p2 v p3,.slice R l.length k] 77/\Sl 203 2 CK x (.slice R l.length k) l/\bT c e5 x)
         .obtain⟨u0,rfl⟩:=M gk
          go_wp2_with fail;go_loopg [178] a4 (λgk s178 wr=>∃(i:E)(R:ι Addr)(k z:E)(l:L Tk)(r9:L (L ζ)),i+gk=a4/\s178=I i/\z=l.length/\z<=i/\aY wr c #[I X,.slice p2 v p3,.slice R z k] 77/\cC e5.heap.size 203 2 CK wr (.slice R z k) l r9/\ua l (vn u.1 LS (d.1.drop i))=o9/\bT c e5 wr)
          .exact⟨0,_,_,0,[],[],du,Y,Y,eG,z6.1,qG,r6.1.symm,rF⟩
          case round=>
           obtain⟨i,R,k,l4,l,r9,h2,rfl,B6,H4,G,b2,n5,h⟩:=hrel;have⟨HJ,i3,m6,m2,b7,RJ⟩:=qK h2 B6 G b2 h n5;have B3:i<=a4:=O;clear h2 G b2 h n5 B6;by_cases B4:i<a4
           .obtain⟨b,c5⟩:=gE d.1 i Sh
            have m3:=E8.1.aJ np.aJ (j6.1.tr b7.1) (λs f C n=>o3.1 s _ f (C.elim (λe=>by rw[e];decide) (λe=>e.elim)) (j6.1.tr b7.1) n);obtain⟨q6,q7,q9,q8,i6,-,-,U⟩:=m3;have i7:=U.addr c5;subst i7;simp only[cM] at i6;obtain⟨rfl,-,rfl⟩:=i6;obtain⟨b5,l3⟩:=U.itm c5;have⟨w0,x9⟩:=bD (dG c5) (j7.1.1 b (bQ c5));have⟨C5,C6⟩:=dy i a4;clear c5 U;go_upto_region 57 with fail;refine cT (λj4 i9=> ?_);obtain⟨g6,j1⟩:=M wr.heap.size;rw[<-j1];have c4:=cY i9;have k1:=dL i9 j1;have⟨m5,j9,d7⟩:=dt (c4.hs m6.1) (m2.1.f c4) (b7.1.trans c4 (λ_ _ c=>c) (λ_ _ c=>c.elim));have MX:N (a7≠c/\a8≠c):=Z (by
             obtain⟨_,_,e⟩:=l8.1.obj
             have:=ba e;obtain⟨_,_,e⟩:=m8.1.obj
             have:=ba e
             have:=NX.1;omega)
            have⟨D9,t9⟩:=bD (((l8.1.keep a2).fr j6.1 MX.1.1).fr d7.1 MX.1.1) (((m8.1.keep a2).fr j6.1 MX.1.2).fr d7.1 MX.1.2);have D3:N (Fr j A j4):=Z ((w8.1.keep j6.1 (λf b=>by subst b;have:=NX.1;have:=y.1.size;omega)).keep d7.1 (λf b=>by subst b;have:=NX.1;have:=y.1.size;omega));have t3:N (∀k:T,JY u.1 LS b=k->k≠0->a0=([],(a:T),k)):=Z λk e p=>by
             have P:=RJ.1;rw[w0.1,OO (by rw[e];exact p),e] at P;have m:=Bk (r6.1.symm.trans P.symm) p;have e2:=HM.1;rw[e7.1,r0.1,Uo Y m p] at e2;exact e2.symm
            clear i9 j1 c4 b5 l3;have q1:=bx k1.1;have q2:=dh k1.1;go_wp2_with (at_lookup;refine stop ?_);refine aZ.go ?_;refine sq Y (.tmp 183) (.tmp 184) Y Y D9.1 (i:=b) Y x9.1 ?_;obtain⟨G8,p⟩:=M (ml b u.1);rw[<-p];have l6:=Z p;clear p q1 q2;go_upto_block 16 with fail;refine cT (λn8 p=> ?_);obtain⟨o0,W⟩:=M j4.heap.size;rw[<-W];have k2:=cY p;have m4:=dL p W;have⟨t8,o2,B⟩:=dt (k2.hs k1.1) (D3.1.step k2) (t9.1.keep k2);have o4:N (j4.heap.size<=o0):=Z O;clear p W;go_cut [188] (λs188 x=>JY u.1 LS b=0/\(∃s,aY x o0 #[s,I (Qq u.1 b)] 190)/\bT o0 n8 x)
            .have q1:=bx t8.1
             have q2:=dh t8.1;by_cases p:b.2=0
             .have q0:(b.2==0)=γ:=sU p
              have h7:N (JY u.1 LS b=0/\Qq u.1 b= -1):=Z (by simp[JY,Qq,p]);have q3:=dh m4.1;have v6:=aG m4.1 1;clear p;go_wp2;go_meet;exact⟨h7.1.1,⟨_,by rw[h7.1.2];simpa using aD m4.1 1 (I (-1))⟩,rF.aK _ _⟩
             have q0:(b.2==0)=δ:=sU p;have l5:=Z p;have l7:=B.1.look x9.1;unfold Eh at l7;clear p;have m:=w.1 _ o2.1;cases G8 with
             |none=>
              have b6:=Z (t3.1 12 (by simp[JY,l5.1,<-l6.1]) J);clear l7 m;simp only[qu,pY];go_wp2_with fail;refine sg (jK _ _ _) ?_;rintro _ C8 ⟨rfl,d⟩;have a6:=Z (o2.1.step d);have K:=bx (w.1 _ a6.1);have b5:=aG (w.1 _ a6.1) 0;clear d;go_wp2;exact aO (cG Y Y Y Y (sU (aD (w.1 _ a6.1) 0 aV))) Y (g7.1 a 12 _ a6.1 b6.1)
             |some C9=>
              have q3:=dh m4.1;simp only[nU,jx];by_cases k8:C9.2<0
              .have b6:=Z (t3.1 13 (by simp[JY,l5.1,<-l6.1,k8]) J)
               clear l7 m;go_wp2_with fail;refine sg (jK _ _ _) ?_;rintro _ C8 ⟨rfl,d⟩;have a6:=Z (o2.1.step d);have K:=bx (w.1 _ a6.1);have b5:=aG (w.1 _ a6.1) 0;clear d;go_wp2;exact aO (cG Y Y Y Y (sU (aD (w.1 _ a6.1) 0 aV))) Y (g7.1 a 13 _ a6.1 b6.1)
              have x5:=Z k8;obtain⟨F8,f9⟩:=M (LS.contains b);rw[<-f9] at l7;have h9:=Z f9;clear f9;cases F8
              .have b6:=Z (t3.1 14 (by unfold JY;rw[aR l5.1,<-l6.1];simp only;rw[aR x5.1,aR (by rw[<-h9.1];simp)]) J)
               clear m;go_wp2_with fail;clear l7;refine sg (jK _ _ _) ?_;rintro _ C8 ⟨rfl,d⟩;have a6:=Z (o2.1.step d);have K:=bx (w.1 _ a6.1);have b5:=aG (w.1 _ a6.1) 0;clear d;go_wp2;exact aO (cG Y Y Y Y (sU (aD (w.1 _ a6.1) 0 aV))) Y (g7.1 a 14 _ a6.1 b6.1)
              have h7:N (JY u.1 LS b=0/\Qq u.1 b=C9.2):=Z ⟨by unfold JY;rw[aR l5.1,<-l6.1];simp only;rw[aR x5.1,aS (by rw[<-h9.1])],by unfold Qq;rw[aR l5.1,<-l6.1]⟩;clear m;go_wp2;go_meet;exact⟨h7.1.1,⟨_,by rw[h7.1.2];exact m4.1⟩,rF⟩
            case' rest=>
             obtain⟨C0,⟨s,v0⟩,k3⟩:=hcut;obtain⟨q4,C3⟩:=M wc;rw[<-C3] at v0 k3 |-;have p:c≠o0:=gX (ba m5.1) o4.1;have D0:g6≠o0:=gX (ba k1.1) o4.1;have⟨z9,F6,F4⟩:=dt (k3.aB (k2.hs m5.1) p) (k3.aB t8.1 D0) v0;have t2:N (cC e5.heap.size 203 2 CK q4 (.slice R l4 k) l r9):=Z ((j9.1.f k2).aJ CKs k3 (λf n b=>by
              subst b;obtain⟨_,_,e⟩:=(aW j9.1.row n).2
              have:=ba e
              have:=o4.1;omega) (λ_ _ c=>c.elim))
             have w7:N (bT c e5 q4):=Z ((d7.1.trans k2 (λ_ _ c=>c) (λ_ _ c=>c.elim)).trans k3 (λ_ _ c=>c) (λf n b=>by subst b;have:=o4.1;have:=d7.1.size;omega));have U:N (ua (l++[⟨b.1,Qq u.1 b⟩]) (vn u.1 LS (d.1.drop (i+1)))=o9):=Z (by
              have:=RJ.1;rw[w0.1,Yx C0] at this;exact this)
             have x:N (c<e5.heap.size):=Z (gX r8.1 D8.1);clear C3 v0 k3 C0;have v3:=iU z9.1;have v4:=bx F6.1;have v5:=dh F4.1;go_wp2_with (at_builtin;refine stop ?_);have a5:Fr j q4 (q4.alloc (.cells #[I b.1,I (Qq u.1 b)] 203)):=cZ;refine aZ.go ?_;refine bH Y (.tmp 224) (.tmp 230) Y XF l4 i3.1.symm Y (t2.1.f a5) CKs id (⟨b.1,Qq u.1 b⟩:Tk) Y Y (eF.block (bM Y) oC) (λ_ _=>Y) O mL (bX w7.1.size a5.size) ?_;intro c9 d0 h5 g1 e1 _ _;have p:=Z (e1.1.aB (a5.hs z9.1) (λb=>by have:=(aW t2.1.row b).1;have:=x.1;omega));have K:N (bT c e5 h5):=Z ((w7.1.trans a5 (λ_ _ c=>c) (λ_ _ c=>c.elim)).trans e1.1 (λ_ _ c=>c) (λf n b=>absurd (aW t2.1.row b).1 (lN n)));have B:=Z g1;have q3:=iU p.1;have v6:=aG p.1 2;clear g1 e1 a5 v3 v4 v5;go_wp2;go_roundg (gk-1)
             .have b0:bT c h5 (h5.setCell (H c 2) (.slice c9 (l4+1) d0)):=rF.aK _ _
              exact⟨i+1,c9,d0,l4+1,l++[⟨b.1,Qq u.1 b⟩],_,oB HJ.1,by go_num,by simp[<-i3.1],O,sU (aD p.1 2 (.slice c9 (l4+1) d0)),B.1.aJ CKs b0 (λf n b=>by have:=(aW B.1.row n).1;have:=x.1;omega) (λ_ _ c=>c.elim),U.1,K.1.tr b0⟩
             have:=HJ.1;omega
           obtain rfl:i=a4:=O;have k6:=m2.1.read;have c7:N (o9=(l,0)):=Z (by rw[<-RJ.1,dY (by rw[<-HNR.1];exact eG)];simp[vn,ua]);have r5:=Z k6;clear k6;go_wp2;go_meet;exact⟨R,k,l,c7.1,by rw[<-i3.1];exact m6.1,by rw[<-i3.1];exact r5.1,b7.1⟩
         case' rest=>
          obtain⟨F7,F9,l,n5,G,u9,h⟩:=hcut;obtain⟨b4,C2⟩:=M wc;rw[<-C2] at G u9 h |-;have e8:bT c c6 b4:=j6.1.tr h;have⟨z7,z5⟩:=bD G u9;have D7:N (Sl 3 1 CI b4 (.slice p2 v p3) (d.2.map Prod.fst)):=Z (D6.1.aJ da h (λs f C n=>E2.1 s b4 f (C.elim (λe=>by rw[e];decide) (λe=>e.elim)) n));have MX:N (a7≠c/\a8≠c/\q≠c):=Z (by
           obtain⟨_,_,e⟩:=l8.1.obj
           have:=ba e;obtain⟨_,_,e⟩:=m8.1.obj
           have:=ba e
           have:=ba o7.1
           have:=NX.1;omega)
          have⟨i3,A1⟩:=bD ((l8.1.keep a2).fr e8 MX.1.1) ((m8.1.keep a2).fr e8 MX.1.2.1);have E7:N (Sl 195 2 ra b4 (.slice (S (H D 0)) g g) r):=Z (E6.1.aJ ra.aJ e8 (λs f C n=>o3.1 s b4 f (C.elim (λe=>by rw[e];decide) (λe=>by rw[e];decide)) e8 n));have o6:=Z (e8.aB (a2.hs o7.1) MX.1.2.2);have m1:N (cC A.heap.size 77 3 CT b4 c2 Q b8):=Z ((i5.1.f a2).aJ CT.aJ e8 (λf n b=>by
           subst b;obtain⟨_,_,e⟩:=(aW i5.1.row n).2
           have:=ba e
           have:=NX.1;omega) (λs f C n=>o3.1 s b4 f (by rcases C with e|e<;>rw[e]<;>decide) e8 n))
          have w9:N (Fr j A b4):=Z (w8.1.keep e8 (λf b=>by subst b;have:=NX.1;have:=y.1.size;omega));have E3:N (jG (Q++[⟨X,d.2.map Prod.fst,l⟩]) (jP u.1 LS (a+1) (o.drop (a+1)) (r.drop (a+1)))=a0):=Z (by
           obtain⟨P,m⟩:=Ee (r6.1.symm.trans n5);have e2:=HM.1;rw[e7.1,r0.1,VK Y P m] at e2;exact e2)
          obtain⟨e6,u6⟩:∃z,Q.length=z:=⟨_,Y⟩;have x4:=Z u6;obtain⟨f4,f7,rfl,-,-⟩:=bB m1.1.row;obtain⟨G0,B0⟩:∃g,l.length=g:=⟨_,Y⟩;rw[B0] at z7 z5;rw[u6] at m1 o6;have i:e6<=a:=oB x3.1;clear C2 G u9 h n5 e8 u6 B0;have v3:=bx o6.1;obtain⟨v4,v5,G9,-⟩:=mD z7.1;go_wp2_with (at_builtin;refine stop ?_);have a5:Fr j b4 (b4.alloc (.cells #[I X,.slice p2 v p3,.slice F7 G0 F9] 77)):=cZ;have o5:=m1.1.f a5;refine aZ.go ?_;refine bH Y (.tmp 235) (.tmp 237) Y Jz e6 x4.1 Y o5 CT.aJ (λe=>by rcases e with e|e<;>cases e) (⟨X,d.2.map Prod.fst,l⟩:Tn) Y Y (eF.block (bM Y) oC) (λk0 g8=>⟨_,_,Y,(D7.1.fr da a5).beside da o5 g8 J id,(z5.1.f a5).beside CKs o5 g8 J id⟩) O mL (bX w9.1.size a5.size) ?_;intro c9 d0 h5 g1 e1 _ _;have t6:N (∀f,(ζ.slice f4 e6 f7).ownBlock=S f->fE 77 b4 f):=Z λf n=>(aW m1.1.row n).2;have e9:N (Fr (λf=>(ζ.slice f4 e6 f7).ownBlock=S f) b4 h5):=Z (a5.trans e1.1 (λ_ _ c=>c.elim) (λ_ _ c=>c));have C7:∀f k s d,b4.heap[f]? =S (.cells k s d)->s≠77->¬(ζ.slice f4 e6 f7).ownBlock=S f:=λf k s d e C b=>(t6.1 f b).ne ⟨_,_,e⟩ (λb=>C b.symm) Y;have v2:∀f l k,b4.heap[f]? =S (.map l k)->¬(ζ.slice f4 e6 f7).ownBlock=S f:=λf l k e b=>by
           obtain⟨_,_,m⟩:=t6.1 f b;rw[e] at m;cases m
          have o8:=Z (e9.1.aB o6.1 (C7 _ _ _ _ o6.1 J));obtain⟨i,c,k5⟩:=i3.1.obj;obtain⟨i,c,k7⟩:=A1.1.obj;have⟨l9,m9⟩:=bD (i3.1.fr e9.1 (v2 _ _ _ k5)) (A1.1.fr e9.1 (v2 _ _ _ k7));have F0:=Z (E7.1.aJ ra.aJ e9.1 (λs f C n b=>(t6.1 f b).ne n (λb=>by subst b;rcases C with e|e<;>cases e) Y));have⟨D4,z1⟩:=bD (w9.1.keep e9.1 (λf b=>(aW m1.1.row b).1)) g1;clear k5 k7 C7 v2 g1 e1 o5 a5 v3 v4 v5 G9;have q3:=bx o8.1;have v6:=aG o8.1 0;go_wp2;go_roundg (gk-1)
          .have b0:bT q h5 (h5.setCell (H q 0) (.slice c9 (e6+1) d0)):=rF.aK _ _
           have nq:∀{s:TypeId}{f:E},s≠54->fE s h5 f->¬f=q:=λC e b=>by
            subst b;exact e.ne ⟨_,_,o8.1⟩ C Y
           exact⟨a+1,Q++[⟨X,d.2.map Prod.fst,l⟩],.slice c9 (e6+1) d0,_,oB HK.1,by go_num,E3.1,by rw[cA,x4.1];simp;omega,sU (aD o8.1 0 (.slice c9 (e6+1) d0)),z1.1.aJ CT.aJ b0 (λf n=>nq J (aW z1.1.row n).2) (λs f C n=>nq (by rcases C with e|e<;>rw[e]<;>decide) n),l9.1.fr b0 t1.1.2.1,m9.1.fr b0 t1.1.2.2,F0.1.aJ ra.aJ b0 (λs f C n=>nq (by rcases C with e|e<;>rw[e]<;>decide) n),D4.1.keep b0 (λf b=>b▸t1.1.1)⟩
          have:=HK.1;omega
       obtain rfl:a=g:=O;have c7:N (a0=(Q,0,0)):=Z (by rw[<-HM.1,dY fU];simp[jP,jG]);go_wp2;go_meet;exact⟨Q,c2,c7.1,o7.1,i5.1.read,y.1⟩
     case' rest=>
      obtain⟨Q,c2,C1,a3,k9,h⟩:=hcut;have G2:=Z k9;obtain⟨f4,f7,rfl,-⟩:=k9.slice;have a:=bx a3;have m:=w.1 _ h;have b5:=bx m;have l3:=λf=>aG m f;have⟨x2,r3,a⟩:=dt m h C1;clear k9 h m a3 C1;go_wp2;have r:=(show bT j3 wc (wc.setCell (H j3 0) (.slice f4 Q.length f7)) from rF.aK _ _);have RR:SHR a0 h4 (.returned (.tuple #[.agg #[.slice f4 Q.length f7],aI,aI])) (wc.setCell (H j3 0) (.slice f4 Q.length f7)):=by
       rw[a.1];exact⟨_,Y,⟨_,Y,G2.1.aJ CT.aJ r (λt a F D2 b=>by
        subst b;exact D2.ne ⟨_,_,x2.1⟩ (λb=>by subst b;rcases F with e|e|e<;>cases e) Y)⟩,(j5.1.step r3.1).keep r (λf b=>b▸y6.1)⟩
      exact aO (v:=.tuple #[.agg #[.slice f4 Q.length f7],aI,aI]) (cG Y Y Y Y (sU (aD x2.1 0 _))) Y RR
theorem Fl:∀(a:L (L μ))(b:E),(lu b a).1.length<=a.length
 |[],a=>eG
 |x::b,a=>by
  have:=Fl b (a+1);rw[lu];split
  .simp
  split
  .simp
  simp;omega
theorem Jf(a:L μ):(fu a).1.length<=400:=by
 unfold fu;split
 .simp
 split
 .simp
 split
 .simp
 simp only;omega
theorem Mv(a:L μ):(gI a).1.length<=400:=by
 unfold gI;split
 .simp
 exact bX (Fl _ _) (Jf a)
def TB(b:E)(c:St):Prop:=∀a∈c,a.1.o.length<=b/\0<=a.1.f/\a.1.f<=b
theorem TB.mono{a:St}(b:TB m a)(c:m<=q):TB q a:=λc a=>by
 obtain⟨b,a,c⟩:=b c a;exact⟨O,a,O⟩
theorem XY{b:St}(c:TB m b)(f:Ev)(d:E):TB (m+1) (Je b f d)/\(Je b f d).length=b.length:=by
 unfold Je;cases g:b[d]? with
 |none=>exact⟨c.mono (jz _),Y⟩
 |some b=>
  obtain⟨d,b⟩:=b;have b:=c _ (bQ g);simp only at b |-;split
  .refine⟨λe a=> ?_,sI⟩
   rcases lT a with a|rfl
   .exact c.mono (jz _) e a
   simp;omega
  refine⟨λe a=> ?_,sI⟩;rcases lT a with a|rfl
  .exact c.mono (jz _) e a
  simp;omega
theorem UG{b:St}(d:TB m b)(c:Ev){i:T}(e:0<=i)(f:i<=m):TB (m+1) (lA b c i)/\(lA b c i).length<=b.length+1:=by
 unfold lA;split
 .refine⟨λb a=> ?_,sI⟩
  rcases cB.1 a with a|a
  .exact d.mono (jz _) b a
  simp only[cX] at a;subst a;exact⟨nG,e,by simp only;omega⟩
 split
 .exact⟨d.mono (jz _),jz _⟩
 obtain⟨a,b⟩:=XY d c _;exact⟨a,O⟩
theorem JE:∀(b:L Ev)(a:E)(c:St),TB a c->TB (a+b.length) (iD b a c).1/\(iD b a c).1.length<=c.length+b.length/\0<=(iD b a c).2.1/\(iD b a c).2.1<=((a+b.length:E):T)
 |[],b,c,a=>⟨a,eG,pG _,by simp[iD]⟩
 |e::b,a,f,c=>by
  rw[iD];split
  .obtain⟨c,d⟩:=UG c e (i:=a) O (pG _)
   obtain⟨c,f,d,g⟩:=JE b (a+1) _ c;simp only[bW];refine⟨?_,O,d,O⟩;rw[show a+(b.length+1)=a+1+b.length by omega];exact c
  refine⟨λa d=> ?_,nG,by simp only;omega,by simp only[bW];omega⟩;cases d
theorem Xj(a:X[m]? =S x1):X.getD m x2=x1:=by simp[L.getD,a]
theorem Gu(e:ν)(g:ε)(a0:Gw g)(a5:e.size<1000000):aQ 19 #[.string e] g (SHR (kh e.data.toList) g):=by
 obtain⟨m,b⟩:=M (kh e.data.toList);rw[<-b];have G:=Z b;have w:=(Mv e.data.toList);obtain⟨i,a⟩:=M (gI e.data.toList);rw[<-a] at w;have s:=Z a;clear b a
 delta aQ;go_in
 go_upto_region 1 with fail;refine cT (λF c=> ?_);obtain⟨q,b⟩:=M g.heap.size;rw[<-b];have y:=cY c;have a:(∀d,Fr j F d->aY d q #[aV] 54):=λf d=>d.hs (by rw[c];exact bM b);have K:g.heap.size<=q:=O;have x:(∀(f h:T)(d:ε),Fr j F d->m=([],f,h)->SHR m g (.returned (.tuple #[.agg #[aV],I f,I h])) (d.setCell (H q 0) aV)):=λk l d h f=>by
  rw[f];exact⟨_,Y,⟨_,Y,dJ⟩,(y.step h).keep (show bT q d _ from rF.aK _ _) (λf d=>d▸K)⟩
 clear c b;go_wp2_with fail;refine sg (Wy e F (a0.fr y) a5) ?_;rw[<-s.1];rintro e a8 ⟨a6,rfl,a1,k⟩;by_cases u:i.2.2=0;rotate_left
 .have b:(i.2.2 !=0)=γ:=sU u
  have b:=bx (a _ k);have b:=aG (a _ k) 0;go_wp2;exact aO (cG Y Y Y Y (sU (aD (a _ k) 0 aV))) Y (x _ _ _ k (by rw[G.1];unfold kh;rw[<-s.1,aS u]))
 rw[u];obtain⟨GR,b⟩:=M (iD i.1 0 []);have t:=Z (JE i.1 0 [] (λd c=>by cases c));have e:=Z b;rw[<-b] at t;clear b;have h:N (m=if GR.2.2≠0 then([],GR.2.1+1,GR.2.2) else
  if(gR (GR.1.map Prod.fst)).2.2≠0 then([],((GR.1.map Prod.fst).getD (gR (GR.1.map Prod.fst)).2.1.toNat ⟨0,δ,0,[]⟩).f+1,(gR (GR.1.map Prod.fst)).2.2) else((gR (GR.1.map Prod.fst)).1,0,0)):=Z (by rw[G.1,e.1,s.1];unfold kh;rw[<-s.1,aR (by rw[u];simp)])
 go_wp2_with fail;refine sg (NF a6 i.1 a8 a1 (oB w)) ?_;unfold GO;rw[<-e.1];rintro e a9 ⟨a7,rfl,z,a3⟩;have l:=(k.step a3);have e:=t.1.2.2.1;have e:GR.2.1<=400:=gX t.1.2.2.2 w;by_cases e:GR.2.2=0;rotate_left
 .have b:(GR.2.2 !=0)=γ:=sU e
  have b:=bx (a _ l);have b:=aG (a _ l) 0;go_wp2;exact aO (cG Y Y Y Y (sU (aD (a _ l) 0 aV))) Y (x _ _ _ l (by rw[h.1,aS e]))
 rw[aR (sU e)] at h;rw[e];obtain⟨f,c⟩:=M (GR.1.map Prod.fst);rw[<-c] at z h;have B:(f.length<=400/\∀b∈f,b.o.length<=400/\0<=b.f/\b.f<=400):=(by
  have d:=t.1;simp only[de,fq] at d;refine⟨by rw[c,eo];omega,λe b=> ?_⟩;rw[c] at b;obtain⟨o,n,rfl⟩:=dE.1 b;obtain⟨e,d,i⟩:=d.1 o n;exact⟨O,d,O⟩)
 clear c;obtain⟨c,d⟩:=M (gR f);have a2:(c.2.2≠0->0<=c.2.1/\c.2.1<f.length):=(by rw[d];exact My);rw[<-d] at h;have e:=Z d;clear d;go_wp2_with fail;refine sg (Hw f a7 a9 z (oB B.1) (λd b=>(B.2 d b).1)) ?_;rw[<-e.1];rintro i b0 ⟨e,rfl,a4,R⟩;obtain⟨b1,rfl,A⟩:=a4;obtain⟨n,o,rfl,-⟩:=A.slice;obtain⟨r,d⟩:=M (c.1.length);rw[<-d] at A |-;clear d;go_upto_region 8 with fail;refine cT (λv i=> ?_);obtain⟨k,e⟩:=M b0.heap.size;rw[<-e];have C:=cY i;have k:=dL i e;have d:=((l.step R).step C);clear i e;have e:=bx (a _ d);have e:=aG (a _ d) 0;by_cases p:c.2.2=0
 .have e:(m=(c.1,0,0)):=(by rw[h.1,aR (sU p)])
  have i:=bx k.1;rw[p];go_wp2;have P:=(show bT q v (v.setCell (H q 0) (.slice n r o)) from rF.aK _ _);have RR:SHR m g (.returned (.tuple #[.agg #[.slice n r o],aI,aI])) (v.setCell (H q 0) (.slice n r o)):=by
   rw[e];exact⟨_,Y,⟨_,Y,(A.f C).aJ CT.aJ P (λg e b V Q=>by
    subst Q;exact V.ne ⟨_,_,a _ d⟩ (λU=>by subst U;rcases b with D|D|D<;>cases D) Y)⟩,(y.step d).keep P (λg e=>e▸K)⟩
  exact aO (v:=.tuple #[.agg #[.slice n r o],aI,aI]) (cG Y Y Y Y (sU (aD (a _ d) 0 (.slice n r o)))) Y RR
 have e:(c.2.2 !=0)=γ:=sU p;obtain⟨s0,s1⟩:=a2 p;obtain⟨D,V⟩:∃e:E,c.2.1=e:=⟨c.2.1.toNat,O⟩;obtain⟨X,b⟩:=gE f D O;have P:=(B.2 X (bQ b)).2;obtain⟨c,e,i,g,Q,-,-,U⟩:=(z.fr R).fr C;obtain rfl:=U.addr b;obtain⟨_,-,-,c,-,-⟩:=U.2 D X b;obtain⟨c,W⟩:=M f.length;rw[<-W] at Q s1;subst Q;rw[V] at s1 |-;have c:(0:T)<=(D:T):=jD;have c:=P.1;have c:=P.2;clear W;go_wp2_with fail;go_region;all_goals
  go_wp2;exact aO (cG Y Y Y Y (by first|simpa using aD (a _ d) 0 aV|exact(show(v.setCell (H q 0) aV).heap[q]? =S (.cells #[aV] 54 (0,0)) by simpa using aD (a _ d) 0 aV))) Y (by
   obtain⟨d,a,b,c⟩:=x _ _ _ d (by rw[h.1,aS p,V,gu,Xj b]);exact⟨d,a,b.fr (rF.drew),c.drew⟩)
theorem tW:(prog.info? 64).map (·.size)=S 9:=kR
def pnw(e a b c d:T):ζ:=if vq e a b c d 0 0 0 0 then .tuple #[pv e a b c d 0 0 0 0,aI] else .tuple #[pv 0 0 0 0 0 0 0 0 0,I 1]
theorem Pv(e a b c d:T)(h:ε):aQ 20 #[I e,.agg #[I a,I b,I c,I d]] h λg f=>
  g=.returned (pnw e a b c d)/\Fr j h f:=by
 obtain⟨k,f⟩:=M (pnw e a b c d);rw[<-f];have n:=Z f;clear f
 delta aQ;go_in
 go_wp2_with fail;refine aZ.nm (λk g=> ?_);obtain⟨w,i⟩:=M h.heap.size;obtain⟨f,l⟩:=M (w+1);obtain⟨w,m⟩:=M (f+1);rw[<-i];try rw[<-l]
 try rw[<-m]
 have r:=Ol g;have s:N (aY k f #[aI,aI,aI,aI,aI,aI,aI,aI,aI] 64):=Z (by rw[g];exact aC (bM (by rw[fL];omega)) _);have t:N (aY k w #[I e,I a,I b,I c,I d,aI,aI,aI,aI] 64):=Z (by rw[g];exact bM (by rw[fL,fL];omega));have o:h.heap.size<=f:=O;clear g i l m;refine sg (jF e a b c d 0 0 0 0 k) ?_;rintro h k ⟨rfl,g⟩;have l:=(r.step g);have⟨p,u⟩:=bD (g.hs s.1) (g.hs t.1);obtain⟨v,a⟩:=M (vq e a b c d 0 0 0 0);rw[<-a];have m:=Z a;clear a g;cases v
 .go_wp2_with (refine aU Y 64 (.tmp 4) (.tmp 13) Y Y Y p.1 Y tW oC ?_;intro a i g)
  exact aO (bZ Y _ _ _ f 64 _ (0,0) _ Y i Y underlying64 tW) Y ⟨by rw[n.1,pnw,<-m.1];rfl,l.keep g (λb a=>a▸o)⟩
 go_wp2_with (first|(refine bU Y 64 (.tmp 6) Y Y u.1 underlying64 Y tW ?_)|(refine aU Y 64 (.tmp 4) (.tmp 14) Y Y Y p.1 Y tW oC ?_;intro a i g));exact aO (bZ Y _ _ _ f 64 _ (0,0) _ Y i Y underlying64 tW) Y ⟨by rw[n.1,pnw,<-m.1];rfl,l.keep g (λb a=>a▸o)⟩
theorem Ab(b:Hs)(d:E):∀(c:L Tk)(a:T),a<16->lX b d a c=γ->(c.length:T)<=15-a
 |[],c,a,_=>by simp;omega
 |x::c,f,e,a=>by
  simp only[lX,bA,cS] at a
  have:=Ab b d c x.k a.1.1.2 a.2;simp only[bW];omega
theorem Gy{a:Hs}(c:bm a=γ):∀b∈a,b.w.length<=1000/\b.r.length<=1000:=by
 intro e b;obtain⟨d,b⟩:=kc b
 have:=pW c b;simp only[tR,bA] at this;have b:=qd J this.1.1;have a:=Ab a d e.r (-1) J this.1.2;omega
def pd(e:Hs)(g f a b c d:T):RS:=⟨e,g,[],[δ,δ,δ,δ],0,0,1,δ,[],[],[],f,[a,b,c,d],[0,0,0,0],0,0,0,[],[]⟩
theorem TG{a:Hs}(f:bm a=γ)(d:i1=0\/i1=1)(e:vq i2 i3 i4 i5 i6 0 0 0 0=γ):vg a i1 0 (pd a i1 i2 i3 i4 i5 i6):=by
 obtain⟨c,⟨a,e,h,i⟩,-⟩:=vC.1 e;have b:db 0:=⟨J,J⟩;refine⟨⟨Y,Y,Y⟩,Y,Y,⟨?_,by simp[fe,pd],?_,by simp[pd]⟩,⟨by simp[pd],by simp[pd],by simp[pd],by simp[pd]⟩,⟨by simp[pd,oY],by simp[pd],by simp[pd]⟩,⟨c,?_,?_⟩,b,⟨pG 0,show(0:T)<4 by decide⟩,qJ,by simp[pd],by simp[pd],?_⟩
 .rcases d with rfl|rfl<;>simp[pd,iu,jN,ep,f]
 .intro a g
  cases g
 .intro c a
  simp only[pd,rB] at a;rcases a with rfl|rfl|rfl|rfl<;>assumption
 .intro c a
  simp only[pd,rB,or_self] at a;rw[a];exact b
 intro a g;cases g
def ErV(b:ζ):Prop:=(∃a,a≠0/\b=.iface 29 (I a))\/∃c a,b=.iface 50 (.agg #[I c,I a])
def BGN(m:T)(c:Hs)(a i e f g h:T)(l:ε)(n:Ending)(d:ε):Prop:=∃k b,n=.returned (.tuple #[k,b])/\Fr j l d/\((ErV b/\¬(m=0/\bm c=γ/\(a=0\/a=1)/\vq i e f g h 0 0 0 0=γ))\/(b=.nilIface/\∃b,k=aP b 0/\l.heap.size<=b/\(a=0\/a=1)/\kS c a 0 b δ (pd c a i e f g h) d))
theorem Od(w:ν)(s m i k g l:T)(R:ε)(b6:Gw R)(a0:w.size<=1500):aQ 11 #[.string w,I s,.agg #[I m,I i,I k,I g,I l]] R (BGN (kh w.data.toList).2.2 (kh w.data.toList).1 s m i k g l R):=by
 obtain⟨v,a8⟩:=M (kh w.data.toList);have HP:=Z (λa0(c6:Gw a0)=>Gu w a0 c6 O);rw[<-a8] at HP |-;clear a8
 delta aQ;go_in
 go_upto_region 1 with fail;refine cT (λb1 a0=> ?_);obtain⟨a8,w⟩:=M R.heap.size;rw[<-w];have u:=cY a0;have b7:=yY a0 w;clear a0 w;go_wp2_with fail;refine sg (HP.1 b1 (b6.fr u)) ?_;rintro b3 d2 ⟨t,rfl,a9,b5⟩;obtain⟨d1,rfl,c9⟩:=id a9;obtain⟨d5,d6,rfl,-,-⟩:=c9.slice;obtain⟨R,w⟩:=M d2.heap.size;go_upto_region 2 with fail;refine cT (λb2 R=> ?_);rw[<-w];have a7:=cY R;have b8:=yY R w;have U:=(b5.step a7);clear R w;by_cases W:v.2.2=0;rotate_left
 .have b4:(v.2.2 !=0)=γ:=sU W
  go_wp2_with fail;go_ret2;exact⟨_,_,Y,u.step U,.inl ⟨.inr ⟨_,_,Y⟩,λn=>W n.1⟩⟩
 have b4:(v.2.2 !=0)=δ:=by simp[W]
 have d:=b7.1 b2 U;obtain⟨c0,c1,c2,c3,c4,-⟩:=Va d;go_wp2_with fail;refine sg (Pv m i k g l b2) ?_;rintro b3 d3 ⟨rfl,a5⟩;have a2:=(U.step a5);unfold pnw;by_cases Q:vq m i k g l 0 0 0 0=γ;rotate_left
 .rw[aR Q]
  unfold pv;go_wp2_with fail;go_ret2;exact⟨_,_,Y,(u.step a2).alloc _,.inl ⟨.inl ⟨1,J,Y⟩,λn=>Q n.2.2.2⟩⟩
 rw[aS Q];unfold pv;obtain⟨W,w⟩:=M d3.heap.size;go_upto_region 7 with fail;refine cT (λU R=> ?_);rw[<-w];have a0:=cY R;have d:aY U W #[I m,I i,I k,I g,I l,aI,aI,aI,aI] 64:=by rw[R];exact bM w
 have W:=(a5.step a0);have a5:=bx (b8.1 U W);obtain⟨c0,c1,c2,c3,c4,a5,a8,b2,b4,-⟩:=Vx d;clear R w;go_wp2_with fail;refine sg (Cj v.1 s m i k g l 0 0 0 0 _ U ((a9.fr a7).fr W) (λw=>by have:=bK w;omega) (λw=>Gy w)) ?_;rintro b3 a1 ⟨p,w⟩;have K:=((a2.step a0).step p);rcases w with⟨rfl,c7⟩|⟨⟨d1,rfl,X⟩,c8,b0,-⟩
 .go_wp2_with (refine aU Y 66 (.tmp 12) (.tmp 42) Y Y Y (bM Y) Y gy oC ?_;intro A F P;refine stop ?_)
  refine aZ.go ?_;obtain⟨q,G⟩:=M a1.heap.size;rw[<-G] at F |-;clear G;go_wp2_with fail;refine eU [[],[0],[0,1],[],[3],[0,1,2],[3,4]] [.eq 0 (.agg #[aV,aI,aV,.bool δ,.bool δ,.bool δ,.bool δ,aI,aI,aI,.bool δ,aV,aV,aV,aI,aI,aI,aI,aI,aI,aI,aI,aI,aI,aI,aI,aV,aV]),.eq 1 (.agg #[aV,aI,aV,.bool δ,.bool δ,.bool δ,.bool δ,aI,aI,aI,.bool δ,aV,aV,aV,aI,aI,aI,aI,aI,aI,aI,aI,aI,aI,aI,aI,aV,aV,.string ⟨#[]⟩]),⟨.w1 2 (λt e=>∃c,t=aP c 0/\A.heap.size<=c/\aY e c #[aV,aI,aV,.bool δ,.bool δ,.bool δ,.bool δ,aI,aI,aI,.bool δ,aV,aV,aV,aI,aI,aI,aI,aI,aI,aI,aI,aI,aI,aI,aI,aV,aV,.string ⟨#[]⟩] 68),λ_ _ _ ⟨c,f,r,h⟩ p=>⟨c,f,r,p.hs h⟩⟩,.eq 3 (I 1),.eq 4 (Ar 1),⟨.w1 5 (λt e=>∃c,t=aP c 0/\A.heap.size<=c/\aY e c #[aV,aI,aV,.bool δ,.bool δ,.bool δ,.bool δ,aI,aI,aI,.bool δ,aV,aV,aV,aI,aI,aI,aI,aI,aI,aI,aI,aI,aI,aI,aI,aV,aV,.string ⟨#[]⟩] 68),λ_ _ _ ⟨c,f,r,h⟩ p=>⟨c,f,r,p.hs h⟩⟩,.eq 6 (Ar 1)] [[0],[1],[2],[3],[4],[5],[6]] kR kR Y (λ_ _ _ _ f n=>⟨f.symm.trans n.1,n.2⟩) (λd4=> ?_);refine⟨?_,?_,?_,?_,?_,?_,?_,?_⟩;any_goals(first|(intro e d b o a;simp only[rX,ξ] at b a |-;(try simp only[b] at a);go_simp;exact a _ _ rF Y)|fail)
  .intro e d b o a
   simp only[rX,ξ] at b a |-;rw[aS (by first|rfl|go_simp)];refine wp_load_row 66 (.tmp 12) fX q fX 66 #[aV,aI,aV,.bool δ,.bool δ,.bool δ,.bool δ,aI,aI,aI,.bool δ,aV,aV,aV,aI,aI,aI,aI,aI,aI,aI,aI,aI,aI,aI,aI,aV,aV] (0,0) _ ((Fr.all F).1 _ d) underlying66 Y gy ?_;exact a _ _ rF Y
  .intro e d b o a
   simp only[rX,ξ] at b a |-;(try simp only[b] at a);go_simp;exact a _ _ cZ ⟨_,Y,d.size,bM Y⟩
  .intro e d b o a
   simp only[rX,ξ] at b a |-;(try simp only[b] at a);go_simp;go_at_call 22;refine(tF _ e).mono ?_;rintro f b9 ⟨rfl,rfl⟩;exact a _ _ rF Y
  .intro e d b o a
   have B:=b 2 J;simp only[rX,ξ] at B b a |-;(try simp only[b] at a);obtain⟨c,g,h⟩:=B;simp only[g] at a;go_simp;exact a _ _ rF ⟨c,Y,h⟩
  intro e d b;have C:=b 5 J J;have D:=b 6 J J;simp only[rX,ξ] at C D;simp only[Act.put,rC];obtain⟨c,V,r,h⟩:=C;simp only[V,D];go_wp2;go_ret2;exact⟨_,_,Y,((u.step ((K.alloc _).keep P (λd0 f=>f▸K.size))).step d),.inl ⟨.inl ⟨1,J,by simp[Ar]⟩,λn=>c7 n.2⟩⟩
 obtain⟨R,a6,w⟩:=id X;obtain⟨x,y,c5,-⟩:=w.slice;simp only[ku,kI,iY,gT] at a6;subst a6 c5;obtain⟨z,w⟩:=M (v.1.length);rw[<-w] at X |-;clear w;go_wp2_with (refine aU Y 66 (.tmp 12) (.tmp 42) Y Y Y (bM Y) Y gy oC ?_;intro A F P;refine stop ?_);refine aZ.go ?_;have a3:Fr j b1 A:=((K.alloc _).keep P (λd0 f=>f▸K.size));obtain⟨q,G⟩:=M a1.heap.size;rw[<-G] at F |-;clear G;go_wp2_with fail;refine eU [[],[0],[0,1],[],[3],[0,1,2],[3,4]] [.eq 0 (.agg #[.slice x z y,I s,aV,.bool δ,.bool δ,.bool δ,.bool δ,aI,aI,I 1,.bool δ,aV,aV,aV,I m,I i,I k,I g,I l,aI,aI,aI,aI,aI,aI,aI,aV,aV]),.eq 1 (.agg #[.slice x z y,I s,aV,.bool δ,.bool δ,.bool δ,.bool δ,aI,aI,I 1,.bool δ,aV,aV,aV,I m,I i,I k,I g,I l,aI,aI,aI,aI,aI,aI,aI,aV,aV,.string ⟨#[]⟩]),⟨.w1 2 (λt e=>∃c,t=aP c 0/\A.heap.size<=c/\aY e c #[.slice x z y,I s,aV,.bool δ,.bool δ,.bool δ,.bool δ,aI,aI,I 1,.bool δ,aV,aV,aV,I m,I i,I k,I g,I l,aI,aI,aI,aI,aI,aI,aI,aV,aV,.string ⟨#[]⟩] 68),λ_ _ _ ⟨c,f,r,h⟩ p=>⟨c,f,r,p.hs h⟩⟩,.eq 3 aI,.eq 4 (Ar 0),⟨.w1 5 (λt e=>∃c,t=aP c 0/\A.heap.size<=c/\aY e c #[.slice x z y,I s,aV,.bool δ,.bool δ,.bool δ,.bool δ,aI,aI,I 1,.bool δ,aV,aV,aV,I m,I i,I k,I g,I l,aI,aI,aI,aI,aI,aI,aI,aV,aV,.string ⟨#[]⟩] 68),λ_ _ _ ⟨c,f,r,h⟩ p=>⟨c,f,r,p.hs h⟩⟩,.eq 6 (Ar 0)] [[0],[1],[2],[3],[4],[5],[6]] kR kR Y (λ_ _ _ _ f n=>⟨f.symm.trans n.1,n.2⟩) (λd4=> ?_);refine⟨?_,?_,?_,?_,?_,?_,?_,?_⟩;any_goals(first|(intro e d b o a;simp only[rX,ξ] at b a |-;(try simp only[b] at a);go_simp;exact a _ _ rF Y)|fail)
 .intro e d b o a
  simp only[rX,ξ] at b a |-;rw[aS (by first|rfl|go_simp)];refine wp_load_row 66 (.tmp 12) fX q fX 66 #[.slice x z y,I s,aV,.bool δ,.bool δ,.bool δ,.bool δ,aI,aI,I 1,.bool δ,aV,aV,aV,I m,I i,I k,I g,I l,aI,aI,aI,aI,aI,aI,aI,aV,aV] (0,0) _ ((Fr.all F).1 _ d) underlying66 Y gy ?_;exact a _ _ rF Y
 .intro e d b o a
  simp only[rX,ξ] at b a |-;try simp only[b] at a
  go_simp;exact a _ _ cZ ⟨_,Y,d.size,bM Y⟩
 .intro e d b o a
  simp only[rX,ξ] at b a |-;try simp only[b] at a
  go_simp;go_at_call 22;refine(tF _ e).mono ?_;rintro f b9 ⟨rfl,rfl⟩;exact a _ _ rF Y
 .intro e d b o a
  have B:=b 2 J;simp only[rX,ξ] at B b a |-;try simp only[b] at a
  obtain⟨c,g,h⟩:=B;simp only[g] at a;go_simp;exact a _ _ rF ⟨c,Y,h⟩
 intro e d b;have C:=b 5 J J;have D:=b 6 J J;simp only[rX,ξ] at C D;simp only[Act.put,rC];obtain⟨c,V,r,h⟩:=C;simp only[V,D];have a4:=((u.step a3).step d);go_wp2;go_ret2;refine⟨_,_,Y,a4,.inr ⟨by simp[Ar],c,Y,by have:=a4.size;have:=u.size;have:=a3.size;omega,b0,TG c8 b0 Q,show(0:T)<1000000000 by decide,?_⟩⟩;exact⟨⟨x,η,η,η,η,η,η,z,y,0,0,0,0,0,0,0,0,0,0,0,0,s,0,0,1,m,i,k,g,l,0,0,0,0,0,0,0,δ,δ,δ,δ,δ⟩,⟨v.1,[],[],[],[],[],[]⟩,sU h,⟨(((X.fr ((Fr.refl j a1).alloc (.cells Vv 66 (0,0)))).aJ P (λe c b a f=>a.ne ⟨_,_,f▸(bM Y)⟩ (by rcases b with rfl|rfl|rfl<;>decide) Y)).fr d),dJ,dJ,dJ,dJ,dJ,dJ⟩,Y⟩
def pal(e a b c d s0 s1 s2 s3:T):T:=bif vq e a b c d s0 s1 s2 s3 then min (s0+s1+s2+s3) 2147483647 else 0
theorem Uy(h c d e f s0 s1 s2 s3:T)(p:ε):dr 29 #[pv h c d e f s0 s1 s2 s3] p (I (pal h c d e f s0 s1 s2 s3)):=by
 obtain⟨t,a⟩:=M (pal h c d e f s0 s1 s2 s3);rw[<-a];have m:=Z a;clear a;have t:∀a:ε,(Instr.index 22 (.agg #[I s0,I s1,I s2,I s3]) aI).run prog a=.ok (I s0) a:=λ_=>by kernel_rfl
 have t:∀a:ε,(Instr.index 22 (.agg #[I s0,I s1,I s2,I s3]) (I 1)).run prog a=.ok (I s1) a:=λ_=>by kernel_rfl
 have t:∀a:ε,(Instr.index 22 (.agg #[I s0,I s1,I s2,I s3]) (I 2)).run prog a=.ok (I s2) a:=λ_=>by kernel_rfl
 have t:∀a:ε,(Instr.index 22 (.agg #[I s0,I s1,I s2,I s3]) (I 3)).run prog a=.ok (I s3) a:=λ_=>by kernel_rfl
 unfold pv
 delta dr aQ;go_in
 go_upto_region 1 with fail;refine cT (λt b=> ?_);obtain⟨p,a⟩:=M p.heap.size;rw[<-a];have r:=cY b;have n:=dL b a;clear b a;go_wp2_with (first|(refine bU Y 64 (.tmp 1) Y Y n.1 underlying64 Y tW ?_)|(go_at_call 43;refine stop ?_));refine sg (jF h c d e f s0 s1 s2 s3 t) ?_;rintro p u ⟨rfl,o⟩;have l:=(r.step o);have i:=(o.hs n.1);obtain⟨s,a⟩:=M (vq h c d e f s0 s1 s2 s3);rw[<-a];have k:=Z a;clear a;cases s
 .go_wp2
  go_ret;exact⟨by rw[m.1,pal,<-k.1];rfl,l⟩
 obtain⟨-,-,c,d,e,f⟩:=vC.1 k.1.symm;unfold db uc at c d e f;have a:=BY i;have b:=Bl i;have c:=Ep i;have d:=Tg i;go_wp2_with fail;clear a b c d;go_loopg [3,5,11] 4 (λgk d a c wr=>∃(a:E)(b:T),a+gk=4/\c=I a/\d=I b/\b=(if 0<a then s0 else 0)+(if 1<a then s1 else 0)+(if 2<a then s2 else 0)+(if 3<a then s3 else 0)/\wr=u)
 .exact⟨0,0,Y,Y,Y,sI,Y⟩
 case round=>
  obtain⟨g,b,v,rfl,rfl,a,rfl⟩:=hrel;rcases(show g=0\/g=1\/g=2\/g=3\/g=4 by omega) with rfl|rfl|rfl|rfl|rfl;all_goals simp only[E.lt_irrefl,E.reduceLT,eX,iG,T.add_zero,T.zero_add] at a
  case inr.inr.inr.inr=>
   have HT:=Z a;have c:0<=b/\b<=8589934588:=O;clear a;go_wp2;go_ret;exact⟨by rw[m.1,pal,<-k.1];simp[HT.1],l⟩
  .have HT:=Z a
   have c:0<=b:=O;have c:b<=6442450941:=O;clear a;go_wp2;go_roundg (gk-1)
   .exact⟨1,_,O,by go_num,Y,by have:=HT.1;simp;omega,Y⟩
   omega
  .have HT:=Z a
   have c:0<=b:=O;have c:b<=6442450941:=O;clear a;go_wp2;go_roundg (gk-1)
   .exact⟨2,_,O,by go_num,Y,by have:=HT.1;simp;omega,Y⟩
   omega
  .have HT:=Z a
   have c:0<=b:=O;have c:b<=6442450941:=O;clear a;go_wp2;go_roundg (gk-1)
   .exact⟨3,_,O,by go_num,Y,by have:=HT.1;simp;omega,Y⟩
   omega
  have HT:=Z a;have c:0<=b:=O;have b:b<=6442450941:=O;clear a;go_wp2;go_roundg (gk-1)
  .exact⟨4,_,O,by go_num,Y,by have:=HT.1;simp;omega,Y⟩
  omega
theorem pg{q a:E}(b:Fr j W V)(c:W.heap.size<=q):Fr j W (V.setCell (H q a) x):=b.cN (H q a) c x
theorem CJ{q:E}{a b d e f g h i k l c:ζ}(m:aY W q #[a,b,d,e,f,g,h,i,k,l,c] t)(a b c d e f g h i k l:ζ):(((((((((((W.setCell (H q 0) a).setCell (H q 1) b).setCell (H q 2) c).setCell (H q 3) d).setCell (H q 4) e).setCell (H q 5) f).setCell (H q 6) g).setCell (H q 7) h).setCell (H q 8) i).setCell (H q 9) k).setCell (H q 10) l).heap[q]? =S (.cells #[a,b,c,d,e,f,g,h,i,k,l] t (0,0)):=by
 simpa using aD (aD (aD (aD (aD (aD (aD (aD (aD (aD (aD m 0 a) 1 b) 2 c) 3 d) 4 e) 5 f) 6 g) 7 h) 8 i) 9 k) 10 l
theorem YZ(a:ε)(q:E)(b c d e f g h i k l m:ζ):bT q a (((((((((((a.setCell (H q 0) b).setCell (H q 1) c).setCell (H q 2) d).setCell (H q 3) e).setCell (H q 4) f).setCell (H q 5) g).setCell (H q 6) h).setCell (H q 7) i).setCell (H q 8) k).setCell (H q 9) l).setCell (H q 10) m):=
 ((((((((((rF.aK _ _).aK _ _).aK _ _).aK _ _).aK _ _).aK _ _).aK _ _).aK _ _).aK _ _).aK _ _).aK _ _
theorem adB:(prog.info? 36).map (·.size)=S 11:=kR
theorem wL{b:θ ζ}{a:θ ζ}(d:b[2]?.getD undef=aP m 0)(c:aY W m a 36)(e:a.size=11):
  (results Tryz.f13 b).run prog W=.ok (.agg a) W:=by
 have a:Tryz.f13.results=#[.cell 2 36]:=Y;simp[results,a,d,asAddr,fQ c Y underlying36 (by rw[e];exact adB),Result.andThen]
def ANS(b h:T)(s:E)(t:ε)(l:Ending)(c:ε):Prop:=∃(m n o:T)(g:κ)(e:ι Addr)(p i:E)(f:ι Addr)(r k:E)(d:ι Addr)(a:E×E),l=.returned (.agg #[I b,aI,aI,I h,I m,I n,I o,.bool g,.slice e p i,.slice f r k,.slice d a.1 a.2])/\(b=2->a.1=s)/\Fr j t c
theorem Hm(a:iS)(r:LS)(b3:ε)(b7:lv b3 a r)(g3:r.tree.length<=1000000000000)(g0:Su r.tree)(g2:r.ord.length<=1000):aQ 13 #[.agg (ei a)] b3 (ANS a.sa a.vu r.tree.length b3):=by
 delta aQ;go_in
 go_upto_region 1 with fail;refine cT (λb b1=> ?_);obtain⟨e,a8⟩:=M b3.heap.size;rw[<-a8];have l:=qa1 b1 a8;have f2:N (∀i,Fr j b i->i.heap[e+1]? =S (.cells #[aI,aI,aI,aI,aI,aI,aI,.bool δ,aV,aV,aV] 36 (0,0))):=Fr.all (by rw[b1];exact bM (by rw[a8];simp));have a9:=lq b1;have f1:=Z a8;clear b1 a8;obtain⟨a6,c5⟩:=M (pal a.l a.e0 a.e1 a.e2 a.e3 a.s0 a.s1 a.s2 a.s3);have c3:N (∀c,dr 29 #[pv a.l a.e0 a.e1 a.e2 a.e3 a.s0 a.s1 a.s2 a.s3] c (I a6)):=Z (by intro c;rw[c5];exact Uy _ _ _ _ _ _ _ _ _ c);clear c5;have f0:N (∀c,Fr j b c->c.cell? (H e 14)=S (I a.l)/\c.cell? (H e 15)=S (I a.e0)/\c.cell? (H e 16)=S (I a.e1)/\c.cell? (H e 17)=S (I a.e2)/\c.cell? (H e 18)=S (I a.e3)/\c.cell? (H e 19)=S (I a.s0)/\c.cell? (H e 20)=S (I a.s1)/\c.cell? (H e 21)=S (I a.s2)/\c.cell? (H e 22)=S (I a.s3)/\c.cell? (H e 23)=S (I a.pk)/\c.cell? (H e 24)=S (I a.sa)/\c.cell? (H e 25)=S (I a.vu)/\Fr j b c):=Z λc h=>⟨aj (l.1 c h) 14,aj (l.1 c h) 15,aj (l.1 c h) 16,aj (l.1 c h) 17,aj (l.1 c h) 18,aj (l.1 c h) 19,aj (l.1 c h) 20,aj (l.1 c h) 21,aj (l.1 c h) 22,aj (l.1 c h) 23,aj (l.1 c h) 24,aj (l.1 c h) 25,h⟩;have e8:Fr j b (b.alloc (.cells #[aI,aI,aI,aI,aI,aI,aI,.bool δ,aV,aV,aV] 36)).drew:=((Fr.refl j b).alloc _).drew;have b6:=(Fr.refl j b).drew;go_wp2_with fail;go_region_held3 (λi=>i.cell? (H e 14)=S (I a.l)/\i.cell? (H e 15)=S (I a.e0)/\i.cell? (H e 16)=S (I a.e1)/\i.cell? (H e 17)=S (I a.e2)/\i.cell? (H e 18)=S (I a.e3)/\i.cell? (H e 19)=S (I a.s0)/\i.cell? (H e 20)=S (I a.s1)/\i.cell? (H e 21)=S (I a.s2)/\i.cell? (H e 22)=S (I a.s3)/\i.cell? (H e 23)=S (I a.pk)/\i.cell? (H e 24)=S (I a.sa)/\i.cell? (H e 25)=S (I a.vu)/\Fr j b i) ((refine f0.1 _ ?_;repeat(first|(with_reducible assumption)|(with_reducible exact b6)|(with_reducible refine pg ?_ (by first|exact eG|exact Fr.size ‹Fr j b f›))|(with_reducible exact e8)|(with_reducible exact Fr.alloc ‹Fr j b f› _)))) ((first|(go_at_call 29;refine(c3.1 b.drew).mono ?_;rintro f9 f ⟨rfl,R⟩;have h:=b6.step R;clear R)|(go_at_call 29;refine(c3.1 (b.drew.alloc (.cells #[aI,aI,aI,aI,aI,aI,aI,.bool δ,aV,aV,aV] 36))).mono ?_;rintro f9 f ⟨rfl,R⟩;have h:=(b6.alloc (.cells #[aI,aI,aI,aI,aI,aI,aI,.bool δ,aV,aV,aV] 36)).step R;have d:aY f b.heap.size #[aI,aI,aI,aI,aI,aI,aI,.bool δ,aV,aV,aV] 36:=R.hs (bM Y);clear R;have e1:f.cell? (H b.heap.size 0)=S aI:=aj d 0;have d0:f.frozen? (H b.heap.size 0)=δ:=aG d 0;have e2:f.cell? (H b.heap.size 1)=S aI:=aj d 1;have d1:f.frozen? (H b.heap.size 1)=δ:=aG d 1;have e3:f.cell? (H b.heap.size 2)=S aI:=aj d 2;have d3:f.frozen? (H b.heap.size 2)=δ:=aG d 2;have e4:f.cell? (H b.heap.size 3)=S aI:=aj d 3;have d4:f.frozen? (H b.heap.size 3)=δ:=aG d 3;have e5:f.cell? (H b.heap.size 4)=S aI:=aj d 4;have d5:f.frozen? (H b.heap.size 4)=δ:=aG d 4;have e6:f.cell? (H b.heap.size 5)=S aI:=aj d 5;have d6:f.frozen? (H b.heap.size 5)=δ:=aG d 5;have a0:f.cell? (H b.heap.size 6)=S aI:=aj d 6;have d7:f.frozen? (H b.heap.size 6)=δ:=aG d 6;have a1:f.cell? (H b.heap.size 7)=S (.bool δ):=aj d 7;have d8:f.frozen? (H b.heap.size 7)=δ:=aG d 7;have a2:f.cell? (H b.heap.size 8)=S aV:=aj d 8;have d9:f.frozen? (H b.heap.size 8)=δ:=aG d 8;have a3:f.cell? (H b.heap.size 9)=S aV:=aj d 9;have e0:f.frozen? (H b.heap.size 9)=δ:=aG d 9;have X:f.cell? (H b.heap.size 10)=S aV:=aj d 10;have d2:f.frozen? (H b.heap.size 10)=δ:=aG d 10;have e7:=Z d;clear d)))
 all_goals
  rename_i g1;obtain⟨-,-,-,-,-,-,-,-,-,-,-,-,c2⟩:=g1;go_upto_region 2 with fail;refine cT (λp b2=> ?_);first
   |(obtain⟨P,B⟩:=M b.heap.size
     have g:=e7.1;have d:N (aY p P #[I a.sa,aI,aI,I a.vu,I a.pk,I a6,aI,.bool δ,aV,aV,aV] 36):=Z (by rw[b2,<-B];exact CJ (B▸g) _ _ _ _ _ _ _ _ _ _ _);have s:b.heap.size<=P:=(by rw[B];exact eG);rw[<-B])
   |(obtain⟨P,B⟩:=M f.heap.size
     have d:=dL b2 B;have s:b.heap.size<=P:=(by rw[B];exact h.size);rw[<-B])
  have G:Fr j b p:=(by rw[b2];exact c2);clear b2 B c2;try clear g
  try clear e1 d0 e2 d1 e3 d3 e4 d4 e5 d5 e6 d6 a0 d7 a1 d8 a2 d9 a3 e0 X d2
  have Q:N (∀c,Fr j p c->aY c e (ei a) 66):=Z λc h=>l.1 c (G.step h);have c1:=Sb (Q.1 p rF);by_cases V:a.sa=1
  case' pos=>
   (have f7:(a.sa==1)=γ:=sU V;have c4:(a.sa==2)=δ:=by simp[V]);have f3:=bx (Q.1 p rF);have c0:=dh (Q.1 p rF);have f4:=Ot (Q.1 p rF);have b9:N (a.sa=2->False):=Z (λU=>by omega);clear V;go_wp2_with fail;refine sg (DS r.h a.eY r.ord _ _ p ((b7.fr (a9.step G)).hh) ((b7.fr (a9.step G)).od) (oB g2)) ?_;rintro f8 g7 ⟨g8,rfl,c6,K⟩;obtain⟨C,y,h0,h1,g9,g4,g5,g6,rfl,s8,s9,-,s10,-⟩:=c6.ex;obtain⟨w,z,rfl,-,-⟩:=s8.slice;obtain⟨x,A,rfl,-,-⟩:=s9.slice;obtain⟨u,t,rfl,-,-⟩:=s10.slice;obtain⟨D,c8⟩:=M g4.length;obtain⟨F,c9⟩:=M g5.length;obtain⟨m,c7⟩:=M g6.length;rw[<-c8,<-c9,<-c7];clear c6 s8 s9 s10 c8 c9 c7 f3 c0 f4;have g:=K.hs d.1;have a0:=Bl g;have a1:=Ep g;have a2:=Tg g;have a3:=oc9 g;have X:=IS g;have b4:=λW=>aG g W;have a4:=Z g;have a5:=(G.step K);clear g K;unfold cev;go_upto_region 7 with fail;refine cT (λv o=> ?_);have b0:Fr j b v:=(by rw[o];exact pg (pg (pg (pg (pg a5 s) s) s) s) s);obtain⟨C,y,w,D,z,x,F,A,u,m,t,b5,b8⟩:∃(C:T)(y:κ)(w:ι Addr)(D z:E)(x:ι Addr)(F A:E)(u:ι Addr)(m t:E),N (aY v P #[I a.sa,aI,aI,I a.vu,I a.pk,I a6,I C,.bool y,.slice w D z,.slice x F A,.slice u m t] 36)/\N (a.sa=2->m=r.tree.length):=⟨_,_,_,_,_,_,_,_,_,_,_,Z (by rw[o];simpa using aD (aD (aD (aD (aD a4.1 6 _) 7 _) 8 _) 9 _) 10 _),Z (λU=>(b9.1 U).elim)⟩;clear o a0 a1 a2 a3 X b4 a5 a4 c1
  case' neg=>
   have f7:(a.sa==1)=δ:=sU V;by_cases a7:a.sa=2
   case' pos=>
    have c4:(a.sa==2)=γ:=sU a7;have c0:=dh (Q.1 p rF);have f5:=PD (Q.1 p rF);clear V a7;go_wp2_with fail;refine sg (Kr a.eY r.tree _ p ((b7.fr (a9.step G)).tr) g3 g0) ?_;rintro f8 g7 ⟨u,t,rfl,-,K⟩;clear c0 f5;have g:=K.hs d.1;have a0:=Bl g;have a1:=Ep g;have a2:=Tg g;have a3:=oc9 g;have X:=IS g;have b4:=λW=>aG g W;have a4:=Z g;have a5:=(G.step K);clear g K;unfold cev;go_upto_region 7 with fail;refine cT (λv o=> ?_);have b0:Fr j b v:=(by rw[o];exact pg (pg (pg (pg (pg a5 s) s) s) s) s);obtain⟨C,y,w,D,z,x,F,A,u,m,t,b5,b8⟩:∃(C:T)(y:κ)(w:ι Addr)(D z:E)(x:ι Addr)(F A:E)(u:ι Addr)(m t:E),N (aY v P #[I a.sa,aI,aI,I a.vu,I a.pk,I a6,I C,.bool y,.slice w D z,.slice x F A,.slice u m t] 36)/\N (a.sa=2->m=r.tree.length):=⟨_,_,_,_,_,_,_,_,_,_,_,Z (by rw[o];simpa using aD (aD (aD (aD (aD a4.1 6 _) 7 _) 8 _) 9 _) 10 _),Z (λ_=>Y)⟩;clear o a0 a1 a2 a3 X b4 a5 a4 c1
   case' neg=>
    have c4:(a.sa==2)=δ:=sU a7;have b9:N (a.sa=2->False):=Z (λU=>a7 U);clear V a7;go_upto_region 7 with fail;obtain⟨v,o⟩:=M p;have b0:Fr j b v:=(o▸G);obtain⟨C,y,w,D,z,x,F,A,u,m,t,b5,b8⟩:∃(C:T)(y:κ)(w:ι Addr)(D z:E)(x:ι Addr)(F A:E)(u:ι Addr)(m t:E),N (aY v P #[I a.sa,aI,aI,I a.vu,I a.pk,I a6,I C,.bool y,.slice w D z,.slice x F A,.slice u m t] 36)/\N (a.sa=2->m=r.tree.length):=⟨_,_,_,_,_,_,_,_,_,_,_,Z (by rw[o];exact d.1),Z (λU=>(b9.1 U).elim)⟩;rw[<-o];clear o c1
  all_goals
   have k:=f2.1 v b0;have n:=b5.1;have e1:=bx k;have e2:=dh k;have e3:=iU k;have e4:=iT k;have e5:=xW k;have e6:=BY k;have a0:=Bl k;have a1:=Ep k;have a2:=Tg k;have a3:=oc9 k;have X:=IS k;have d0:=bx n;have d1:=dh n;have d3:=iU n;have d4:=iT n;have d5:=xW n;have d6:=BY n;have d7:=Bl n;have d8:=Ep n;have d9:=Tg n;have e0:=oc9 n;have d2:=IS n;have b4:=λW=>aG k W;have e9:=Z k;clear k n;go_wp2_with fail;exact aO (wL Y (CJ e9.1 _ _ _ _ _ _ _ _ _ _ _) Y) Y ⟨_,_,_,_,_,_,_,_,_,_,_,(m,t),Y,b8.1,(a9.step b0).keep (YZ v (e+1) _ _ _ _ _ _ _ _ _ _ _) (λW f6=>by subst f6;have:=f1.1;omega)⟩
theorem Pa:(prog.info? 24).map (·.size)=S 5:=kR
theorem Ud(c:ε):dr 8 #[] c (.agg #[I 2147483647,I 2147483647,I 2147483647,I 2147483647,I 2147483647]):=by
 delta dr aQ;go_in
 go_upto_region 1 with fail;refine cT (λa b=> ?_);obtain⟨q,a⟩:=M c.heap.size;rw[<-a];have d:=cY b;have f:=dL b a;have e:c.heap.size<=q:=O;clear b a;go_wp2_with (refine aU Y 24 (.tmp 0) (.tmp 2) Y Y Y f.1 Y Pa oC ?_;intro b b a);refine aO (bO Y _ _ _ q 24 _ (0,0) _ Y b Y underlying24 Pa) Y ⟨Y,d.keep a (λb a=>a▸e)⟩
def ZX(a:T×T):L ζ:=[I a.1,I a.2]
def CP2:ε->L ζ->T×T->Prop:=Pl ZX
theorem WZ:dU (λ_=>False) CP2:=Pl.aJ ZX _
theorem acB:dK prog 79 83 2 16:=dK.of underlying79 (z:=.agg #[aI,aI]) kR Y J
def RGR(f:ε)(e:Ending)(a:ε):Prop:=∃b c d,e=.returned (.tuple #[b,I d])/\Sl 83 2 CP2 a b c/\c.length<=100000/\Fr j f a
theorem PR(a c)(C:a.size<=100000):aQ 18 #[.string a] c (RGR c):=by
 have g:∀(d:T)(b:ε),Fr j c b->RGR c (.returned (.tuple #[aV,I d])) b:=λb e d=>⟨_,[],b,Y,dJ,sI,d⟩;by_cases C:a.size % 2=0;rotate_left
 .have b:((a.size:T) % 2 !=0)=γ:=sO
  delta aQ;go_in
  go_wp2;go_ret2;exact g _ _ rF
 have C:((a.size:T) % 2 !=0)=δ:=sO
 delta aQ;go_in
 go_wp
 .go_ret2
  exact g _ _ rF
 go_loopg [4,5] a.size (λgk s4 s5 wr=>∃(b d:E)(e:ι Addr)(f:E)(h:L (T×T))(i:L (L ζ)),b+gk=a.size/\b % 2=0/\s5=I b/\d<=b/\s4=.slice e d f/\cC c.heap.size 83 2 CP2 wr (.slice e d f) h i/\h.length=d/\Fr j c wr)
 .exact⟨0,0,_,_,[],[],du,Y,Y,eG,Y,qG,Y,rF⟩
 case round=>
  obtain⟨b,p,A,B,K,z,HI,o,rfl,G,rfl,n,HN,m⟩:=hrel;by_cases c:b<a.size
  .have c:b+1<a.size:=oB o
   have c:(0:T)<=(b:T):=jD;have c:(b:T)<a.size:=O;have c:(b:T)+1<a.size:=O;have c:(0:T)<=(b:T)+1:=O;have c:((b:T)+1).toNat=b+1:=O;obtain⟨x,D⟩:∃c:μ,a[b]=c:=⟨_,Y⟩;obtain⟨y,F⟩:∃c:μ,a[b+1]=c:=⟨_,Y⟩;go_wp2;go_region;(refine Xk (λa c=> ?_);obtain⟨q,e⟩:=M wr.heap.size;rw[<-e];generalize u:wrap64 (x.toNat:T)=h at c |-;generalize v:wrap64 (y.toNat:T)=i at c |-;have d:Fr j wr a:=by rw[c];exact cZ.drew);have o:∀f,Fr j a f->aY f q #[I h,I i] 83:=λk f=>f.hs (by rw[c];exact bM e);have r:=(m.step d);have s:=(n.fr WZ d);have k:=λf(l:Fr j a f)=>bx (o f l);have l:=λf(t:Fr j a f)=>dh (o f t);clear c e u v d;have c:=k a rF;have a:=l a rF;(go_wp);clear c a;refine sg (ML _ _ _) ?_;rintro a e ⟨⟨u,rfl⟩,d⟩;have f:=(r.step d);have t:=(s.fr WZ d);have v:=k e d;have w:=l e d;clear d k l;cases u
   .go_wp2
    go_ret2;exact g _ _ f
   go_wp2_with (at_builtin;refine stop ?_);have a:Fr j e (e.alloc (.cells #[I h,I i] 83)):=cZ;refine aZ.go ?_;refine bH Y (.tmp 35) (.tmp 37) Y acB p HN Y (t.fr WZ a) WZ id (h,i) Y Y (eF.block (bM Y) oC) (λ_ _=>Y) O mL (bX f.size a.size) ?_;intro e g h k c _ _;have d:=(c.fr eG (f.step a));clear c a v w;go_wp2;go_roundg (gk-2)
   .exact⟨b+2,p+1,e,g,_,_,O,O,by go_num,O,Y,k,by simp[HN],d⟩
   omega
  go_wp2;go_ret2;exact⟨_,_,_,Y,n.read,by rw[HN];omega,m⟩
theorem Hf(d o e)(n:d.size<=100000):aQ 10 #[.string d,I o] e (BA e):=by
 delta aQ;go_in
 go_wp2_with fail;refine sg (PR d e n) ?_;rintro e r ⟨n,k,d,rfl,⟨s,l,p,t,rfl,c,h,g⟩,m,f⟩;obtain⟨b,a⟩:=M k.length;rw[<-a] at m |-;have HN:=Z a;clear a c h;go_wp2_with fail
 .go_ret
  exact⟨⟨_,Y⟩,f⟩
 go_loopg [7,8] b (λgk s7 s8 wr=>∃(a:E)(c:T),a+gk=b/\s8=I a/\s7=I c/\wr=r)
 .exact⟨0,0,du,Y,Y,Y⟩
 case round=>
  obtain⟨a,v,c,rfl,rfl,rfl⟩:=hrel;have HI:=Z c;clear c;by_cases d:a<b
  .obtain⟨i,c⟩:=gE k a fU
   obtain rfl:=g.addr c;obtain⟨u,-,rfl,h⟩:=g.2 a i c;have d:wr.cell? (H l (p+a*2+1))=S (I i.2):=h 1 _ Y;have⟨b,d⟩:=dy a b;clear c h;go_wp2;go_roundg (gk-1)
   .exact⟨a+1,_,oB HI.1,by go_num,Y,Y⟩
   have:=HI.1;omega
  go_wp2;go_ret;exact⟨⟨_,Y⟩,f⟩
theorem fF.it(a:fF 3 1 CI W A m q e)(c:e[n1]? =S i1):W.cell? (H m (q+n1))=S (I i1):=by
 obtain⟨d,-,rfl,b⟩:=a.2 n1 i1 c;simpa using b 0 _ Y
theorem Dp(e:Tn)(t s:ζ)(a:T)(g:ε)(o:Sl 3 1 CI g t e.w):aQ 17 #[.agg #[I e.s,t,s],I a] g (BR (e.w.contains a) g):=by
 obtain⟨z,f,e⟩:=e;simp only at o |-;obtain⟨v,A,B,w,rfl,x,y,i⟩:=o;generalize e:f.length=c at x |-;unfold maxLen at y;generalize p:f.contains a=m
 delta aQ;go_in
 go_wp2_with fail;refine cT (λe d=> ?_);obtain⟨q,b⟩:=M g.heap.size;try rw[<-b]
 have h:=cY d;have g:=dh (show aY e q #[I z,.slice v c w,s] 77 by rw[d];exact bM b);have n:=(i.f h);clear d b i;go_loopg [5] c (λgk s5 wr=>∃b:E,b+gk=c/\s5=I b/\wr=e/\∀d e,d<b->f[d]? =S e->e≠a)
 .exact⟨0,du,Y,Y,λd e b=>by omega⟩
 case round=>
  obtain⟨b,HI,rfl,rfl,l⟩:=hrel;by_cases e:b<c
  .obtain⟨u,d⟩:=gE f b O
   obtain rfl:=n.addr d;have e:=n.it d;have⟨c,e⟩:=dy b c;by_cases i:u=a
   .subst i
    (have q:m=γ:=by rw[<-p,jW];exact bQ d);subst q;go_wp2;go_ret;exact⟨Y,h⟩
   have q:(u==a)=δ:=sU i;go_wp2;go_roundg (gk-1)
   .exact⟨b+1,O,by go_num,Y,λk e c r=>by
    rcases dP k b with c|c
    .exact l k e c r
    obtain rfl:k=b:=O;cases d.symm.trans r
    exact i⟩
   omega
  have q:m=δ:=by
   rw[<-p,κ.eq_false_iff];intro b;obtain⟨c,b⟩:=kc (jW.1 b);exact l c a (oB ((cj.1 b).1)) b Y
  subst q;go_wp2;go_ret;exact⟨Y,h⟩
theorem Sw(e:Hs)(i:ζ)(r:T)(d:ε)(p:eJ d i e):aQ 16 #[i,I r] d (BA d):=by
 obtain⟨D,rfl,l,t,A,m,rfl,n,o,h⟩:=p;generalize i:e.length=a at n |-;unfold maxLen at o
 delta aQ;go_in
 go_upto_region 1 with fail;refine cT (λk f=> ?_);obtain⟨q,c⟩:=M d.heap.size;try rw[<-c]
 have b:=cY f;have d:=bx (show aY k q #[.slice l a m] 54 by rw[f];exact bM c);have g:=(h.f b);clear f c h;go_wp2_with fail
 .go_ret
  exact⟨⟨_,Y⟩,b⟩
 go_loopg [5] a (λgk s5 wr=>∃c:E,c+gk=a/\s5=I c/\wr=k)
 .exact⟨0,du,Y,Y⟩
 case round=>
  obtain⟨c,HI,rfl,rfl⟩:=hrel;by_cases d:c<a
  .obtain⟨d,f⟩:=gE e c O
   obtain rfl:=g.addr f;obtain⟨G,F,-,y,z,⟨s,v,C,x,rfl,-,-,-⟩,⟨h,u,B,w,rfl,-,-,-⟩⟩:=g.tn f;have⟨a,d⟩:=dy c a;clear f;go_wp2;all_goals first
    |(go_ret;exact⟨⟨_,Y⟩,b⟩)
    |(
     go_roundg (gk-1)
     .exact⟨c+1,O,by go_num,Y⟩)
     omega
  go_wp2;go_ret;exact⟨⟨_,Y⟩,b⟩
def RPR(g:ε)(f:Ending)(a:ε):Prop:=∃c b d e,f=.returned (.tuple #[c,I d,I e])/\eJ a c b/\b.length<=100000/\Fr j g a
theorem Jp(F:ν)(b0 b1:T)(k:ε)(a4:aQ 15 #[.string F] k (RPR k)):aQ 9 #[.string F,I b0,I b1] k (BA k):=by
 delta aQ;go_in
 go_wp2_with fail;refine aZ.go (a4.mono ?_);rintro a4 b2 ⟨b0,f,k,F,rfl,A,a5,K⟩;have t:=A;obtain⟨c6,rfl,b4,b7,c3,c0,rfl,a2,a3,U⟩:=A;generalize k:f.length=e at a2 a5 t |-;unfold maxLen at a3;go_upto_region 2 with fail;refine cT (λa d=> ?_);obtain⟨q,b⟩:=M b2.heap.size;try rw[<-b]
 have a:=cY d;have v:=dL d b;have r:=(K.step a);have Q:=(t.fr a);have V:=(U.f a);clear d b a;have b:=bx v.1;go_wp2_with fail
 .go_ret
  exact⟨⟨_,Y⟩,r⟩
 refine sg (Sw f _ _ _ Q) ?_;rintro k p ⟨⟨t,rfl⟩,a⟩;have P:=(r.step a);have m:=(V.f a);have u:=(a.hs v.1);clear a b;go_wp2_with fail;go_loopg [11,12,13,14] e (λgk s11 s12 s13 s14 wr=>∃(a:E)(b:T),a+gk=e/\s12=I a/\s11=I b/\Fr j p wr)
 .exact⟨0,0,du,Y,Y,rF⟩
 case round=>
  obtain⟨a,a8,HI,rfl,rfl,l⟩:=hrel;have k:=bx (l.hs u);by_cases k:a<e
  .have k:(0:T)<=(a:T):=jD
   have k:(a:T)<e:=O;obtain⟨a0,rfl⟩:=M gk;obtain⟨h,C⟩:∃b,f[a]? =S b:=⟨_,cF O⟩;obtain rfl:=m.addr C;obtain⟨r,k⟩:=M wr;go_wp2_with fail;go_loopg [11,13,14] a (λgk s11 s13 s14 wr=>∃(b:E)(c:T),b+gk=a/\s13=I b/\s11=I c/\Fr j p wr)
   .exact⟨0,a8,du,Y,Y,l⟩
   case round=>
    obtain⟨b,D,HJ,rfl,rfl,s⟩:=hrel;by_cases k:b<a
    .have k:(0:T)<=(b:T):=jD
     have k:(b:T)<a:=O;have e:(b:T)<e:=O;obtain⟨a1,rfl⟩:=M gk;obtain⟨i,R⟩:∃c,f[b]? =S c:=⟨_,cF O⟩;go_wp2_with fail;go_loopg [11,14] h.w.length (λgk s11 s14 wr=>∃(c:E)(e:T),c+gk=h.w.length/\s14=I c/\s11=I e/\Fr j p wr)
     .exact⟨0,D,du,Y,Y,s⟩
     case round=>
      obtain⟨g,a9,HL,rfl,rfl,c⟩:=hrel;have w:=bx (c.hs u);obtain⟨f,e,W,n,X,a6,-⟩:=(m.f c).tn C;obtain⟨f,e,x,y,z,B,-⟩:=(m.f c).tn R;obtain⟨b6,b9,c5,c2,rfl,a7,d,SW⟩:=a6;obtain⟨b5,b8,c4,c1,rfl,-,-,-⟩:=id B;obtain⟨G,HTN⟩:=M h.w.length;obtain⟨f,e⟩:=M i.w.length;rw[<-HTN] at n HL a7;unfold maxLen at d;clear e;by_cases d:g<G
      .obtain⟨b3,o⟩:=gE h.w g O
       obtain rfl:=SW.addr o;have e:=SW.it o;have⟨d,f⟩:=dy g G;obtain⟨d,h⟩:=M i.w.length;clear o;have k:=aX.cell w;have m:=aX.cell n;have p:=aX.cell e;have r:=aX.cell x;have t:=aX.cell y;have u:=aX.cell z;have d:=λd:aX wr=>B.f d.fr;go_wp2_with fail;clear w W n X e x y z;refine bj kR kR ?_;(repeat(go_big_quiet_step ((first|(go_at_call 17;exact aX.call _ (Dp i _ _ _ _ (d _)))))));refine wpQuiet_nil ?_;intro e hw;have e:=bI hw;clear hw;have n:=(c.step e);generalize f:i.w.contains b3=o;clear f e k m p r t u d h;cases o
       all_goals
        go_wp2;go_roundg (gk-1)
        .exact⟨g+1,_,oB HL,by go_num,Y,n⟩
        omega
      go_wp2;go_roundg (a1-1)
      .exact⟨b+1,a9,O,by go_num,Y,c⟩
      omega
    go_wp2;go_roundg (a0-1)
    .exact⟨a+1,D,O,by go_num,Y,s⟩
    omega
  go_wp2;all_goals(go_ret;exact⟨⟨_,Y⟩,P.step l⟩)
theorem acp:dK prog 161 9 1 16:=dK.of underlying161 (z:=.string ⟨#[]⟩) kR Y J
def YB(b:E)(a:L (L μ)):Prop:=a.length<=b/\∀b∈a,b.length<=100000
theorem YB.nil(a:E):YB a []:=⟨nG,sI⟩
theorem YB.push{c:L (L μ)}(b:YB m c)(d:u.length<=100000):YB (m+1) (c++[u]):=
 ⟨by have:=b.1;simp;omega,λe c=>(cB.1 c).elim (b.2 e) (λa=>by simp at a;subst a;exact d)⟩
def RSR(f g:E)(h:ε)(e:Ending)(b:ε):Prop:=∃d a c,e=.returned (.tuple #[d,I c])/\Sl 9 1 CS b d a/\YB g a/\(c=0->f<=a.length)/\Fr j h b
theorem Lq(a:ν)(b c:E):(a.extract b c).data.toList.length<=a.size:=by
 have:(a.extract b c).size<=a.size:=by rw[ν.size_extract];omega
 rw[nY];exact this
theorem Ga(a:ν)(e:ε)(s:a.size<=100000):Calls prog 57 #[.string a] e (RSR 0 400 e):=by
 have k:∀(c:T)(b:ε),Fr j e b->RSR 0 400 e (.returned (.tuple #[aV,I c])) b:=λb d c=>⟨_,[],b,Y,dJ,.nil _,λ_=>nG,c⟩;have HS:=s;have m:(a.size=0/\decide (a.size=0)=γ)\/∃(b:μ)(c:a.size-1<a.size),a[a.size-1]=b/\(0:T)<=(a.size:T)-1/\(a.size:T)-1<a.size/\(0:T)<a.size/\0<a.size/\((a.size:T)-1).toNat=a.size-1:=by
  by_cases b:a.size=0
  .exact .inl ⟨b,by simp[b]⟩
  exact .inr ⟨_,O,Y,O,O,O,O,O⟩
 rcases m with⟨w,s⟩|⟨m,A,v,B,C,D,F,G⟩;all_goals(go_enter func57,ntmps57;go_wp2_with fail)
 any_goals(go_ret2;exact k _ _ rF)
 all_goals try simp only[‹((m.toNat:T) !=10)=δ›]
 all_goals
  go_loopg [4,5,6] a.size (λgk s4 s5 s6 wr=>∃(b h c:E)(f:ι Addr)(g:E)(d:L (L μ))(i:L (L ζ)),b+gk=a.size/\s6=I b/\s5=I h/\h<=b/\c<=b/\s4=.slice f c g/\cC e.heap.size 9 1 CS wr (.slice f c g) d i/\d.length=c/\YB b d/\Fr j e wr)
  .exact⟨0,0,0,_,_,[],[],du,Y,Y,eG,eG,Y,qG,Y,.nil _,rF⟩
  case round=>
   obtain⟨b,d,c,r,t,l,o,HI,rfl,rfl,y,z,rfl,i,HN,h,f⟩:=hrel;by_cases e:b<a.size
   .have e:(0:T)<=(b:T):=jD
    have e:(b:T)<a.size:=O;have e:(d:T)<=(b:T):=O;have e:(0:T)<=(d:T):=O;obtain⟨u,x⟩:∃e:μ,a[b]=e:=⟨_,Y⟩;go_wp2_with (at_builtin;refine stop ?_);all_goals first
    |(
     have g:Fr j wr (wr.alloc (.cells #[.string (a.extract d b)] 9)):=cZ;refine aZ.go ?_;refine bH Y (.tmp 28) (.tmp 33) Y acp c HN Y (i.f g) CSs id (a.extract d b).data.toList Y Y (eF.block (bM Y) oC) (λ_ _=>⟨_,Y,Y⟩) O mL (bX f.size g.size) ?_;intro m s u p e _ _;have n:=(e.fr eG (f.step g));clear e g;go_wp2;go_roundg (gk-1)
     .exact⟨b+1,b+1,c+1,m,s,_,_,O,by go_num,by go_num,eG,O,Y,p,by simp[HN],h.push (bX (Lq a d b) HS),n⟩)
     omega
    |(
     go_roundg (gk-1)
     .exact⟨b+1,d,c,r,t,l,o,O,by go_num,Y,O,O,Y,i,HN,⟨kY h.1,h.2⟩,f⟩)
     omega
   have g:∀d,c<=d->YB d l:=λe d=>⟨by rw[HN];exact d,h.2⟩;obtain rfl:b=a.size:=O;by_cases a:400<c
   .have a:(400:T)<(c:T):=O
    go_wp2;go_ret2;exact k _ _ f
   have a:¬(400:T)<(c:T):=O;go_wp2;go_ret2;exact⟨_,_,_,Y,HN▸i.read,g _ O,λ_=>nG,f⟩
theorem Gx(a:ν)(d:ε)(x:a.size<=100000):Calls prog 92 #[.string a] d (RSR 1 8 d):=by
 have l:∀(c:T)(b:ε),c≠0->Fr j d b->RSR 1 8 d (.returned (.tuple #[aV,I c])) b:=λb f e c=>⟨_,[],b,Y,dJ,.nil _,λb=>absurd b e,c⟩;have HS:=x;go_in
 go_wp2_with fail;go_loopg [4,5,6] (a.size+1) (λgk s4 s5 s6 wr=>∃(c b:E)(f:ι Addr)(g:E)(e:L (L μ))(h:L (L ζ)),c+gk=a.size+1/\s5=I c/\c<=a.size/\b<=c/\s4=.slice f b g/\cC d.heap.size 9 1 CS wr (.slice f b g) e h/\e.length=b/\YB b e/\Fr j d wr)
 .exact⟨0,0,_,_,[],[],du,Y,nG,eG,Y,qG,Y,.nil _,rF⟩
 case round=>
  obtain⟨c,e,A,B,y,z,HI,rfl,F,K,rfl,r,HN,t,n⟩:=hrel;go_upto_block 2 with fail;go_cut [6] (λs6 i=>∃b:E,s6=I b/\c<=b/\b<=a.size/\Fr j d i/\Fr j wr i)
  .go_wp2_with fail
   obtain⟨o,rfl⟩:=M gk;go_loopg [6] (a.size-c) (λgk d i=>∃b:E,b+gk=a.size/\d=I b/\c<=b/\Fr j wr i)
   .exact⟨c,O,Y,eG,rF⟩
   case round=>
    obtain⟨b,HT,rfl,g,f⟩:=hrel;have h:b<=a.size:=O;by_cases d:b<a.size
    .have d:(0:T)<=(b:T):=jD
     have d:(b:T)<a.size:=O;obtain⟨k,p⟩:∃d:μ,a[b]=d:=⟨_,Y⟩;go_wp2_with (go_at_call 145;refine(Nu _ _).mono ?_;rintro d i ⟨rfl,m⟩)
     .go_roundg (gk-1)
      .exact⟨b+1,O,by go_num,O,f.step m⟩
      omega
     go_meet;exact⟨b,Y,g,h,n.step (f.step m),f.step m⟩
    go_wp2;go_meet;exact⟨b,Y,g,h,n.step f,f⟩
  case' rest=>
   obtain⟨b,rfl,G,P,k,f⟩:=hcut;have s:=(r.f f);clear f;have d:(0:T)<=(c:T):=jD;have d:(c:T)<=(b:T):=O;have d:(b:T)<=a.size:=O;by_cases w:b=c
   .subst w
    go_wp2;go_ret2;exact l _ _ J k
   have d:((b:T)==(c:T))=δ:=sO;go_wp2_with (at_builtin;refine stop ?_);have f:Fr j wc (wc.alloc (.cells #[.string (a.extract c b)] 9)):=cZ;refine aZ.go ?_;refine bH Y (.tmp 23) (.tmp 28) Y acp e HN Y (s.f f) CSs id (a.extract c b).data.toList Y Y (eF.block (bM Y) oC) (λ_ _=>⟨_,Y,Y⟩) O mL (bX k.size f.size) ?_;intro u v i o d _ _;have g:=(d.fr eG (k.step f));have h:(y++[(a.extract c b).data.toList]).length=e+1:=(by simp[HN]);have p:=(t.push (bX (Lq a c b) HS));clear d f;by_cases f:b=a.size
   .subst f
    by_cases d:8<e+1
    .have d:(8:T)<((e+1:E):T):=O
     go_wp2;go_ret2;exact l _ _ J g
    have d:¬(8:T)<((e+1:E):T):=O;go_wp2;go_ret2;exact⟨_,_,_,Y,h▸o.read,⟨by rw[h];omega,p.2⟩,λ_=>by rw[h];omega,g⟩
   have d:((b:T)==(a.size:T))=δ:=sO;have d:(b:T)<a.size:=O;have d:b<a.size:=O;have d:(0:T)<=(b:T):=O;obtain⟨C,D⟩:∃d:μ,a[b]=d:=⟨_,Y⟩;go_wp2
   .go_ret2
    exact l _ _ J g
   go_roundg (gk-(b+1-c))
   .exact⟨b+1,e+1,u,v,_,_,O,by go_num,O,O,Y,o,h,p,g⟩
   omega
def EQ(h:ε)(f:Ending)(a:ε):Prop:=∃b c d e g,f=.returned (.tuple #[.agg #[I b,I c,I d,I e],I g])/\Fr j h a
theorem abt:(prog.info? 165).map (·.size)=S 4:=kR
theorem wI{c:Func}(g:c.results=#[.cell 2 165,.tmp 3]){b:θ ζ}{a:θ ζ}(f:b[2]?.getD undef=aP m 0)(e:b[3]?.getD undef=I i1)(d:aY W m a 165)(h:a.size=4):
  (results c b).run prog W=.ok (.tuple #[.agg a,I i1]) W:=by
 simp[results,g,f,e,asAddr,fQ d Y underlying165 (by rw[h];exact abt),Result.andThen]
theorem Sr(u:ν)(p:ε)(a9:u.size<=100000):aQ 58 #[.string u] p (EQ p):=by
 delta aQ;go_in
 go_upto_region 1 with fail;refine cT (λm b=> ?_);obtain⟨h,a⟩:=M p.heap.size;rw[<-a];have G:=cY b;have f:=yY b a;have i:N (∀(c:ε)(d e g k:ζ),Fr j m c->Fr j p (gN c h d e g k)):=Z λc g k l n e=>(G.step e).keep (bC c h _ _ _ _) (λc d=>by subst d;omega);clear b a;go_wp2_with fail;refine sg (Gx u m a9) ?_;rintro p v ⟨u,r,z,rfl,b1,y,e,o⟩;have Q:=Z e;obtain⟨b5,w,D,b6,rfl,k,b7,s⟩:=b1;obtain⟨b,c⟩:=M r.length;rw[<-c];have HN:=Z c;have b3:b<=8:=oB y.1;have n:N (∀(a:ε),Fr j m a->(∀d,d<4->a.cell? (H h d)=S aI)/\∀d,a.frozen? (H h d)=δ):=Z λa d=>⟨λg l=>by rw[aj (f.1 a d) g];match g,l with|0,_=>rfl|1,_=>rfl|2,_=>rfl|3,_=>rfl,λg=>aG (f.1 a d) g⟩;clear e k c;by_cases C:z=0;rotate_left
 .have a:(z !=0)=γ:=sU C
  obtain⟨a,c⟩:=n.1 v o;have c:=a 0 J;have c:=a 1 J;have c:=a 2 J;have c:=a 3 J;clear a;go_wp2;exact aO (wI Y Y Y (bP (f.1 _ o) _ _ _ _) Y) Y ⟨_,_,_,_,_,Y,i.1 _ _ _ _ _ o⟩
 subst C;have p:=Q.1 Y;rw[<-HN.1] at p;obtain⟨p,a⟩:∃c,r[0]? =S c:=⟨_,cF fU⟩;obtain rfl:=s.addr a;have K:=Z a;clear a;have p:(0:T)<(b:T):=O;go_upto_block 0 with fail;go_cut [6] (λs6 c=>∃a:T,s6=I a/\Fr j v c)
 .go_wp2_with fail
  go_loopg [6,7] 5 (λgk s6 s7 c=>∃(a:E)(d:T),a+gk=5/\s7=I a/\s6=I d/\Fr j v c)
  .exact⟨0, -1,Y,Y,Y,rF⟩
  case round=>
   obtain⟨a,t,g,rfl,rfl,d⟩:=hrel;have HJ:=Z g;obtain⟨k,e,-⟩:=(s.f d).str K.1;rw[fI] at e;have p:a<=5:=O;clear g;by_cases p:a<5
   .have p:(a:T)<5:=O
    go_wp2_with fail;refine sg (Rc _ _) ?_;rintro t u ⟨⟨p,rfl⟩,g⟩;have l:=(d.step g);have p:=g.aF e id;clear e g;go_wp2;all_goals
     go_roundg (gk-1)
     .exact⟨a+1,_,oB HJ.1,by go_num,Y,l⟩
     have:=HJ.1;omega
   have a:¬(a:T)<5:=O;go_wp2;go_meet;exact⟨_,Y,d⟩
 case' rest=>
  obtain⟨b9,rfl,a⟩:=hcut;have l:=(o.step a);have V:=(s.f a);clear a;have o:=(show b<=8 from b3);go_upto_region 12 with fail;go_cut [6,40] (λs6 s40 c=>∃(d:T)(a:κ),s6=I d/\s40=.bool a/\c=wc)
  .go_wp2
   all_goals(go_meet;exact⟨_,_,Y,Y,Y⟩)
  case' rest=>
   obtain⟨c0,a0,rfl,rfl,hw⟩:=hcut;obtain⟨b4,a⟩:=M wc;rw[<-a] at hw |-;subst hw;clear a;cases a0
   all_goals
    go_upto_region 14 with fail;go_cut [6,48] (λs6 s48 c=>∃(d:T)(a:κ),s6=I d/\s48=.bool a/\(a=δ->b<=4)/\c=b4)
   case' first|first=>
    go_wp2;all_goals(go_meet;exact⟨_,_,Y,Y,λa=>by first|(simp at a;done)|(simp at a;omega),Y⟩)
   case' rest|rest=>
    obtain⟨b2,a1,rfl,rfl,d,hw⟩:=hcut;obtain⟨F,a⟩:=M wc;rw[<-a] at hw |-;subst hw;clear a;cases a1
    rotate_left
    .obtain⟨a,e⟩:=n.1 F l
     have e:=a 0 J;have e:=a 1 J;have e:=a 2 J;have e:=a 3 J;clear a;go_wp2;exact aO (wI Y Y Y (bP (f.1 _ l) _ _ _ _) Y) Y ⟨_,_,_,_,_,Y,i.1 _ _ _ _ _ l⟩
    have o:=d Y;clear d;go_wp2_with fail;refine cT (λa e=> ?_);obtain⟨g,d⟩:=M F.heap.size;rw[<-d];have a:=cY e;have U:=dL e d;have X:=(l.step a);have R:m.heap.size<=g:=(oB l.size);have W:=(V.f a);clear e d a;go_loopg [11] (b-1) (λgk s11 c=>∃(a:E)(d e l:T),a+gk=b/\1<=a/\s11=I a/\aY c g #[I d,I e,I l] 3/\fF 9 1 CS c (S (H w D)) w D r/\Fr j m c)
    case' atStart=>exact⟨1,0,0,0,O,eG,Y,U.1,W,X⟩
    case' round=>
     obtain⟨d,a5,a6,ec,a,b8,rfl,t,x,e⟩:=hrel;have⟨HJ,P⟩:=bD a t;have c:d<=b:=O;clear a t;by_cases c:d<b
     .obtain⟨c,a⟩:=gE r d fU
      (obtain⟨k,A,l⟩:=x.str a;have c:k.size<=100000:=by have c:=y.2 c (bQ a);rw[<-l,nY] at c;exact c);have c:(0:T)<=(d:T):=O;have c:(d:T)<b:=O;clear a l;go_wp2_with fail;refine sg (Num.Hb k _ O) ?_;rintro c l ⟨rfl,rfl⟩;obtain⟨c,a⟩:=M (Num.JH k.data.toList);obtain⟨t,k⟩:=M (Num.Ko k.data.toList);rw[<-a,<-k];clear a k A;by_cases B:c=0;rotate_left
      .have a:(c !=0)=γ:=sU B
       obtain⟨a,c⟩:=n.1 wr e;have c:=a 0 J;have c:=a 1 J;have c:=a 2 J;have c:=a 3 J;clear a;go_wp2;exact aO (wI Y Y Y (bP (f.1 _ e) _ _ _ _) Y) Y ⟨_,_,_,_,_,Y,i.1 _ _ _ _ _ e⟩
      subst B;obtain⟨a,rfl⟩:∃c,d=c+1:=⟨d-1,O⟩;have a2:∃c:T,wr.cell? (H g a)=S (I c):=by
       rw[aj P.1 a]
       match a,(show a<3 by omega) with
       |0,_=>exact⟨_,Y⟩
       |1,_=>exact⟨_,Y⟩
       |2,_=>exact⟨_,Y⟩
      obtain⟨k,c⟩:=a2;have c:=aG P.1 a;have c:((a+1:E):T)-1=(a:T):=O;have c:(0:T)<=(a:T):=O;have c:(a:T)<3:=O;rw[show((a+1:E):T)=(a:T)+1 by omega];go_wp2;go_roundg (gk-1)
      .have m:=aD P.1 a (I t)
       have a8:∃c k l:T,(wr.setCell (H g a) (I t)).heap[g]? =S (.cells #[I c,I k,I l] 3 (0,0)):=by
        rw[m]
        match a,(show a<3 by omega) with
        |0,_=>exact⟨_,_,_,Y⟩
        |1,_=>exact⟨_,_,_,Y⟩
        |2,_=>exact⟨_,_,_,Y⟩
       obtain⟨c,k,l,m⟩:=a8;have A:bT g wr (wr.setCell (H g a) (I t)):=rF.aK _ _;exact⟨a+2,c,k,l,oB HJ.1,O,by go_num,m,x.aJ CSs A (λc a b0 a7 a3=>by subst a3;exact a7.ne ⟨_,_,P.1⟩ (λa4=>by subst a4;exact b0.elim J id) Y),e.keep A (λc a=>a▸R)⟩
      have:=HJ.1;omega
     obtain⟨a,a4⟩:=M b;obtain rfl:d=b:=O;obtain⟨a,a3⟩:=n.1 wr e;have t:=a 0 J;have A:=a 1 J;have B:=a 2 J;have a2:=a 3 J;obtain⟨a7,a8,b0,-⟩:=mD P.1;have b:¬(d:T)<(d:T):=O;clear a a4;go_wp2_with fail;(any_goals exact aO (wI Y Y Y (bP (f.1 _ e) _ _ _ _) Y) Y ⟨_,_,_,_,_,Y,i.1 _ _ _ _ _ e⟩);(all_goals go_region);all_goals
      clear t A B a2 a7 a8 b0 a3;go_wp2;exact aO (wI Y Y Y (show(gN wr h (I b2) (I a5) (I a6) (I ec)).drew.heap[h]? =_ from bP (f.1 _ e) _ _ _ _) Y) Y ⟨_,_,_,_,_,Y,(i.1 _ _ _ _ _ e).drew⟩
def RDP(g:ε)(f:Ending)(a:ε):Prop:=∃c b d e,f=.returned (.tuple #[c,I d,I e])/\RE a c b/\b.length<=400/\Fr j g a
theorem Ph(k:ν)(c:ε)(P:k.size<=100000):aQ 36 #[.string k] c (RDP c):=by
 have m:N (∀(b d:T)(a:ε),Fr j c a->RDP c (.returned (.tuple #[aV,I b,I d])) a):=Z λa b e d=>⟨_,[],a,b,Y,RE.nil _,sI,d⟩
 delta aQ;go_in
 go_wp2_with fail;refine sg (Ga k c P) ?_;rintro c l ⟨k,C,r,rfl,⟨V,X,a5,a1,rfl,a2,a3,p⟩,B,-,e⟩;obtain⟨b,a⟩:=M C.length;rw[<-a];have HN:=Z a;have Q:b<=400:=oB B.1;clear a;by_cases A:r=0;rotate_left
 .have a:(r !=0)=γ:=sU A
  go_wp2;go_ret3
  exact m.1 _ _ _ e
 subst A;go_wp2_with fail;go_loopg [7,8] b (λgk s7 s8 wr=>∃(a:E)(c:ι Addr)(d:E)(f:L Ev),a+gk=b/\s8=I a/\s7=.slice c a d/\f.length=a/\wr.ownsRow l.heap.size 165 4 (.slice c a d) a (ec f)/\Fr j l wr)
 .exact⟨0,_,_,[],du,Y,Y,Y,iL _ _ _ _,rF⟩
 case round=>
  obtain⟨a,W,a0,w,a4,rfl,rfl,h,n,d⟩:=hrel;have c:a<=b:=O;by_cases c:a<b
  .obtain⟨U,i⟩:=gE C a fU
   obtain rfl:=p.addr i;obtain⟨c,p,k⟩:=(p.f d).str i;have⟨p,r⟩:=dy a b;go_wp2_with fail;refine sg (Sr c wr (by have c:=B.2 U (bQ i);rw[<-k,nY] at c;exact c)) ?_;rintro c R ⟨t,u,x,v,s,rfl,y⟩;go_upto_region 9 with fail;refine cT (λc g=> ?_);obtain⟨q,c⟩:=M R.heap.size;rw[<-c];have i:=cY g;have F:=dL g c;have f:=((d.step y).step i);have o:=(i.owns (y.owns n (λ_ _ i=>i)) (λ_ _ i=>i));clear g c;by_cases z:s=0;rotate_left
   .have c:(s !=0)=γ:=sU z
    go_wp2;(go_ret3);exact m.1 _ _ _ (e.step f)
   subst z;obtain⟨c,i,k,m,-⟩:=gZ F.1;go_wp2_with (at_builtin;refine stop ?_);refine aZ.go (eD Y (.tmp 38) (.tmp 40) Y JP Y (base:=l.heap.size) (n:=a) (xs:=ec w) (o.alloc _) (m:=1) (news:=ec [⟨t,u,x,v⟩]) Y Y (eF.block (cs:=#[I t,I u,I x,I v]) (bM Y) oC) O mL (bX f.size sI) ?_);intro i k g c _;have D:=((f.alloc _).mW eG (o.alloc _) c);rw[<-Gm] at g;obtain⟨G,K,rfl,-,-⟩:=bB g;go_wp2;go_roundg (gk-1)
   .exact⟨a+1,G,K,_,O,by go_num,Y,by simp[h],g,D⟩
   omega
  obtain rfl:a=b:=O;go_wp2;go_ret3
  exact⟨_,w,_,_,Y,RE.qc h.symm n,by rw[h];exact Q,e.step d⟩
theorem Uk:dK prog 119 124 4 48:=dK.of underlying119 (z:=.agg #[aI,.bool δ,aI,aV]) kR Y J
theorem adE:dK prog 168 4 1 1:=dK.of underlying168 (z:=.bool δ) kR Y J
def bo(a:L κ):L ζ:=a.map .bool
theorem TO.other{c a:TypeId}{e:L (Tx×ζ)}(b:TO W m c x e)(d:W.ownsRow q a n1 v1 n2 Y1)(f:a≠c)(g:a≠165)(a:W.grownBy V v1.ownBlock):TO V m c x e:=
 b.fr (bq a) (λ_ a c=>jA d b.row f c a) (λe f _ c a h=>jA d (b.ops e f c) g h a)
theorem Zr{g:L κ}(c:W.ownsRow m 4 1 x q (bo g)){b:κ}(f:g[n1]? =S b):
  ∃a d,x=.slice (S (H a 0)) q d/\W.cell? (H a n1)=S (.bool b)/\W.frozen? (H a n1)=δ/\m<=a/\∃d,W.heap[a]? =S (.cells d 4 (0,0)):=by
 have k:=c.1;have g:=(cj.1 f).1;rcases c.2 with⟨rfl,n⟩|⟨d,h,l,rfl,i,e,p,o,r,s⟩
 .simp[bo] at k;omega
 have a:=c.cells (g:=d) Y n1 (.bool b) (by simp[bo,f]);rw[eV,de] at a;exact⟨d,h,Y,a,aG e _,i,_,e⟩
def RLR(d:E)(e:ε)(b:Ending)(c:ε):Prop:=∃a:T,b=.returned (I a)/\(a= -1\/∃b:E,b<d/\a=b)/\e=c
theorem Oi(h:ζ)(b:L Tx)(k:T)(d:ε)(i:RT d h b)(a:b.length<=100000):aQ 60 #[h,I k] d (RLR b.length d):=by
 obtain⟨m,n,r,o,rfl,-,-,f⟩:=i;generalize h:b.length=c;have h:c<=100000:=O;clear a
 delta aQ;go_in
 go_wp2_with fail;go_loopg [5] c (λgk a wr=>gk<=c/\a=I ((gk:T)-1)/\wr=d)
 .exact⟨eG,Y,Y⟩
 case round=>
  obtain⟨p,rfl,rfl⟩:=hrel;by_cases g:gk=0
  .subst g
   go_wp2;go_ret;exact⟨_,Y,.inl Y,Y⟩
  obtain⟨a,rfl⟩:∃d,gk=d+1:=⟨gk-1,O⟩;obtain⟨l,e⟩:=gE b a O;obtain rfl:=f.addr e;obtain⟨d,b,-⟩:=f.2 a l e;have b:(((a+1:E):T)-1)=(a:T):=O;rw[b];have⟨c,d⟩:=dy a c;clear e g b;go_wp2
  .go_ret
   exact⟨_,Y,.inr ⟨a,O,Y⟩,Y⟩
  go_roundg a
  .exact⟨O,by go_num,Y⟩
  omega
def RGP(c:E)(h:ε)(g:Ending)(b:ε):Prop:=∃d e f a,g=.returned (.tuple #[d,I e,I f])/\RT b d a/\a.length<=c/\(∀d∈a,d.o.length<=c)/\Fr j h b
theorem Hv(b3:ζ)(a1:L Ev)(F:ε)(r:RE F b3 a1)(h2:a1.length<=100000):Calls prog 37 #[b3] F (RGP a1.length F):=by
 obtain⟨c9,h8,i2,h9,rfl,-,-,U⟩:=r;have d3:=Z U;clear U;generalize f0:a1.length=D;have HN:=Z f0;have b3:D<=100000:=O;obtain⟨h,e1⟩:=M F.heap.size;have x:=Z e1;have a4:N (∀(b c9:T)(b3:ε),Fr j F b3->RGP D F (.returned (.tuple #[.slice η 0 0,.int .i64 b,.int .i64 c9])) b3):=Z λb c9 b3 g3=>⟨_,b,c9,[],Y,RT.nil _,nG,sI,g3⟩;clear f0 h2 e1;go_in
 go_wp2_with fail;go_loopg [5,6,7] D (λgk s5 s6 b3 wr=>∃(e:E)(d:L (Tx×ζ))(i:L κ),e+gk=D/\b3=.int .i64 e/\TO wr h 124 s5 d/\wr.ownsRow h 4 1 s6 d.length (bo i)/\i.length=d.length/\d.length<=e/\(∀b∈d,b.1.o.length<=e)/\Fr j F wr)
 .exact⟨0,[],[],du,Y,TO.nil _ _ _,iL _ _ _ _,Y,eG,sI,rF⟩
 case round=>
  obtain⟨e,d,i,e8,rfl,a0,v,b8,g4,f1,K⟩:=hrel;obtain⟨l,a8⟩:=M d.length;have⟨HK,z,f⟩:=dt e8 f1 a8;have h1:e<=D:=O;have F:l<=e:=O;obtain⟨d4,A,rfl,-,-⟩:=bB a0.row;obtain⟨d5,a7,rfl,-,-⟩:=bB v;rw[<-a8] at a0 v b8;rw[<-a8];have d1:=v;have P:=Z b8;clear e8 v f1 a8 b8 g4;by_cases F:e<D
  .obtain⟨a,c0⟩:=gE a1 e fU
   obtain rfl:=d3.1.addr c0;obtain⟨f9,g0,g1,g2⟩:=(d3.1.j K).2 e a c0;clear c0;have⟨F,a1⟩:=dy e D;go_wp2_with fail;refine sg (AQ a.k a.s a.y a.v _) ?_;rintro D c6 ⟨⟨f7,rfl⟩,b6⟩;obtain⟨a2,F⟩:=M wr.heap.size;have D:=Fr.step ((Fr.refl j wr).alloc _) b6;have v:c6.heap[a2]? =S (.cells #[.int .i64 a.k,.int .i64 a.s,.int .i64 a.y,.int .i64 a.v] 165 (0,0)):=b6.aB (bM F) (λb=>b);rw[<-F];have u:=(K.step D);have o:=(a0.keep D);have t:=(D.owns d1 (λ_ _ b=>b));have OB:=Z v;obtain⟨b4,d7,d8,d9,-⟩:=gZ v;have a1:h<=a2:=gX K.size x.1;clear b6 D v f9 g0 g1 g2 a0 d1 K F;cases f7
   .go_wp2
    (go_ret3);exact a4.1 _ _ _ u
   have v:=o.read;go_wp2_with fail;refine sg (Oi _ _ a.s c6 v (by rw[eo];have:=f.1;omega)) ?_;rintro _ _ ⟨h4,rfl,c4,rfl⟩;rw[eo,<-f.1] at c4;go_upto_region 11 with fail;go_cut [11] (λs11 c7=>∃p:κ,s11=.bool p/\c7=c6/\(p=γ->∃c:E,c<l/\h4=c))
   .rcases c4 with rfl|⟨c,e7,rfl⟩
    .go_wp2
     go_meet;exact⟨δ,Y,Y,λr=>by cases r⟩
    (obtain⟨p,V⟩:=gE i c (oB P.1);obtain⟨m,b5,n,c8,-,-,-⟩:=Zr t V;obtain⟨rfl,rfl⟩:d5=S ⟨m,0,η⟩/\a7=b5:=by simp at n;exact n);have⟨g8,g9⟩:=dy c l;clear n V;go_wp2;go_meet;exact⟨p,Y,Y,λ_=>⟨c,e7,Y⟩⟩
   case' rest=>
    obtain⟨p,rfl,rfl,V⟩:=hcut;by_cases W:a.k=0
    .rw[W] at b4
     cases p
     rotate_left
     .go_wp2
      (go_ret3);exact a4.1 _ _ _ u
     by_cases U:l=32
     .subst U
      go_wp2;(go_ret3);exact a4.1 _ _ _ u
     have v:((l:T)==32)=δ:=sO;clear W U;go_wp2_with (at_builtin;refine stop ?_);refine aZ.go (eD Y (.tmp 48) (.tmp 53) Y Uk Y (base:=h) (n:=l) (xs:=tc d) ?p1 (m:=1) (news:=Tx.cells (⟨a.s,δ,e,[]⟩,.slice η 0 0)) Y Y ?p3 ?p4 ?p5 ?p6 ?p7)
     case p1=>have:=o.row;rw[<-f.1] at this;exact this.alloc _
     case p3=>exact eF.block (cs:=#[.int .i64 a.s,.bool δ,.int .i64 e,.slice η 0 0]) (bM Y) oC
     case p4=>omega
     case p5=>simp only[maxLen];omega
     case p6=>have:=ba OB.1;simp;omega
     case p7=>
      (intro h5 w B s _;have C:(wc.alloc (.cells #[.int .i64 a.s,.bool δ,.int .i64 e,.slice η 0 0] 124)).ownsRow h 124 4 (.slice d4 l A) d.length (tc d):=o.row.alloc _;have a6:=(TO.push (o.keep ((Fr.refl j wc).alloc _)) J Y (by rw[<-f.1];exact B) s);have G:=((bq s).owns (t.alloc _) (λq X b=>jA C (t.alloc _) J b X));have a3:=((u.alloc _).mW (oB x.1) C s);have F:h<w.heap.size:=by have v:=s.size;have D:=ba OB.1;rw[fL] at v;omega);obtain⟨h6,i0,rfl,-,-⟩:=bB B;clear B s C o t u b4 d7 d8 d9;go_wp2_with (at_builtin;refine stop ?_);refine aZ.go (eD Y (.tmp 55) (.tmp 56) Y adE Y (base:=h) (n:=l) (xs:=bo i) ?q1 (m:=1) (news:=[.bool γ]) Y Y ?q3 ?q4 ?q5 ?q6 ?q7)
      case q1=>exact G.alloc _
      case q3=>exact eF.one _ _ _ Y
      case q4=>omega
      case q5=>simp only[maxLen];omega
      case q6=>simp;omega
      case q7=>
       intro v D c3 c1 _;have f6:=(TO.other (a6.keep ((Fr.refl j w).alloc _)) (G.alloc _) J J c1);have f5:=((a3.alloc _).mW (oB x.1) (G.alloc _) c1);have f4:D.ownsRow h 4 1 v (l+1) (bo (i++[γ])):=(by rw[show bo (i++[γ])=bo i++[.bool γ] by simp[bo]];exact c3);obtain⟨h7,i1,rfl,-,-⟩:=bB c3;clear c3 c1 a6 G a3;go_wp2;go_roundg (gk-1)
       .refine⟨e+1,d++[(⟨a.s,δ,e,[]⟩,.slice η 0 0)],i++[γ],oB HK.1,by go_num,f6,by rw[cA,<-f.1];exact f4,by rw[cA,cA,<-f.1,P.1];rfl,by rw[cA,<-f.1];simp;omega,λb k=> ?_,f5⟩
        rcases cB.1 k with k|k
        .exact kY (z.1 b k)
        simp at k;subst k;exact nG
       have:=HK.1;omega
    have v:(a.k==0)=δ:=sU W;cases p
    .go_wp2
     (go_ret3);exact a4.1 _ _ _ u
    (obtain⟨c,e7,rfl⟩:=V Y;clear V c4;obtain⟨v,e2⟩:∃p,i[c]? =S p:=⟨_,cF (oB P.1)⟩;obtain⟨m,b5,n,c8,v,p,c2⟩:=Zr t e2;obtain⟨rfl,rfl⟩:d5=S ⟨m,0,η⟩/\a7=b5:=by simp at n;exact n);(clear n e2;obtain⟨⟨tx,a9⟩,b7⟩:∃b,d[c]? =S b:=⟨_,cF (oB f.1)⟩;have b0:=o;rw[f.1] at b0;obtain⟨g,f8,n,b9,e4,p,e5⟩:=b0.at b7;obtain⟨rfl,rfl⟩:d4=S ⟨g,0,η⟩/\A=f8:=by simp at n;exact n);(have f2:=b9 1 _ O Y;have p3:=b9 3 _ O Y;have f3:wc.frozen? ⟨g,c*4+1,η⟩=δ:=e4 _;have d0:m≠g:=λb=>by obtain⟨p,D⟩:=e5;obtain⟨v,p⟩:=c2;rw[b,D] at p;simp at p);(have D:a2≠m:=λb=>by obtain⟨v,p⟩:=c2;have:=OB.1;rw[b,p] at this;simp at this);have p:m≠a2:=λb=>D b.symm;have⟨g8,g9⟩:=dy c l;have y:=Z b7;clear b0 n b9 e4 e5 b7 c2;by_cases e6:a.k=1\/a.k=2;rotate_left
    .have e9:(a.k==1)=δ:=sO
     have h0:(a.k==2)=δ:=sO;clear W e6;go_wp2;have p:=t.stored c (.bool δ);have n:=o.other (t) J J p.2;rw[f.1] at n;have F:TO ((wc.setCell ⟨m,c,η⟩ (.bool δ)).setCell ⟨g,c*4+1,η⟩ (.bool (a.k==3))) h 124 (.slice (S ⟨g,0,η⟩) l A) (d.set c ({tx with d:=a.k==3},a9)):=(by rw[f.1];exact n.BN J y.1 _);have v:((wc.setCell ⟨m,c,η⟩ (.bool δ)).setCell ⟨g,c*4+1,η⟩ (.bool (a.k==3))).ownsRow h 4 1 (.slice (S ⟨m,0,η⟩) l a7) l (bo (i.set c δ)):=(by
      rw[show bo (i.set c δ)=(bo i).set c (.bool δ) by simp[bo,lU]];exact ownsRow_setCell_other p.1 (λb=>d0 (by simpa[ζ.ownBlock] using b)) _)
     have D:=((u.cN ⟨m,c,η⟩ (by have:=x.1;show _<=m;omega) (.bool δ)).cN ⟨g,c*4+1,η⟩ (by have:=x.1;show _<=g;omega) (.bool (a.k==3)));clear p n b4 d7 d8 d9 f2 f3 c8;go_roundg (gk-1)
     .refine⟨e+1,d.set c ({tx with d:=a.k==3},a9),i.set c δ,oB HK.1,by go_num,F,by rw[dN,<-f.1];exact v,by rw[dN,dN,<-f.1,P.1],by rw[dN,<-f.1];omega,λb k=> ?_,D⟩
      rcases lT k with k|rfl
      .exact kY (z.1 b k)
      exact kY (show tx.o.length<=e from z.1 (tx,a9) (bQ y.1))
     have:=HK.1;omega
    (have c5:wc.ownsRow h 165 4 a9 tx.o.length (ec tx.o):=o.ops c _ y.1;obtain⟨d6,e0,rfl,-,-⟩:=bB c5;have a5:=(((Fr.refl j wc).drew).owns c5 (λ_ _ b=>b));have n:tx.o.length<=100000:=by have:tx.o.length<=e:=z.1 _ (bQ y.1);omega);(have g5:(tx.o.length+1)*32<=140737488355328:=O;have g6:tx.o.length+1<=maxLen:=mL;have g7:h<=(wc.drew.alloc (.cells #[.int .i64 a.k,.int .i64 a.s,.int .i64 a.y,.int .i64 a.v] 165)).heap.size:=by have:=ba OB.1;simp;omega);have b2:TO wc.drew h 124 (.slice (S ⟨g,0,η⟩) d.length A) d:=(by rw[<-f.1];exact o.keep ((Fr.refl j wc).drew));have b1:=(((Fr.refl j wc).drew).owns t (λ_ _ b=>b));have d2:=u.drew;have n:(wc.alloc (.cells #[.int .i64 a.k,.int .i64 a.s,.int .i64 a.y,.int .i64 a.v] 165)).cell? ⟨g,c*4+3,η⟩=S (.slice d6 tx.o.length e0):=((Fr.refl j wc).alloc _).aF p3 (λb=>b);clear f2 f3 c5 c8 W;go_upto_region 21 with fail;go_cut [68] (λs68 c7=>s68=.bool γ/\c7=wc)
    .rcases e6 with r|r
     .have e9:(a.k==1)=γ:=sU r
      clear r;go_wp2;go_meet;exact⟨Y,Y⟩
     have e9:(a.k==1)=δ:=sO;have h0:(a.k==2)=γ:=sU r;clear r;go_wp2;go_meet;exact⟨Y,Y⟩
    obtain⟨rfl,rfl⟩:=hcut;go_wp2_with fail;(go_region_law ((refine jl Y (.tmp 75) (.tmp 77) Y JP Y (base:=h) (n:=tx.o.length) (xs:=ec tx.o) (pO (w:=wc.drew) a5 _) (m:=1) (news:=ec [a]) Y Y (eF.block (w:=wc.drew.alloc _) (cs:=#[.int .i64 a.k,.int .i64 a.s,.int .i64 a.y,.int .i64 a.v]) (eR (w:=wc.drew) Y _) (Jk [a])) g5 g6 g7 ?_;intro h5 w B s e3;obtain⟨Q,R,rfl,-,-⟩:=bB B;have C:(wc.drew.alloc (.cells #[.int .i64 a.k,.int .i64 a.s,.int .i64 a.y,.int .i64 a.v] 165)).ownsRow h 124 4 (.slice (S ⟨g,0,η⟩) d.length A) d.length (tc d):=b2.row.alloc _;have o:w.ownsRow h 124 4 (.slice (S ⟨g,0,η⟩) d.length A) d.length (tc d):=(bq s).owns C (λq X b=>jA C (a5.alloc _) J X b);have⟨u,r,n,p⟩:=gB o B s e3;have v:w.cell? ⟨g,c*4+3,η⟩=S (.slice d6 tx.o.length e0):=(by have t:=o.cells (g:=g) Y (c*4+3) _ (by rw[tc,Ci Tx.cells (λ_=>Y) d c 3 _ y.1 O];rfl);rw[eV,de] at t;exact t);have t:w.frozen? ⟨g,c*4+3,η⟩=δ:=o.frozenAt _;clear C o B s e3)));all_goals
     have a6:TO (w.setCell ⟨g,c*4+3,η⟩ (.slice Q (tx.o.length+1) R)) h 124 (.slice (S ⟨g,0,η⟩) l A) (d.set c ({tx with o:=tx.o++[a]},.slice Q (tx.o.length+1) R)):=(by
      rw[f.1];exact TO.ZK (b2.keep ((Fr.refl j wc.drew).alloc _)) J y.1 (by rw[Gm];exact r.1) n.1 p.1)
     have G:(w.setCell ⟨g,c*4+3,η⟩ (.slice Q (tx.o.length+1) R)).ownsRow h 4 1 (.slice (S ⟨m,0,η⟩) l a7) l (bo i):=(ownsRow_setCell_other ((bq n.1).owns (b1.alloc _) (λq X b=>jA a5 b1 J b X)) (λb=>d0 (by simpa[ζ.ownBlock] using b)) _);have a3:=(((d2.alloc _).mW (oB x.1) (a5.alloc _) n.1).cN ⟨g,c*4+3,η⟩ (by have:=x.1;show _<=g;omega) (.slice Q (tx.o.length+1) R));clear r n p u v t b2 b1 d2;go_wp2;go_roundg (gk-1)
     .refine⟨e+1,d.set c ({tx with o:=tx.o++[a]},.slice Q (tx.o.length+1) R),i,oB HK.1,by go_num,a6,by rw[dN,<-f.1];exact G,by rw[dN,<-f.1,P.1],by rw[dN,<-f.1];omega,λb k=> ?_,a3⟩
      rcases lT k with k|rfl
      .exact kY (z.1 b k)
      have:tx.o.length<=e:=z.1 (tx,_) (bQ y.1);simp;omega
     have:=HK.1;omega
  go_wp2;go_ret3
  exact⟨_,_,_,_,Y,a0.read,by rw[eo];have:=f.1;omega,λa h3=>by obtain⟨b,k,rfl⟩:=dE.1 h3;exact bX (z.1 b k) h1,K⟩
theorem AZ.ev(b:AZ W A m q e1)(a:n2=e1.length)(a:n1<n2):A=S (H m q)/\∃a:Ev,W.cell? (H m (q+n1*4))=S (I a.k)/\W.cell? (H m (q+n1*4+1))=S (I a.s)/\W.cell? (H m (q+n1*4+2))=S (I a.y)/\W.cell? (H m (q+n1*4+3))=S (I a.v):=by
 obtain⟨a,c⟩:=gE e1 n1 O;exact⟨b.addr c,a,b.2 n1 a c⟩
theorem Uu(i r:T)(o:κ)(s:ζ)(k:L Ev)(f:ε)(A:RE f s k):aQ 61 #[.agg #[I i,.bool o,I r,s]] f (BA f):=by
 obtain⟨l,F,G,n,rfl,C,D,g⟩:=A;obtain⟨b,a⟩:=M k.length;rw[<-a] at C |-;have HN:=Z a;unfold maxLen at D;clear a
 delta aQ;go_in
 go_wp2_with fail;refine cT (λk d=> ?_);obtain⟨q,c⟩:=M f.heap.size;try rw[<-c]
 have e:=cY d;have u:N (∀a,Fr j k a->a.cell? (H q 0)=S (I i)/\a.cell? (H q 3)=S (.slice l b n)):=Z λf a=>by
  have f:=a.hs (show aY k q #[I i,.bool o,I r,.slice l b n] 124 by rw[d];exact bM c);exact⟨aj f 0,aj f 3⟩
 have t:=(g.j e);clear d c g;go_loopg [3] b (λgk s3 wr=>∃c:E,c+gk=b/\s3=I c/\Fr j k wr)
 .exact⟨0,du,Y,rF⟩
 case round=>
  obtain⟨h,HK,rfl,c⟩:=hrel;obtain⟨w,m⟩:=u.1 _ c;by_cases B:h<b
  .obtain⟨rfl,d,p,x,y,z⟩:=(t.j c).ev HN.1 B
   have⟨b,f⟩:=dy h b;go_wp2_with fail;refine sg (AQ d.k d.s d.y d.v _) ?_;rintro d b ⟨⟨v,rfl⟩,a⟩;have g:=(c.step a);have b:=a.aF p id;have b:=a.aF m id;clear p x y z w m a;cases v
   .go_wp2
    go_ret;exact⟨⟨_,Y⟩,e.step g⟩
   go_wp2;all_goals first
    |(go_ret;exact⟨⟨_,Y⟩,e.step g⟩)
    |(
     go_roundg (gk-1)
     .exact⟨h+1,O,by go_num,g⟩)
     omega
  go_wp2;all_goals(go_ret;exact⟨⟨_,Y⟩,e.step c⟩)
def NA(d:ε)(b:Ending)(a:ε):Prop:=(∃c,b=.returned (I c))/\Fr j d a
def wlk(c b:T)(a:Ev):κ:=a.k==2&&a.y==c&&a.v==b
def VB(c b:T)(a:L Ev):T:=(a.filter (wlk c b)).length
theorem Up{y u:T}{a:Ev}(b:e1[m]? =S a):VB y u (e1.take (m+1))=VB y u (e1.take m)+if wlk y u a then 1 else 0:=by
 unfold VB;rw[bJ b,L.filter_append,cA];cases b:wlk y u a<;>simp[b]
theorem Ba(c b:T)(a:L Ev):0<=VB c b a/\VB c b a<=a.length:=by
 unfold VB
 have:=pZ (wlk c b) a;omega
theorem Ao(w u:T)(t:κ)(l:ζ)(b:L Ev)(c:E)(e d:T)(k:ε)(C:RE k l b)(F:c<=b.length)(D:b.length<=100000):dr 96 #[.agg #[I w,.bool t,I u,l],I c,I e,I d] k (I (VB e d (b.take c))):=by
 obtain⟨o,P,Q,s,rfl,G,K,g⟩:=C;generalize a:VB e d (b.take c)=RS;have y:=Z a;generalize f:b.length=h at G F D |-;have HN:=Z f;unfold maxLen at K;clear f a
 delta dr aQ;go_in
 go_wp2_with fail;refine cT (λl f=> ?_);obtain⟨q,a⟩:=M k.heap.size;try rw[<-a]
 have v:=cY f;have z:N (l.cell? (H q 3)=S (.slice o h s)):=Z (aj (show aY l q #[I w,.bool t,I u,.slice o h s] 124 by rw[f];exact bM a) 3);have m:=(g.j v);clear f a g;go_loopg [9,10] c (λgk s9 s10 wr=>∃(a:E)(f:T),a+gk=c/\s10=I a/\s9=I f/\f=VB e d (b.take a)/\wr=l)
 .exact⟨0,0,du,Y,Y,Y,Y⟩
 case round=>
  obtain⟨a,i,HK,rfl,rfl,f,rfl⟩:=hrel;have n:=Z f;have k:0<=i/\i<=100000:=by
   have:=Ba e d (b.take a);have g:(b.take a).length<=b.length:=by rw[cV];omega
   have:=HN.1;omega
  obtain⟨k,l⟩:=k;have k:a<=c:=O;have k:=z.1;clear f;by_cases k:a<c
  .have k:a<h:=O
   obtain⟨f,g⟩:=gE b a fU;obtain rfl:=m.addr g;obtain⟨b,k,l,m⟩:=m.2 a f g;have A:=Z (Up (y:=e) (u:=d) g);have⟨b,h⟩:=dy a h;have b:(a:T)<c:=O;clear g;have x:∃b g h:κ,(f.k==2)=b/\(f.y==e)=g/\(f.v==d)=h:=⟨_,_,_,Y,Y,Y⟩;obtain⟨g,p,r,b,h,k⟩:=x;have B:N (wlk e d f=(g&&p&&r)):=Z (by unfold wlk;rw[b,h,k]);cases g<;>cases p<;>cases r
   all_goals
    go_wp2;go_roundg (gk-1)
    .exact⟨a+1,_,O,by go_num,Y,by rw[A.1,B.1,n.1];simp,Y⟩
    omega
  obtain rfl:a=c:=O;have b:N (RS=i):=Z (by rw[<-y.1,n.1]);have a:¬(a:T)<(a:T):=O;go_wp2;go_ret;exact⟨by rw[b.1];rfl,v⟩
theorem qS(g:ζ)(c:L Ev)(b:E)(m p:T)(d:ε)(i:RE d g c)(k:b<=c.length)(l:c.length<=100000):aQ 98 #[g,I b,I m,I p] d (RLR b d):=by
 obtain⟨r,s,A,t,rfl,n,o,h⟩:=i;obtain⟨f,a⟩:=M c.length;rw[<-a] at n k l |-;have HN:=Z a;unfold maxLen at o;clear a
 delta aQ;go_in
 go_wp2_with fail;go_loopg [9] b (λgk s9 wr=>gk<=b/\s9=I ((gk:T)-1)/\wr=d)
 .exact⟨eG,Y,Y⟩
 case round=>
  obtain⟨z,rfl,rfl⟩:=hrel;by_cases e:gk=0
  .subst e
   go_wp2;go_ret;exact⟨_,Y,.inl Y,Y⟩
  obtain⟨a,rfl⟩:∃b,gk=b+1:=⟨gk-1,O⟩;obtain⟨rfl,y,u,v,w,x⟩:=h.ev HN.1 (show a<f by omega);have b:(((a+1:E):T)-1)=(a:T):=O;rw[b];have⟨c,d⟩:=dy a f;clear e b;go_wp2;all_goals first
   |(go_ret;exact⟨_,Y,.inr ⟨a,O,Y⟩,Y⟩)
   |(
    go_roundg a
    .exact⟨O,by go_num,Y⟩)
    omega
theorem Is(y:ζ)(f:L Ev)(c:E)(h:ε)(v:RE h y f)(t:c<f.length)(G:f.length<=100000):aQ 97 #[y,I c] h (NA h):=by
 have o:=v;obtain⟨V,l,m,W,rfl,Q,R,b⟩:=v;obtain⟨d,a⟩:=M f.length;rw[<-a] at Q t G o |-;have⟨HN,i⟩:=bD a b;unfold maxLen at R;clear a b;obtain⟨rfl,-⟩:=i.1.ev HN.1 t;obtain⟨a,n⟩:∃e:Ev,N (∀b,Fr j h b->b.cell? (H l (m+c*4))=S (I e.k)/\b.cell? (H l (m+c*4+1))=S (I e.s)/\b.cell? (H l (m+c*4+2))=S (I e.y)/\b.cell? (H l (m+c*4+3))=S (I e.v)):=by
  obtain⟨-,b,e,g,k,l⟩:=i.1.ev HN.1 t;exact⟨b,Z λm b=>⟨b.aF e id,b.aF g id,b.aF k id,b.aF l id⟩⟩
 have⟨l,m⟩:=dy c d;obtain⟨e,g,k,p⟩:=n.1 h rF
 delta aQ;go_in
 go_wp2_with fail;refine sg (AQ a.k a.s a.y a.v _) ?_;rintro l u ⟨⟨C,rfl⟩,b⟩;clear e g k p;obtain⟨p,r,s,k⟩:=n.1 u b;cases C
 .go_wp2
  go_ret;exact⟨⟨_,Y⟩,b⟩
 by_cases e:a.k=1;rotate_left
 .by_cases g:a.k=2
  .have l:(a.k !=1)=γ:=by simp[g]
   (have l:(a.k !=2)=δ:=by simp[g]);(have l:(a.k==2)=γ:=by simp[g]);clear e g;go_wp2;go_ret;exact⟨⟨_,Y⟩,b⟩
  have l:(a.k !=1)=γ:=by simp[e]
  have l:(a.k !=2)=γ:=by simp[g]
  clear e g;go_wp2;go_ret;exact⟨⟨_,Y⟩,b⟩
 have l:(a.k !=1)=δ:=by simp[e]
 have l:(a.k==2)=δ:=by simp[e]
 clear e;go_wp2_with fail;refine sg (qS _ f c _ _ u (o.fr b) fU fU) ?_;rintro t m ⟨l,rfl,K,rfl⟩;rcases K with rfl|⟨w,X,rfl⟩;rotate_left
 .obtain⟨-,g,m,t,v,e⟩:=(i.1.j b).ev HN.1 (show w<d by omega)
  have⟨g,l⟩:=dy w d;have g:=aX.cell k;have l:=aX.cell e;go_wp2_with fail;clear p r s k m t v e;refine bj kR kR ?_;repeat(go_big_quiet_step (fail))
  refine wpQuiet_nil ?_;intro m hw;have e:=bI hw;clear hw g l;go_wp2;all_goals(go_ret;exact⟨⟨_,Y⟩,b.step e⟩)
 go_wp2_with fail;refine sg (qS _ f c _ _ u (o.fr b) fU fU) ?_;rintro m l ⟨f,rfl,P,rfl⟩;rcases P with rfl|⟨x,a0,rfl⟩;rotate_left
 .obtain⟨-,f,l,m,o,e⟩:=(i.1.j b).ev HN.1 (show x<d by omega)
  have⟨f,g⟩:=dy x d;have f:=aX.cell k;have g:=aX.cell e;go_wp2_with fail;clear p r s k l m o e;refine bj kR kR ?_;repeat(go_big_quiet_step (fail))
  refine wpQuiet_nil ?_;intro l hw;have e:=bI hw;clear hw f g;go_wp2;all_goals(go_ret;exact⟨⟨_,Y⟩,b.step e⟩)
 clear p r s k;go_wp2_with fail;go_loopg [8] (d-(c+1)) (λgk s8 wr=>∃e:E,e+gk=d/\s8=I e/\Fr j h wr)
 .exact⟨c+1,O,by go_num,b⟩
 case round=>
  obtain⟨k,HK,rfl,g⟩:=hrel;obtain⟨D,F,p,r⟩:=n.1 _ g;by_cases b:k<d
  .obtain⟨-,e,s,U,z,A⟩:=(i.1.j g).ev HN.1 b
   (have⟨b,c⟩:=dy k d;have b:=aX.cell p;have b:=aX.cell r;have b:=aX.cell s;have b:=aX.cell z;have b:=aX.cell A;have B:(e.k==2)=δ\/((e.k==2)=γ/\(e.y==a.y)=δ)\/((e.k==2)=γ/\(e.y==a.y)=γ):=by cases (e.k==2)<;>cases (e.y==a.y)<;>simp);go_wp2_with fail;clear D F p r s U z A;rcases B with a|⟨a,b⟩|⟨a,b⟩;all_goals
    refine bj kR kR ?_;(repeat(go_big_quiet_step (fail)));refine wpQuiet_nil ?_;intro a hw;have p:=bI hw;clear hw;go_wp2;all_goals first
     |(go_ret;exact⟨⟨_,Y⟩,g.step p⟩)
     |(
      go_roundg (gk-1)
      .exact⟨k+1,O,by go_num,g.step p⟩)
      omega
  go_wp2;go_ret;exact⟨⟨_,Y⟩,g⟩
theorem Zs.tx{b:L Tx}(c:Zs W A m q b)(a:n2=b.length)(a:n1<n2):A=S (H m q)/\∃a d,b[n1]? =S a/\W.cell? (H m (q+n1*4))=S (I a.s)/\W.cell? (H m (q+n1*4+1))=S (.bool a.d)/\W.cell? (H m (q+n1*4+2))=S (I a.f)/\W.cell? (H m (q+n1*4+3))=S d/\RE W d a.o:=by
 obtain⟨b,a⟩:=gE b n1 O;obtain⟨e,d⟩:=c.2 n1 b a;exact⟨c.addr a,b,e,a,d⟩
theorem Ry(f:ζ)(c:L Tx)(a:E)(d:ε)(i:RT d f c)(k:a<=c.length)(l:c.length<=100000):aQ 147 #[f,I a] d (NA d):=by
 obtain⟨r,s,y,u,rfl,m,n,g⟩:=i;obtain⟨e,HN⟩:=M c.length;rw[<-HN] at m k l |-;unfold maxLen at n
 delta aQ;go_in
 go_wp2_with fail;go_loopg [5,6] a (λgk s5 s6 wr=>∃(b:E)(c:T),b+gk=a/\s6=I b/\s5=I c/\wr=d)
 .exact⟨0,0,du,Y,Y,Y⟩
 case round=>
  obtain⟨b,t,HK,rfl,rfl,rfl⟩:=hrel;have c:b<=a:=O;by_cases c:b<a
  .obtain⟨rfl,o,z,-,v,h,w,x,-⟩:=g.tx HN (show b<e by omega)
   have⟨c,d⟩:=dy b e;have c:(b:T)<a:=O;obtain⟨p,c⟩:=M o.d;rw[<-c] at h;clear c;cases p
   all_goals
    go_wp2;go_roundg (gk-1)
    .exact⟨b+1,_,O,by go_num,Y,Y⟩
    omega
  have a:¬(b:T)<a:=O;go_wp2;go_ret;exact⟨⟨_,Y⟩,rF⟩
theorem Uf(b a:T)(c:m=e1.length)(c:m<=100000):VB b a (e1.take q)<=100000:=by
 have:=(Ba b a (e1.take q)).2;have a:(e1.take q).length<=e1.length:=by rw[cV];omega
 omega
theorem Pq(R:ζ)(l:L Tx)(c:E)(i:ε)(a6:RT i R l)(F:c<l.length)(a7:l.length<=100000)(h:∀a∈l,a.o.length<=100000):aQ 62 #[R,I c] i (NA i):=by
 obtain⟨b4,o,p,b7,rfl,b0,b1,u⟩:=a6;obtain⟨v,g⟩:=M l.length;rw[<-g] at b0 F a7 |-;have⟨HN,x⟩:=bD g u;unfold maxLen at b1;obtain⟨rfl,d,c2,w,m,r,s,e,k⟩:=x.1.tx HN.1 F;have z:=(h d (bQ w));obtain⟨D,X,b2,t,rfl,a1,a2,U⟩:=id k;obtain⟨f,b⟩:=M d.o.length;rw[<-b] at e a1 z;have n:=Z b;have C:N (∀a,Fr j i a->a.cell? (H o (p+c*4))=S (I d.s)/\a.cell? (H o (p+c*4+1))=S (.bool d.d)/\a.cell? (H o (p+c*4+2))=S (I d.f)/\a.cell? (H o (p+c*4+3))=S (.slice D f t)):=Z λl a=>⟨a.aF m id,a.aF r id,a.aF s id,a.aF e id⟩;have V:N (∀a,Fr j i a->RE a (.slice D f t) d.o):=Z λl a=>by rw[b];exact k.fr a
 unfold maxLen at a2;have⟨l,o⟩:=dy c v;have a9:=Z h;clear g u w m r s e k b h
 delta aQ;go_in
 go_wp2_with fail;go_loopg [5] f (λgk s5 wr=>∃a:E,a+gk=f/\s5=I a/\Fr j i wr)
 .exact⟨0,du,Y,rF⟩
 case round=>
  obtain⟨g,HK,rfl,m⟩:=hrel;obtain⟨s,u,w,y⟩:=C.1 _ m;by_cases a8:g<f;rotate_left
  .go_wp2
   go_ret;exact⟨⟨_,Y⟩,m⟩
  obtain⟨rfl,a,A,G,K,P⟩:=(U.j m).ev n.1 a8;have⟨i,l⟩:=dy g f;go_upto_region 5 with fail;refine cT (λr i=> ?_);obtain⟨q,h⟩:=M wr.heap.size;rw[<-h];have k:=cY i;have B:N (∀b,Fr j r b->b.cell? (H q 0)=S (I a.k)/\b.cell? (H q 2)=S (I a.y)/\b.cell? (H q 3)=S (I a.v)):=Z λe b=>by
   have e:=b.hs (show aY r q #[I a.k,I a.s,I a.y,I a.v] 165 by rw[i];exact bM h);exact⟨aj e 0,aj e 2,aj e 3⟩
  have e:=(m.step k);clear i h k A G K P s u w y;obtain⟨G,u,w⟩:=B.1 _ rF;by_cases h:a.k=2;rotate_left
  .have i:(a.k !=2)=γ:=sU h
   clear h;go_wp2;go_roundg (gk-1)
   .exact⟨g+1,O,by go_num,e⟩
   omega
  have i:(a.k !=2)=δ:=by simp[h]
  clear h;go_wp2_with fail
  .go_ret
   exact⟨⟨_,Y⟩,e⟩
  obtain⟨k,l,m,o⟩:=C.1 _ e;have y:=aX.cell k;have A:=aX.cell l;have p:=aX.cell m;have C:=aX.cell o;have D:=aX.cell u;have F:=aX.cell w;obtain⟨f,s⟩:∃i:T,N (0<=i/\i<=100000/\∀h,Fr j r h->aQ 96 #[.agg #[I d.s,.bool d.d,I d.f,.slice (S (H X b2)) f t],I g,I a.y,I a.v] h λf t=>f=.returned (I i)/\Fr j h t):=
   ⟨_,Z ⟨(Ba a.y a.v (d.o.take g)).1,Uf _ _ n.1 z,λd b=>Ao _ _ _ _ _ g _ _ d (V.1 d (e.step b)) (oB n.1) (oB n.1)⟩⟩
  clear G u w k l m o;refine bj kR kR ?_;repeat(go_big_quiet_step ((go_at_call 96;exact aX.call _ (s.1.2.2 _ (aX.fr _)))))
  refine wpQuiet_nil ?_;intro i d;have a4:=bI d;clear d y A p C D F;go_wp2_with fail;obtain⟨a5,d⟩:=M gk;have y:=Z d;clear d;go_loopg [7,8] c (λgk s7 s8 wr=>∃(b:E)(d:T),b+gk=c/\s8=I b/\s7=I d/\0<=d/\d<=100000*(b+1)/\Fr j r wr)
  .exact⟨0,f,du,Y,Y,s.1.1,oB s.1.2.1,a4⟩
  case round=>
   obtain⟨b,b6,b3,rfl,rfl,b8,b9,k⟩:=hrel;have d:b<=c:=O;by_cases d:b<c;rotate_left
   .have d:¬(b:T)<c:=O
    go_wp2_with fail
    .go_ret
     exact⟨⟨_,Y⟩,e.step k⟩
    go_roundg (a5-1)
    .exact⟨g+1,gX HK y.1,by go_num,e.step k⟩
    have:=HK;have:=y.1;omega
   obtain⟨-,h,d,G,K,P,Q,w,u⟩:=(x.1.j (e.step k)).tx HN.1 (show b<v by omega);have A:=a9.1 h (bQ G);obtain⟨W,b5,c1,a0,rfl,a3,c0,-⟩:=id u;obtain⟨d,g⟩:=M h.o.length;rw[<-g] at w u a3 A;have e:=Z g;obtain⟨-,l,m⟩:=B.1 _ k;have⟨f,i⟩:=dy b v;have f:(b:T)<c:=O;have r:=aX.cell K;have s:=aX.cell P;have o:=aX.cell Q;have t:=aX.cell w;have v:=aX.cell l;have x:=aX.cell m;obtain⟨d,a⟩:∃i:T,N (0<=i/\i<=100000/\∀f,Fr j wr f->aQ 96 #[.agg #[I h.s,.bool h.d,I h.f,.slice W d a0],I d,I a.y,I a.v] f λn p=>n=.returned (I i)/\Fr j f p):=
    ⟨_,Z ⟨(Ba a.y a.v (h.o.take d)).1,Uf _ _ e.1 A,λa b=>Ao _ _ _ _ _ d _ _ a (u.fr b) (oB e.1) (oB e.1)⟩⟩
   clear K P Q w G g l m;have d:=a.1.1;have d:=a.1.2.1;have c:c<=100000:=O;go_wp2_with fail;refine bj kR kR ?_;(repeat(go_big_quiet_step ((go_at_call 96;exact aX.call _ (a.1.2.2 _ (aX.fr _))))));refine wpQuiet_nil ?_;intro a c;have a:=bI c;have d:=(k.step a);clear c a r s o t v x;go_wp2_with fail;go_roundg (gk-1)
   .exact⟨b+1,_,O,by go_num,by go_num,O,O,d⟩
   omega
section
theorem ZD:dK prog 173 237 2 16:=dK.of underlying173 (z:=.agg #[aI,aI]) kR Y J
theorem Yd:(prog.info? 175).map (·.size)=S 2:=kR
theorem qF{a:θ ζ}{b:θ ζ}(f:a[2]?.getD undef=aP m 0)(d:a[3]?.getD undef=x)(e:a[4]?.getD undef=v1)(c:aY W m b 175)(g:b.size=2):
  (results Tryz.f63 a).run prog W=.ok (.tuple #[.agg b,x,v1]) W:=by
 have a:Tryz.f63.results=#[.cell 2 175,.tmp 3,.tmp 4]:=Y;simp[results,a,f,d,e,asAddr,fQ c Y underlying175 (by rw[g];exact Yd),Result.andThen]
structure FC(B q:E)(R W:L It)(vr vw:ζ)(w:ε):Prop where
 box:aY w q #[vr,vw] 175
 ro:w.ownsRow B 237 2 vr R.length (ic R)
 wo:w.ownsRow B 237 2 vw W.length (ic W)
 ap:∀b,vr.ownBlock=S b->¬vw.ownBlock=S b
variable {B q:E} {R W:L It} {vr vw:ζ} {w w3:ε}
theorem FC.fr{c:ε}(a:FC B q R W vr vw w)(b:Fr j w c):FC B q R W vr vw c:=
 ⟨b.hs a.box,b.owns a.ro (λ_ _ c=>c),b.owns a.wo (λ_ _ b=>b),a.ap⟩
theorem oP{b:ζ}{a:E}{d:L ζ}(c:w.ownsRow B 237 2 b a d){a:θ ζ}(d:aY w q a 175):∀a,b.ownBlock=S a->a≠q:=
 λb a=>(aW c a).2.ne ⟨_,_,d⟩ J
theorem Jr{d a b:ζ}{n c:E}{xs e:L ζ}(f:w.ownsRow B 237 2 b c e)(e:∀c,d.ownBlock=S c->¬b.ownBlock=S c)(g:a.ownBlock=d.ownBlock\/∀c,a.ownBlock=S c->w.heap.size<=c):∀c,a.ownBlock=S c->¬b.ownBlock=S c:=by
 intro b c d;rcases g with a|a
 .exact e b (a▸c) d
 have a:=a b c;obtain⟨b,c,a⟩:=(aW f d).2
 have:=ba a;omega
theorem JM(R:L It)(a:It):ic R++[I a.1,I a.2]=ic (R++[a]):=by simp[ic]
theorem FC.PH(a:FC B q R W vr vw w)(b:w.grownBy w3 vr.ownBlock\/w.grownBy w3 vw.ownBlock):aY w3 q #[vr,vw] 175:=by
 rcases b with b|b
 .exact(bq b).aB a.box (λc=>oP a.ro a.box _ c Y)
 exact(bq b).aB a.box (λb=>oP a.wo a.box _ b Y)
theorem FC.QY{a:ζ}(b:FC B q R W vr vw w)(c:It)(d:w3.ownsRow B 237 2 a (R.length+1) (ic R++[I c.1,I c.2]))(e:w.grownBy w3 vr.ownBlock)(g:a.ownBlock=vr.ownBlock\/∀f,a.ownBlock=S f->w.heap.size<=f):FC B q (R++[c]) W a vw (w3.setCell (H q 0) a):=by
 have c:=b.PH (.inl e);have f:bT q w3 (w3.setCell (H q 0) a):=rF.aK _ _;have e:=(bq e).owns b.wo (λi h e=>b.ap i e h);rw[JM] at d;refine⟨aD c 0 a,f.owns (by rw[cA];exact d) (λh a=>oP d c h a),f.owns e (λd a=>oP e c d a),Jr (xs:=[]) (n:=0) b.wo b.ap g⟩
theorem FC.Vr{a:ζ}(b:FC B q R W vr vw w)(c:It)(d:w3.ownsRow B 237 2 a (W.length+1) (ic W++[I c.1,I c.2]))(e:w.grownBy w3 vw.ownBlock)(h:a.ownBlock=vw.ownBlock\/∀f,a.ownBlock=S f->w.heap.size<=f):FC B q R (W++[c]) vr a (w3.setCell (H q 1) a):=by
 have c:=b.PH (.inr e);have f:bT q w3 (w3.setCell (H q 1) a):=rF.aK _ _;have e:=(bq e).owns b.ro (λi g e=>b.ap i g e);rw[JM] at d;refine⟨aD c 1 a,f.owns e (λg a=>oP e c g a),f.owns (by rw[cA];exact d) (λe a=>oP d c e a),λa d f=>Jr (xs:=[]) (n:=0) b.ro (λc e g=>b.ap c g e) h a f d⟩
theorem FC.gone{a:ε}{b:ζ}{c:E}{f:L ζ}(d:B=a.heap.size)(e:bT q a w)(d:w.ownsRow B 237 2 b c f)(f:w.grownBy w3 b.ownBlock)(b:E)(c:ζ):bT q a (w3.setCell (H q b) c):=
 (e.trans (bq f) (λ_ _ a=>a) (λf e a=>by have:=(aW d a).1;omega)).aK b c
theorem Ay(b c:T):∀a∈(#[I b,I c]:θ ζ).toList,a.oneCell'=γ:=by
 intro b a;simp at a;rcases a with rfl|rfl<;>rfl
theorem TJ{c:E}{d:ζ}{a:L It}(e:w.ownsRow B 237 2 d c (ic a))(f:a.length=c):cC B 237 2 np w d a (a.map itc):=by
 subst f;refine⟨e,sI,λc a d b a=> ?_⟩;rw[fN,a] at b;cases b
 exact⟨Y,Y⟩
def LKQ(w:ε)(f:Ending)(a:ε):Prop:=∃b c d e R W,f=.returned (.tuple #[.agg #[b,c],I d,I e])/\Sl 237 2 np a b R/\Sl 237 2 np a c W/\R.length<=16/\W.length<=16/\Fr j w a
theorem uo(b1:ζ)(r:L Ev)(w:ε)(a7:RE w b1 r)(b8:r.length<=100000):aQ 63 #[b1] w (LKQ w):=by
 have P:=a7;obtain⟨c5,c6,c9,c7,rfl,c3,c4,K⟩:=a7;obtain⟨b,a⟩:=M r.length;rw[<-a] at c3 b8 P |-;have HN:=Z a;unfold maxLen at c4;clear a;obtain⟨t,a⟩:=M w.heap.size;have i:=Z a
 delta aQ;go_in
 go_upto_region 1 with fail;refine cT (λb2 c=> ?_);rw[<-a];clear a;have U:=dL c i.1;have k:=cY c;clear c;go_wp2_with fail;go_loopg [5] b (λgk s5 wr=>∃a:E,a+gk=b/\s5=I a/\Fr j b2 wr)
 .exact⟨0,du,Y,rF⟩
 case round=>
  obtain⟨s,b7,rfl,v⟩:=hrel;have HK:=Z b7;by_cases a7:s<b
  .have e:(0:T)<=(s:T):=jD
   have e:(s:T)<b:=O;go_wp2_with fail;refine sg (Is _ r s _ (P.fr (k.step v)) fU fU) ?_;rintro g f ⟨⟨e,rfl⟩,c⟩;have a:=(v.step c);have c:=a.hs U.1;obtain⟨e,g,h⟩:=oK c;go_wp2_with fail
   .exact aO (qF Y Y Y (fg c _ _) Y) Y ⟨_,_,_,_,[],[],Y,dJ,dJ,sI,sI,(k.step a).keep (eO _ t _ _) (λc d=>by subst d;have:=i.1;omega)⟩
   go_roundg (gk-1)
   .exact⟨s+1,oB HK.1,by go_num,a⟩
   have:=HK.1;omega
  go_upto_region 8 with fail;refine cT (λf c=> ?_);obtain⟨q,a⟩:=M wr.heap.size;rw[<-a];obtain⟨B,d⟩:=M f.heap.size;have y:=Z d;have a2:FC B q [] [] aV aV f:=⟨by rw[c];exact bM a,iL _ _ _ _,iL _ _ _ _,λg e=>by cases e⟩;have x:Fr j b2 f:=(by rw[c];exact v.alloc _);have V:(t<q/\q<B):=(by
   have e:=ba U.1;have e:=v.size;have e:=ba a2.box;omega)
  clear c a d;go_wp2_with fail;go_loopg [8] 16 (λgk s8 wr=>∃(a:E)(R W:L It)(vr vw:ζ),a+gk=16/\s8=I a/\FC B q R W vr vw wr/\R.length<=a/\W.length<=a/\bT q f wr)
  .exact⟨0,[],[],_,_,du,Y,a2,sI,sI,rF⟩
  case round=>
   obtain⟨a,R,W,vr,vw,D,rfl,FB,m,n,g⟩:=hrel;have s:a<=16:=O;have s:(0:T)<=(a:T):=jD;obtain⟨o,p,rfl,-,-⟩:=bB FB.ro;obtain⟨d,e,rfl,-,-⟩:=bB FB.wo;by_cases s:a<16;rotate_left
   .have h:¬(a:T)<16:=O
    have h:=FB.box;have s:=bx h;have h:=dh h;have c:=g.aB (x.hs U.1) (λh=>by omega);obtain⟨h,s,u⟩:=oK c;go_wp2_with fail;refine aO (qF Y Y Y (fg c _ _) Y) Y ⟨_,_,_,_,R,W,Y,?_,?_,oB m,oB n,?_⟩
    .exact(TJ ((eO wr t (.slice o R.length p) (.slice d W.length e)).owns FB.ro (λh s l=>oP FB.ro c h s l)) Y).read
    .exact(TJ ((eO wr t (.slice o R.length p) (.slice d W.length e)).owns FB.wo (λh s l=>oP FB.wo c h s l)) Y).read
    exact((k.step x).keep g (λc l=>by subst l;have:=V;have:=i.1;omega)).keep (eO wr t _ _) (λc l=>by subst l;have:=i.1;omega)
   have G:Fr j w wr:=((k.step x).keep g (λh c=>by subst c;have:=V;have:=i.1;omega));have s:(a:T)<16:=O;go_wp2_with fail;obtain⟨a6,c⟩:=M gk;have z:=Z c;obtain⟨wc,h⟩:=M wr;rw[<-h] at FB g G |-;clear c h;go_loopg [9,10] b (λgk s9 s10 wr=>gk<=b/\s10=I ((gk:T)-1)/\(s9=I (-1)\/∃c:E,c<b/\s9=I c)/\wr=wc)
   .exact⟨eG,Y,.inl Y,Y⟩
   case round=>
    obtain⟨c8,rfl,a8,rfl⟩:=hrel;by_cases c0:gk=0;rotate_left
    .obtain⟨c,rfl⟩:∃h,gk=h+1:=⟨gk-1,O⟩
     obtain⟨rfl,C,h,l,u,A⟩:=(K.j G).ev HN.1 (show c<b by omega);have h:(((c+1:E):T)-1)=(c:T):=O;rw[h];have⟨h,l⟩:=dy c b;go_wp2_with fail
     .go_roundg c
      .exact⟨O,by go_num,.inr ⟨c,O,Y⟩,Y⟩
      omega
     go_roundg c
     .exact⟨O,by go_num,a8,Y⟩
     omega
    subst c0;go_upto_region 17 with fail;have a3:(∀c,c=wr->∃(h:L It)(l:ζ),FC B q h W l (.slice d W.length e) c/\h.length<=a+1/\bT q f c):=λh c=>⟨R,_,c▸FB,oB m,c▸g⟩;rcases a8 with rfl|⟨c1,b5,rfl⟩
    case' inr=>
     obtain⟨rfl,c,X,a0,a1,a4⟩:=(K.j G).ev HN.1 b5;have⟨s,t⟩:=dy c1 b;by_cases s:c.k=1
     case' neg=>
      have h:(c.k==1)=δ:=sU s;go_upto_region 19 with fail;have Q:=Z a3
     case' pos=>
      have s:(c.k==1)=γ:=sU s;have l:FC B q R W (.slice o R.length p) (.slice d W.length e) (wr.drew.alloc (.cells #[I a,I c.v] 237)):=(FB.fr ((Fr.refl j wr).drew.alloc _));have s:=bx FB.box;have s:(wr.alloc (.cells #[I a,I c.v] 237)).cell? (H q 0)=S (.slice o R.length p):=aj (FB.fr ((Fr.refl j wr).alloc _)).box 0;go_upto_region 18 with fail;(go_region_law ((refine jl Y (.tmp 56) (.tmp 64) Y ZD Y (base:=B) (n:=R.length) (xs:=ic R) (pO (w:=wr.drew) ((FB.fr ((Fr.refl j wr).drew)).ro) _) (m:=1) (news:=[I a,I c.v]) Y Y (eF.block (w:=wr.drew.alloc _) (cs:=#[I a,I c.v]) (eR (w:=wr.drew) Y _) (Ay _ _)) (oB m) (by have:=m;unfold maxLen;omega) (by have:=g.size;have:=y.1;simp;omega) ?_;intro c w3 u h A;obtain⟨C,F,rfl,-,-⟩:=bB u;have s:=l.PH (.inl h);have c:w3.cell? (H q 0)=S (.slice o R.length p):=aj s 0;have c:w3.frozen? (H q 0)=δ:=aG s 0;have Q:N (∀c,c=w3.setCell (H q 0) (.slice C (R.length+1) F)->∃(o:L It)(p:ζ),FC B q o W p (.slice d W.length e) c/\o.length<=a+1/\bT q f c):=Z (λo c=>⟨_,_,c▸l.QY (a,_) u h A,by rw[cA];have:=m;simp;omega,c▸FC.gone y.1 (g.drew.alloc _) l.ro h 0 _⟩);clear s u h A)));all_goals
       go_upto_region 19 with fail
    case' inl=>
     have Q:=Z a3;go_upto_region 19 with fail
    all_goals
     refine cT (λc A=> ?_);obtain⟨h,g,b0,a5,u⟩:=Q.1 c A;obtain⟨a0,a1,rfl,-,-⟩:=bB b0.ro;have l:=b0;have a4:Fr j w c:=((k.step x).keep u (λg C=>by subst C;have:=V;have:=i.1;omega));clear A;go_wp2_with fail;refine sg (qS _ r b _ _ c (P.fr a4) fU fU) ?_;rintro k i ⟨g,rfl,b9,rfl⟩;rcases b9 with rfl|⟨c2,b6,rfl⟩
     .go_wp2_with fail
      go_roundg (a6-1)
      .exact⟨a+1,h,W,_,_,gX D z.1,by go_num,l,a5,oB n,u⟩
      have:=D;have:=z.1;omega
     obtain⟨C,A,g,i,k,m⟩:=(K.j a4).ev HN.1 b6;(try subst C);(try clear C);have⟨b,g⟩:=dy c2 b;have F:FC B q h W (.slice a0 h.length a1) (.slice d W.length e) (c.drew.alloc (.cells #[I a,I A.v] 237)):=(l.fr ((Fr.refl j c).drew.alloc _));have b:=dh l.box;have b:(c.alloc (.cells #[I a,I A.v] 237)).cell? (H q 1)=S (.slice d W.length e):=aj (l.fr ((Fr.refl j c).alloc _)).box 1;go_upto_region 21 with fail;(go_region_law ((refine jl Y (.tmp 75) (.tmp 83) Y ZD Y (base:=B) (n:=W.length) (xs:=ic W) (pO (w:=c.drew) ((l.fr ((Fr.refl j c).drew)).wo) _) (m:=1) (news:=[I a,I A.v]) Y Y (eF.block (w:=c.drew.alloc _) (cs:=#[I a,I A.v]) (eR (w:=c.drew) Y _) (Ay _ _)) (oB n) (by have:=n;unfold maxLen;omega) (by have:=u.size;have:=y.1;simp;omega) ?_;intro b w3 X C a9;obtain⟨b3,b4,rfl,-,-⟩:=bB X;have c:=F.PH (.inr C);have b:w3.cell? (H q 1)=S (.slice d W.length e):=aj c 1;have b:w3.frozen? (H q 1)=δ:=aG c 1;have g:N (∀b,b=w3.setCell (H q 1) (.slice b3 (W.length+1) b4)->∃(d:L It)(e:ζ),FC B q h d (.slice a0 h.length a1) e b/\d.length<=a+1/\bT q f b):=Z (λd b=>⟨_,_,b▸F.Vr (a,_) X C a9,by rw[cA];have:=n;simp;omega,b▸FC.gone y.1 (u.drew.alloc _) F.wo C 1 _⟩);clear c X C a9)));all_goals
      go_wp2_with fail;go_roundg (a6-1)
      .obtain⟨b,f,e,c,d⟩:=g.1 _ Y
       exact⟨a+1,h,b,_,_,gX D z.1,by go_num,e,a5,c,d⟩
      have:=D;have:=z.1;omega
end
theorem fF.ir(a:fF 237 2 np W A m q R)(f:n2=R.length)(f:n1<n2):A=S (H m q)/\∃b:It,W.cell? (H m (q+n1*2))=S (I b.1)/\W.cell? (H m (q+n1*2+1))=S (I b.2):=by
 obtain⟨d,c⟩:=gE R n1 O;obtain⟨e,-,rfl,b⟩:=a.2 n1 d c;exact⟨a.addr c,d,b 0 _ Y,b 1 _ Y⟩
def NN(d:ε)(c:Ending)(a:ε):Prop:=∃e b:T,c=.returned (.tuple #[I e,I b])/\Fr j d a
theorem NV(B:ζ)(c:L Tx)(C d:T)(f:ε)(t:RT f B c)(a4:c.length<=100000)(a6:∀a∈c,a.o.length<=100000):aQ 99 #[B,I C,I d] f (NN f):=by
 have s:=t;obtain⟨b4,v,z,b9,rfl,a8,a9,D⟩:=t;obtain⟨h,a⟩:=M c.length;rw[<-a] at a8 a4 s;rw[<-a];have HN:=Z a;unfold maxLen at a9;clear a
 delta aQ;go_in
 by_cases y:d=0
 .have a:(d==0)=γ:=sU y
  go_wp2_with fail;go_ret2;exact⟨_,_,Y,rF⟩
 have t:(d==0)=δ:=sU y;go_wp2_with fail;go_loopg [8] h (λgk s8 wr=>∃a:E,a+gk=h/\s8=I a/\Fr j f wr)
 .exact⟨0,du,Y,rF⟩
 case round=>
  obtain⟨b,c4,rfl,i⟩:=hrel;by_cases a5:b<h;rotate_left
  .go_wp2_with fail
   go_ret2;exact⟨_,_,Y,i⟩
  obtain⟨rfl,a,c7,a7,R,n,U,o,g⟩:=(D.j i).tx HN.1 a5;have OT:=(a6 a (bQ a7));obtain⟨u,b6,c5,w,rfl,V,c2,-⟩:=id g;obtain⟨f,k⟩:=M a.o.length;rw[<-k] at o g V OT;have m:=Z k;have⟨h,t⟩:=dy b h;have h:=aX.cell R;have y:=aX.cell n;have h:=aX.cell U;have h:=aX.cell o;obtain⟨h,t⟩:∃l:T,N (∀e,Fr j wr e->aQ 96 #[.agg #[I a.s,.bool a.d,I a.f,.slice u f w],I f,I C,I d] e λd h=>d=.returned (I l)/\Fr j e h):=
   ⟨_,Z λd e=>Ao _ _ _ _ _ f _ _ d (g.fr e) (oB m.1) (gX m.1 OT)⟩
  obtain⟨A,e⟩:=M a.d;rw[<-e] at y t n;have f:(∀d,Fr j wr d->d.cell? (H v (z+b*4+1))=S (.bool A)/\d.cell? (H v (z+b*4+3))=S (.slice u f w)):=λf d=>⟨d.aF n id,d.aF o id⟩;clear k e;go_wp2_with fail;refine bj kR kR ?_;repeat(go_big_quiet_step ((go_at_call 96;exact aX.call _ (t.1 _ (aX.fr _)))))
  refine wpQuiet_nil ?_;intro b2 d;have p:=bI d;have k:=(i.step p);clear d;by_cases d:h=0
  .have e:(h==0)=γ:=sU d
   go_wp2_with fail;go_roundg (gk-1)
   .exact⟨b+1,O,by go_num,k⟩
   omega
  have d:(h==0)=δ:=sU d;obtain⟨d,f⟩:=f _ p;cases A
  .go_wp2_with fail
   go_ret2;exact⟨_,_,Y,k⟩
  go_wp2_with fail;refine sg (uo _ a.o b2 (g.fr p) (gX m.1 OT)) ?_;rintro g b3 ⟨d,f,h,i,a,K,rfl,a0,a1,-,a2,X⟩;obtain⟨b5,b8,rfl,-,-⟩:=a0.slice;obtain⟨P,b7,c6,Q,rfl,b0,b1,G⟩:=a1;obtain⟨e,a⟩:=M K.length;rw[<-a] at b0 a2;rw[<-a];have F:=Z a;clear a;unfold maxLen at b1;go_upto_region 10 with fail;refine cT (λf d=> ?_);obtain⟨q,a⟩:=M b3.heap.size;rw[<-a];have g:=dh (show aY f q #[_,.slice P e Q] 175 by rw[d];exact bM a);have x:=cY d;have l:=((k.step X).step x);clear d a;go_wp2_with fail;obtain⟨d,a⟩:=M gk;clear a;go_loopg [12] e (λgk s12 wr=>∃a:E,a+gk=e/\s12=I a/\wr=f)
  .exact⟨0,du,Y,Y⟩
  case round=>
   obtain⟨r,c3,rfl,rfl⟩:=hrel;by_cases a3:r<e
   .obtain⟨rfl,W,c0,c1⟩:=(G.f x).ir F.1 a3
    have⟨a,d⟩:=dy r e;go_wp2_with fail;all_goals first
     |(go_ret2;exact⟨_,_,Y,l⟩)
     |(
      go_roundg (gk-1)
      .exact⟨r+1,O,by go_num,Y⟩)
      omega
   go_wp2_with fail;refine sg (Ry _ c b _ (s.fr l) fU fU) ?_;rintro c b ⟨⟨a,rfl⟩,W⟩;go_wp2_with fail;go_ret2;exact⟨_,_,Y,(l.step W)⟩
section
theorem acU:dK prog 30 3 1 8:=dK.of underlying30 (z:=aI) kR Y J
theorem acV:dK prog 75 203 2 16:=dK.of underlying75 (z:=.agg #[aI,aI]) kR Y J
theorem WU:(prog.info? 77).map (·.size)=S 3:=kR
theorem sn{b:θ ζ}{a:θ ζ}(e:b[4]?.getD undef=aP m 0)(d:b[5]?.getD undef=x)(c:aY W m a 77)(f:a.size=3):
  (results Tryz.f64 b).run prog W=.ok (.tuple #[.agg a,x]) W:=by
 have a:Tryz.f64.results=#[.cell 4 77,.tmp 5]:=Y;simp[results,a,e,d,asAddr,fQ c Y underlying77 (by rw[f];exact WU),Result.andThen]
def st3(a:ε)(q:E)(b c d:ζ):ε:=((a.setCell (H q 0) b).setCell (H q 1) c).setCell (H q 2) d
theorem Js{q:E}(d:aY W q #[x,v1,v2] t)(a b c:ζ):(st3 W q a b c).heap[q]? =S (.cells #[a,b,c] t (0,0)):=aD (aD (aD d 0 a) 1 b) 2 c
theorem Bx(a:ε)(q:E)(b c d:ζ):bT q a (st3 a q b c d):=((rF.aK _ _).aK _ _).aK _ _
structure FH(B q:E)(s:T)(W:L T)(R:L Tk)(vw vr:ζ)(w:ε):Prop where
 box:aY w q #[I s,vw,vr] 77
 wo:w.ownsRow B 3 1 vw W.length (W.map cW).flatten
 ro:w.ownsRow B 203 2 vr R.length (R.map fv).flatten
variable {B q:E} {s:T} {W:L T} {R:L Tk} {vr vw:ζ} {w w3:ε}
theorem FH.fr{c:ε}(b:FH B q s W R vw vr w)(a:Fr j w c):FH B q s W R vw vr c:=
 ⟨a.hs b.box,a.owns b.wo (λ_ _ c=>c),a.owns b.ro (λ_ _ a=>a)⟩
theorem oQ{a e c:E}{b:ζ}{f:L ζ}(d:w.ownsRow B a e b c f){c:θ ζ}(e:aY w q c 77)(c:a≠77):∀a,b.ownBlock=S a->a≠q:=
 λb a=>(aW d a).2.ne ⟨_,_,e⟩ c
theorem FH.PH(a:FH B q s W R vw vr w)(b:w.grownBy w3 vw.ownBlock\/w.grownBy w3 vr.ownBlock):aY w3 q #[I s,vw,vr] 77:=by
 rcases b with b|b
 .exact(bq b).aB a.box (λc=>oQ a.wo a.box J _ c Y)
 exact(bq b).aB a.box (λb=>oQ a.ro a.box J _ b Y)
theorem FH.Vr{a:ζ}(b:FH B q s W R vw vr w)(c:T)(e:w3.ownsRow B 3 1 a (W.length+1) ((W.map cW).flatten++cW c))(d:w.grownBy w3 vw.ownBlock):FH B q s (W++[c]) R a vr (w3.setCell (H q 1) a):=by
 have c:=b.PH (.inl d);have f:=bq d;have d:bT q w3 (w3.setCell (H q 1) a):=rF.aK _ _;have b:=f.owns b.ro (λh g f=>jA b.wo b.ro J f g);exact⟨aD c 1 a,by simpa using d.owns e (λf a=>oQ e c J f a),d.owns b (λd a=>oQ b c J d a)⟩
theorem FH.QY{a:ζ}(b:FH B q s W R vw vr w)(c:Tk)(e:w3.ownsRow B 203 2 a (R.length+1) ((R.map fv).flatten++fv c))(d:w.grownBy w3 vr.ownBlock):FH B q s W (R++[c]) vw a (w3.setCell (H q 2) a):=by
 have c:=b.PH (.inr d);have f:=bq d;have d:bT q w3 (w3.setCell (H q 2) a):=rF.aK _ _;have b:=f.owns b.wo (λh g f=>jA b.ro b.wo J f g);exact⟨aD c 2 a,d.owns b (λf a=>oQ b c J f a),by simpa using d.owns e (λb a=>oQ e c J b a)⟩
theorem EF{c f:E}{a:ε}{b:ζ}{g:E}{h:L ζ}(d:B=a.heap.size)(e:bT q a w)(d:w.ownsRow B c f b g h)(f:w.grownBy w3 b.ownBlock)(b:E)(c:ζ):bT q a (w3.setCell (H q b) c):=
 (e.trans (bq f) (λ_ _ a=>a) (λf e a=>by have:=(aW d a).1;omega)).aK b c
theorem WW(b:T):∀a∈(#[I b]:θ ζ).toList,a.oneCell'=γ:=by
 intro b a;simp at a;rw[a];rfl
theorem TH{h:Type}{g:h->L ζ}{e b:E}{f:ζ}{a:L h}(h:w.ownsRow B e b f a.length (a.map g).flatten)(i:∀c,(g c).length=b):cC B e b (Pl g) w f a (a.map g):=by
 refine⟨h,sI,λb a c d a=> ?_⟩;rw[fN,a] at d;cases d
 exact⟨i c,Y⟩
def TNQ(w:ε)(d:Ending)(a:ε):Prop:=∃(vw vr:ζ)(c:T)(b:Tn),d=.returned (.tuple #[.agg #[I b.s,vw,vr],I c])/\Sl 3 1 CI a vw b.w/\Sl 203 2 CK a vr b.r/\Fr j w a
theorem Vi(c6:ζ)(t:L Tx)(u:E)(w:ε)(c1:RT w c6 t)(b:u<t.length)(e0:t.length<=100000)(c:∀a∈t,a.o.length<=100000):aQ 64 #[c6,I u] w (TNQ w):=by
 have b3:=c1;obtain⟨e8,b5,c4,f5,rfl,e1,e2,h⟩:=c1;obtain⟨e3,a⟩:=M t.length;rw[<-a] at e1 e0 b3 b;rw[<-a];have⟨HN,d0⟩:=bD a c;unfold maxLen at e2;obtain⟨rfl,e,g1,i,f,k,l,g,c3⟩:=h.tx a b;have OT:=(c e (bQ i));obtain⟨e9,f2,f9,f4,rfl,f7,f8,-⟩:=id c3;obtain⟨v,d⟩:=M w.heap.size;have a0:=Z d;have⟨c1,c6⟩:=dy u e3;have⟨b0,u⟩:=bD (f:w.cell? (H b5 (c4+u*4))=_) (g:w.cell? (H b5 (c4+u*4+3))=_);clear a h c i b f k l g
 delta aQ;go_in
 go_upto_region 1 with fail;refine cT (λb5 a=> ?_);rw[<-d];clear d;have a3:=dL a a0.1;have P:=cY a;have f:=P.aF u.1 id;clear a;go_wp2_with fail;refine sg (uo _ e.o b5 (c3.fr P) OT) ?_;rintro c1 e6 ⟨u,b5,c3,c4,d2,d5,rfl,d6,d7,d8,d9,d⟩;obtain⟨f0,o,r,b7,rfl,e4,e5,SR⟩:=d6;obtain⟨f1,f3,g0,f6,rfl,c7,c8,g⟩:=d7;obtain⟨x,b⟩:=M d5.length;obtain⟨m,a⟩:=M d2.length;rw[<-b] at c7 d9;rw[<-a] at e4 d8;rw[<-b,<-a];have⟨c9,HRN⟩:=bD b a;have c:=(P.step d);unfold maxLen at c8 e5;clear b a f;have h:=c.aF b0.1 id;obtain⟨c5,b⟩:=M e6.heap.size;go_upto_region 2 with fail;refine cT (λu f=> ?_);rw[<-b];have y:=dL f b;have a:=cY f;have d3:=(g.f a);have d4:=(SR.f a);have a5:=(d.step a);have z:=(c.step a);clear f b a h g SR d c;have g:=z.aF b0.1 id;obtain⟨q,a⟩:=M u.heap.size;go_upto_region 3 with fail;refine cT (λf b=> ?_);rw[<-a];obtain⟨B,d⟩:=M f.heap.size;have D:=Z d;have b1:FH B q e.s [] [] aV aV f:=⟨by rw[b];exact bM a,iL _ _ _ _,iL _ _ _ _⟩;have c0:=cY b;have d1:N (v<q/\q<B/\q=u.heap.size):=Z (by
  have c:=ba a3.1;have c:=a5.size;have c:=ba b1.box;omega)
 have a4:N (∀c,bT q f c->Fr j u c):=Z λi c=>c0.keep c (λi h=>by subst h;have:=d1.1;omega);clear b a d g;have a:=dh (c0.hs y.1);go_wp2_with fail;clear a;go_loopg [10] x (λgk s10 wr=>∃(a:E)(W:L T)(vw:ζ),a+gk=x/\s10=I a/\FH B q e.s W [] vw aV wr/\W.length<=a/\bT q f wr)
 .exact⟨0,[],_,du,Y,b1,sI,rF⟩
 case round=>
  obtain⟨p,W,vw,d,rfl,b,X,a⟩:=hrel;obtain⟨k,l,rfl,-,-⟩:=bB b.wo;have HK:=Z d;have FB:=b;have g:=(a4.1 _ a);have A:=dh (g.hs y.1);have u:(0:T)<=(p:T):=jD;have u:p<=x:=O;clear d b;by_cases d:p<x
  .obtain⟨rfl,b,G,-⟩:=(d3.f g).ir c9.1 d
   (have i:(p:T)<x:=O;have h:FH B q e.s W [] (.slice k W.length l) aV (wr.drew.alloc (.cells #[I b.1] 3)):=(FB.fr ((Fr.refl j wr).drew.alloc _));have U:bT q f (wr.drew.alloc (.cells #[I b.1] 3)):=(a.drew.alloc _);have a1:wr.drew.ownsRow B 3 1 (.slice k W.length l) W.length (W.map cW).flatten:=(FB.fr ((Fr.refl j wr).drew)).wo;have a7:(W.length+1)*8<=140737488355328:=oB X;have a8:W.length+1<=maxLen:=by have:=X;unfold maxLen;omega);(have a9:B<=(wr.drew.alloc (.cells #[I b.1] 3)).heap.size:=by have:=a.size;have:=D.1;simp;omega);have Q:=dh FB.box;have V:(wr.alloc (.cells #[I b.1] 3)).cell? (H q 1)=S (.slice k W.length l):=aj (FB.fr ((Fr.refl j wr).alloc _)).box 1;clear d;go_wp2_with fail;(go_region_law ((refine jl Y (.tmp 38) (.tmp 45) Y acU Y (base:=B) (n:=W.length) (xs:=(W.map cW).flatten) (pO (w:=wr.drew) a1 _) (m:=1) (news:=[I b.1]) Y Y (eF.block (w:=wr.drew.alloc _) (cs:=#[I b.1]) (eR (w:=wr.drew) Y _) (WW _)) a7 a8 a9 ?_;intro b w3 n d K;obtain⟨C,F,rfl,-,-⟩:=bB n;have i:=h.PH (.inl d);have b:w3.cell? (H q 1)=S (.slice k W.length l):=aj i 1;have b:w3.frozen? (H q 1)=δ:=aG i 1;have a2:N (∀b,b=w3.setCell (H q 1) (.slice C (W.length+1) F)->∃(u:L T)(x:ζ),FH B q e.s u [] x aV b/\u.length<=p+1/\bT q f b):=Z (λu b=>⟨_,_,b▸h.Vr _ n d,by rw[cA];have:=X;simp;omega,b▸EF D.1 U h.wo d 1 _⟩);clear i n d K)));all_goals
    clear G Q V A;go_wp2_with fail;go_roundg (gk-1)
    .obtain⟨b,d,i,n,u⟩:=a2.1 _ Y
     exact⟨p+1,b,d,oB HK.1,by go_num,i,n,u⟩
    have:=HK.1;omega
  have d:=FB;have n:=(a4.1 _ a);have b:=bx (n.hs y.1);have i:=a;obtain⟨p,C⟩:=M wr;go_wp2_with fail;clear b A;go_loopg [11] m (λgk s11 wr=>∃(b:E)(R:L Tk)(vr:ζ),b+gk=m/\s11=I b/\FH B q e.s W R (.slice k W.length l) vr wr/\R.length<=b/\bT q f wr)
  .exact⟨0,[],_,du,Y,d,sI,i⟩
  case round=>
   clear FB a g d n i HK C;obtain⟨d,R,vr,a,rfl,g,V,Q⟩:=hrel;obtain⟨G,K,rfl,-,-⟩:=bB g.ro;have HK:=Z a;have i:=(a4.1 _ Q);have A:=bx (i.hs y.1);have p:(0:T)<=(d:T):=jD;have p:d<=m:=O;clear a;by_cases c2:d<m;rotate_left
   .have b:=(a5.step i).hs a3.1
    obtain⟨n,p,u,x⟩:=mD b;have n:=g.box;obtain⟨p,u,x,-⟩:=mD n;have a:=Z b;clear b n;go_wp2_with fail;refine aO (sn Y Y (Js a.1 _ _ _) Y) Y ⟨_,_,_,⟨e.s,W,R⟩,Y,?_,?_,((z.step i).keep (Bx wr v _ _ _) (λn b=>by subst b;have:=a0.1;omega))⟩
    .exact(TH (g:=cW) ((Bx wr v _ _ _).owns g.wo (λb p n=>oQ g.wo a.1 J b p n)) (λ_=>Y)).read
    exact(TH (g:=fv) ((Bx wr v _ _ _).owns g.ro (λb p n=>oQ g.ro a.1 J b p n)) (λ_=>Y)).read
   obtain⟨rfl,a,b2,b4⟩:=(d4.f i).ir HRN.1 c2;have p:(d:T)<m:=O;have F:N (∀b,Fr j wr b->b.cell? (H c5 0)=S (.slice (S (H o r)) m b7)/\b.cell? (H o (r+d*2))=S (I a.1)/\b.cell? (H o (r+d*2+1))=S (I a.2)):=Z λb c=>⟨c.aF A id,c.aF b2 id,c.aF b4 id⟩;have C:Fr j wr wr.drew:=(Fr.refl j wr).drew;go_wp2_with fail;(go_region_held3 (λb=>b.cell? (H c5 0)=S (.slice (S (H o r)) m b7)/\b.cell? (H o (r+d*2))=S (I a.1)/\b.cell? (H o (r+d*2+1))=S (I a.2)) (first|(exact F.1 _ C)|(exact F.1 _ ‹_›)) ((go_at_call 99;refine(NV _ t a.1 a.2 _ (b3.fr ((z.step i).step C)) fU d0.1).mono ?_;rintro m b ⟨n,a6,rfl,b6⟩;have c:=C.step b6;clear b6)));clear A b2 b4;have A:=(g.fr c);have b2:=(Q.step c);have b4:=(i.step c);obtain⟨b6,b8,b9⟩:=F.1 _ c;clear F c g Q i C;by_cases c:a6=0;rotate_left
   .have i:(a6 !=0)=γ:=sU c
    have g:=(a5.step b4).hs a3.1;obtain⟨i,m,o,p⟩:=mD g;have i:=Z g;clear g c b6 b8 b9;go_wp2_with fail;exact aO (sn Y Y (Js i.1 _ _ _) Y) Y ⟨_,_,_,⟨0,[],[]⟩,Y,dJ,dJ,((z.step b4).keep (Bx b v _ _ _) (λi g=>by subst g;have:=a0.1;omega))⟩
   (have g:(a6 !=0)=δ:=by simp[c]);(clear c;have h:FH B q e.s W R (.slice k W.length l) (.slice G R.length K) (b.drew.alloc (.cells #[I a.1,I n] 203)):=(A.fr ((Fr.refl j b).drew.alloc _));have U:bT q f (b.drew.alloc (.cells #[I a.1,I n] 203)):=(b2.drew.alloc _);have a1:b.drew.ownsRow B 203 2 (.slice G R.length K) R.length (R.map fv).flatten:=(A.fr ((Fr.refl j b).drew)).ro;have a7:(R.length+1)*16<=140737488355328:=oB V;have a8:R.length+1<=maxLen:=by have:=V;unfold maxLen;omega);(have a9:B<=(b.drew.alloc (.cells #[I a.1,I n] 203)).heap.size:=by have:=b2.size;have:=D.1;simp;omega);have Q:=iU A.box;have e7:(b.alloc (.cells #[I a.1,I n] 203)).cell? (H q 2)=S (.slice G R.length K):=aj (A.fr ((Fr.refl j b).alloc _)).box 2;clear c2;go_wp2_with fail;(go_region_law ((refine jl Y (.tmp 77) (.tmp 86) Y acV Y (base:=B) (n:=R.length) (xs:=(R.map fv).flatten) (pO (w:=b.drew) a1 _) (m:=1) (news:=[I a.1,I n]) Y Y (eF.block (w:=b.drew.alloc _) (cs:=#[I a.1,I n]) (eR (w:=b.drew) Y _) (Ay _ _)) a7 a8 a9 ?_;intro a w3 g c F;obtain⟨i,C,rfl,-,-⟩:=bB g;have b:=h.PH (.inr c);have a:w3.cell? (H q 2)=S (.slice G R.length K):=aj b 2;have a:w3.frozen? (H q 2)=δ:=aG b 2;have a2:N (∀a,a=w3.setCell (H q 2) (.slice i (R.length+1) C)->∃(i:L Tk)(m:ζ),FH B q e.s W i (.slice k W.length l) m a/\i.length<=d+1/\bT q f a):=Z (λe a=>⟨_,_,a▸h.QY ⟨_,_⟩ g c,by rw[cA];have:=V;simp;omega,a▸EF D.1 U h.ro c 2 _⟩);clear b g c F)));all_goals
    clear b8 b9 Q e7 b6;go_wp2_with fail;go_roundg (gk-1)
    .obtain⟨a,b,c,e,f⟩:=a2.1 _ Y
     exact⟨d+1,a,b,oB HK.1,by go_num,c,e,f⟩
    have:=HK.1;omega
end
def HIQ(g:E)(h:ε)(f:Ending)(a:ε):Prop:=∃(e:ζ)(c:Hs)(d b:T),f=.returned (.tuple #[.agg #[e],I d,I b])/\Sl 77 3 CT a e c/\c.length<=32/\(b=0\/∃b:E,b<g/\d=b)/\Fr j h a
theorem Lz(b5 k r)(a9:RT r b5 k)(c4:k.length<=100000)(R:∀a∈k,a.o.length<=100000):aQ 38 #[b5] r (HIQ k.length r):=by
 have G:=a9;obtain⟨d1,b9,c8,d2,rfl,c6,c7,F⟩:=a9;obtain⟨a,b⟩:=M k.length;rw[<-b] at c6 c4 G;rw[<-b];have HN:=Z b;unfold maxLen at c7;obtain⟨U,d⟩:=M r.heap.size;have K:=Z d;clear b
 delta aQ;go_in
 go_upto_region 1 with fail;refine cT (λc b=> ?_);rw[<-d];clear d;have a4:=dL b K.1;have f:=cY b;have QC:(∀d,Fr j c d->aY d U #[aV] 54):=λe d=>d.hs a4.1;have m:N (∀d,Fr j c d->∀(e:E)(g:T),e<a->HIQ a r (.returned (.tuple #[.agg #[aV],I e,I g])) (d.setCell (H U 0) aV)):=
  Z λd g i l h=>⟨_,[],_,_,Y,dJ,sI,.inr ⟨i,h,Y⟩,(f.step g).keep ((Fr.refl j d).mono (λ_ _ d=>d.elim)|>.aK 0 aV) (λd e=>by subst e;have:=K.1;omega)⟩
 clear b;by_cases r:32<a
 .have b:=QC c rF
  have d:=bx b;have b:=λd=>aG b d;have b:(32:T)<a:=O;go_wp2_with fail;exact aO (cG Y Y Y Y (sU (aD (QC c rF) 0 aV))) Y (m.1 c rF 0 4 O)
 have r:¬(32:T)<a:=O;have r:a<=32:=O;go_wp2;go_loopg [5] a (λgk s5 wr=>∃b:E,b+gk=a/\s5=I b/\Fr j c wr)
 .exact⟨0,du,Y,rF⟩
 case round=>
  obtain⟨p,c2,rfl,C⟩:=hrel;have HK:=Z c2;have r:p<=a:=O;by_cases b2:p<a
  .obtain⟨rfl,d,w,v,o,s,t,u,g⟩:=(F.j (f.step C)).tx HN.1 b2
   have⟨o,r⟩:=dy p a;obtain⟨l,n,rfl,-⟩:=g.slice;go_wp2_with fail;refine sg (Uu d.s d.f d.d _ d.o wr g) ?_;rintro d e ⟨⟨i,rfl⟩,h⟩;have b:=(C.step h);have d:=QC e b;have g:=bx d;have d:=λg=>aG d g;cases i
   .go_wp2_with fail
    exact aO (cG Y Y Y Y (sU (aD (QC e b) 0 aV))) Y (m.1 e b p 1 b2)
   go_wp2;go_roundg (gk-1)
   .exact⟨p+1,oB HK.1,by go_num,b⟩
   have:=HK.1;omega
  have b7:=C;go_wp2_with fail;go_loopg [7] a (λgk s7 wr=>∃b:E,b+gk=a/\s7=I b/\Fr j c wr)
  .exact⟨0,du,Y,b7⟩
  case round=>
   obtain⟨i,c3,rfl,D⟩:=hrel;have HK:=Z c3;have p:i<=a:=O;by_cases c5:i<a
   .have e:(0:T)<=(i:T):=jD
    have e:(i:T)<a:=O;go_wp2_with fail;refine sg (Pq _ k i wr (G.fr (f.step D)) fU fU R) ?_;rintro e d ⟨⟨h,rfl⟩,b⟩;have b:=(D.step b);have e:=QC d b;have g:=bx e;have e:=λg=>aG e g;go_wp2_with fail
    .exact aO (cG Y Y Y Y (sU (aD (QC d b) 0 aV))) Y (m.1 d b i h c5)
    go_roundg (gk-1)
    .exact⟨i+1,oB HK.1,by go_num,b⟩
    have:=HK.1;omega
   go_wp2_with fail;go_loopg [9] a (λgk s9 wr=>∃b:E,b+gk=a/\s9=I b/\Fr j c wr)
   .exact⟨0,du,Y,D⟩
   case round=>
    obtain⟨h,c1,rfl,s⟩:=hrel;have HK:=Z c1;have i:h<=a:=O;by_cases b0:h<a
    .obtain⟨rfl,g,a2,y,X,v,a0,a1,o⟩:=(F.j (f.step s)).tx HN.1 b0
     have⟨i,p⟩:=dy h a;obtain⟨P,W,rfl,-⟩:=o.slice;go_wp2_with fail;refine sg (uo _ g.o wr o (R g (bQ y))) ?_;rintro C y ⟨p,r,D,e,i,o,rfl,w,x,-,-,n⟩;obtain⟨A,Q,rfl,-,-⟩:=w.slice;obtain⟨B,V,rfl,-,-⟩:=x.slice;have o:=n.aF (v:wr.cell? (H b9 (c8+h*4+1))=_) id;go_upto_region 19 with fail;refine cT (λd l=> ?_);have i:=cY l;have b:=((s.step n).step i);have n:=i.aF o id;clear l;have i:=QC d b;have o:=bx i;have i:=λo=>aG i o;obtain⟨u,g⟩:=M g.d;rw[<-g] at n;clear g;by_cases t:e=0
     .have z:(e !=0)=δ:=by simp[t]
      cases u
      all_goals
       go_wp2;go_roundg (gk-1)
       .exact⟨h+1,oB HK.1,by go_num,b⟩
       have:=HK.1;omega
     have g:(e !=0)=γ:=sU t;cases u
     .go_wp2
      go_roundg (gk-1)
      .exact⟨h+1,oB HK.1,by go_num,b⟩
      have:=HK.1;omega
     go_wp2_with fail;exact aO (cG Y Y Y Y (sU (aD (QC d b) 0 aV))) Y (m.1 d b h e b0)
    go_upto_region 22 with fail;refine Zv wr ?_;intro A b q n;obtain⟨W,g⟩:=M A.heap.size;have a2:=Z g;have X:=dL b n;have h:Fr j c A:=(by rw[b];exact s.alloc _);have i:(U<q/\q<W/\c.heap.size<=q):=(by
     have e:=ba a4.1;have e:=s.size;have e:=ba X.1;omega)
    have b8:(∀e,bT q A e->Fr j c e):=λi c=>h.keep c (λc e=>by subst e;omega);clear b n g;go_wp2;go_loopg [14] a (λgk s14 wr=>∃(b:E)(e:ζ)(c:Hs)(g:L (L ζ)),b+gk=a/\s14=I b/\aY wr q #[e] 54/\cC W 77 3 CT wr e c g/\c.length<=b/\bT q A wr)
    .exact⟨0,_,[],[],du,Y,X.1,qG,sI,rF⟩
    case round=>
     obtain⟨e,e1,z,a3,d7,rfl,Q,y,d6,B⟩:=hrel;obtain⟨g,b⟩:=M z.length;obtain⟨u,w,rfl,-,-⟩:=y.shape b.symm;have t:=Z b;have n:=(b8 _ B);have c:g<=e:=O;have c:e<=a:=O;clear b;by_cases b1:e<a;rotate_left
     .have b:=QC wr n
      have c:=bx b;have c:=λc=>aG b c;have c:=bx Q;go_wp2_with fail;refine aO (v:=.tuple #[.agg #[.slice u g w],aI,aI]) (cG Y Y Y Y (sU (aD b 0 (.slice u g w)))) Y ⟨_,z,_,_,Y,?_,oB t.1,.inl Y,?_⟩
      .exact y.read.aJ CT.aJ (rF.aK _ _) (λp o i h c=>h.ne ⟨_,_,c▸b⟩ (by rcases i with rfl|rfl|rfl<;>decide) Y)
      exact(f.step n).keep ((Fr.refl j wr).mono (λ_ _ b=>b.elim)|>.aK 0 (.slice u g w)) (λb o=>by subst o;have:=K.1;omega)
     obtain⟨rfl,c9,e0,d9,d3,c0,d4,d5,d8⟩:=(F.j (f.step n)).tx HN.1 b1;have⟨a,c⟩:=dy e a;obtain⟨d0,a⟩:=M c9.d;rw[<-a] at c0;clear a;cases d0
     .go_wp2
      go_roundg (gk-1)
      .exact⟨e+1,_,z,a3,O,by go_num,Q,y,oB t.1,B⟩
      omega
     go_wp2_with fail;refine sg (Vi _ k e wr (G.fr (f.step n)) fU fU R) ?_;rintro f V ⟨c,a,v,b,rfl,b4,b3,x⟩;obtain⟨a6,a8,rfl,-,-⟩:=b4.slice;obtain⟨a5,a7,rfl,-,-⟩:=b3.slice;go_upto_region 27 with fail;refine Zv V ?_;intro d l a c;have o:=cY l;have i:=dL l c;have a:=((n.step x).step o);have f:=(o.hs (x.hs Q));clear l c;by_cases h:v=0;rotate_left
     .have c:(v !=0)=γ:=sU h
      have c:=QC d a;have k:=bx c;have c:=λk=>aG c k;go_wp2_with fail;exact aO (cG Y Y Y Y (sU (aD (QC d a) 0 aV))) Y (m.1 d a e v b1)
     (have c:(v !=0)=δ:=by simp[h]);obtain⟨c,h,i,-⟩:=mD i.1;have c:=bx f;go_wp2_with (at_builtin;refine stop ?_);refine aZ.go (AM (λb6 c=> ?_));have l:=cY c;have h:=dL c Y;have a1:=(((B.step x).step o).step l);have a:=(a.step l);have a0:=(l.hs f);have P:=(((y.f x).f o).f l);clear c;refine bH Y (.tmp 102) (.tmp 104) Y Jz g t.1.symm Y P CT.aJ (by intro a;rcases a with a|a<;>exact absurd a J) b Y Y (eF.block h.1 oC) (λa c=> ?_) O mL (gX a1.size a2.1) ?_
     .exact CT.aJ _ b6 a _ b c.1 (λi h f c a=>c.ne (aW P.row a).2 (by rcases f with rfl|rfl<;>decide) Y) (CT.aJ _ d b6 _ b l (λ_ _ _ _ a=>a) (CT.aJ _ V d _ b o (λ_ _ _ _ a=>a) (show CT V [I b.s,.slice a6 b.w.length a8,.slice a5 b.r.length a7] b from⟨_,_,Y,b4,b3⟩)))
     intro h i f d c _ _;have a:(aY f q #[.slice u g w] 54):=(c.1.aB a0 (λa=>(aW P.row a).2.ne ⟨_,_,a0⟩ J Y));have k:=bx a;have f:f.frozen? (H q 0)=δ:=aG a 0;go_wp2;go_roundg (gk-1)
     .refine⟨e+1,_,z++[b],a3++[#[I b.s,.slice a6 b.w.length a8,.slice a5 b.r.length a7].toList],O,by go_num,sU (aD a 0 (.slice h (g+1) i)),?_,by rw[cA];have:=t.1;simp;omega,(a1.trans c.1 (λ_ _ b=>b) (λe f b=>by have:=c.2 e b;have:=a2.1;omega)).aK 0 _⟩
      exact d.aJ CT.aJ (rF.aK _ _) (λe c b=>(aW d.row c).2.ne ⟨_,_,b▸a⟩ J Y) (λf e d c b=>c.ne ⟨_,_,b▸a⟩ (by rcases d with rfl|rfl<;>decide) Y)
     omega
theorem Gc(x:ν)(m:ε)(X:x.size<=100000):aQ 15 #[.string x] m (RPR m):=by
 obtain⟨c,a⟩:=M m.heap.size;have r:=Z a
 delta aQ;go_in
 go_upto_region 1 with fail;refine cT (λA b=> ?_);rw[<-a];clear a;have B:=cY b;have QC:(∀a,Fr j A a->aY a c #[aV] 54):=λd a=>a.hs (dL b r.1).1;have p:N (∀a,Fr j A a->∀(e d:T),RPR m (.returned (.tuple #[.agg #[aV],I e,I d])) (a.setCell (H c 0) aV)):=
  Z λa e g f=>⟨_,[],_,_,Y,⟨_,Y,dJ⟩,sI,(B.step e).keep ((Fr.refl j a).mono (λ_ _ a=>a.elim)|>.aK 0 aV) (λa d=>by subst d;have:=r.1;omega)⟩
 clear b;go_wp2_with fail;refine sg ((λa=>Ph x a X) A) ?_;rintro x n ⟨m,U,a2,i,rfl,C,b1,f⟩;obtain⟨a7,a9,rfl,-⟩:=C.slice;have m:=QC n f;have x:=bx m;have m:=λa=>aG m a;by_cases m:i=0;rotate_left
 .have a:(i !=0)=γ:=sU m
  go_wp2_with fail;exact aO (cG Y Y Y Y (sU (aD (QC n f) 0 aV))) Y (p.1 n f a2 i)
 have i:(i !=0)=δ:=by simp[m]
 go_wp2_with fail;refine sg (Hv _ U n C O) ?_;rintro n o ⟨m,i,k,z,rfl,P,a0,a1,V⟩;have g:=(f.step V);have R:=P;obtain⟨a8,F,a5,b0,rfl,a3,b3,HT⟩:=P;have i:(∀a∈z,a.o.length<=100000):=λa w=>by have:=a1 a w;omega
 have f:=QC o g;have m:=bx f;have f:=λb=>aG f b;by_cases f:k=0;rotate_left
 .have b:(k !=0)=γ:=sU f
  go_wp2_with fail;exact aO (cG Y Y Y Y (sU (aD (QC o g) 0 aV))) Y (p.1 o g _ k)
 have f:(k !=0)=δ:=by simp[f]
 go_wp2_with fail;refine sg (Lz _ z o R O i) ?_;rintro k a6 ⟨i,l,f,d,rfl,D,b2,K,G⟩;obtain⟨a4,e⟩:=M z.length;rw[<-e] at a0 a3 K;have HN:=Z e;obtain⟨y,s,rfl,-,-⟩:=D.slice;obtain⟨q,f⟩:=M a6.heap.size;go_upto_region 8 with fail;refine cT (λb i=> ?_);rw[<-f,<-e];have u:=cY i;have k:=dL i f;have h:=((g.step G).step u);clear i f e;have e:=QC b h;have f:=bx e;have f:=λf=>aG e f;by_cases v:d=0
 .have f:(d !=0)=δ:=by simp[v]
  have f:=bx k.1;go_wp2_with fail;refine aO (v:=.tuple #[.agg #[.slice y l.length s],aI,aI]) (cG Y Y Y Y (sU (aD e 0 (.slice y l.length s)))) Y ⟨_,l,_,_,Y,⟨_,Y,?_⟩,O,?_⟩
  .exact(D.f u).aJ CT.aJ (rF.aK _ _) (λa i w g f=>g.ne ⟨_,_,f▸e⟩ (by rcases w with rfl|rfl|rfl<;>decide) Y)
  exact(B.step h).keep ((Fr.refl j b).mono (λ_ _ f=>f.elim)|>.aK 0 (.slice y l.length s)) (λf t=>by subst t;have:=r.1;omega)
 have f:(d !=0)=γ:=sU v;obtain⟨Q,W,rfl⟩:=K.resolve_left v;obtain⟨rfl,a,b4,-,-,-,t,-,-⟩:=((HT.j G).j u).tx HN.1 W;have⟨f,g⟩:=dy Q a4;have e:F≠c:=λf=>by
  rw[f,aj e] at t
  have:=(fJ.1 t).1;simp at this
 have e:(b.setCell (H c 0) aV).cell? (H F (a5+Q*4+2))=S (I a.f):=((Fr.refl j b).mono (λ_ _ f=>f.elim)|>.aK 0 aV).aF t e;go_wp2_with fail;go_region;all_goals
  go_wp2_with fail;exact aO (v:=.tuple #[.agg #[aV],I (wrap64 (a.f+1)),I d]) (cG Y Y Y Y (show(b.setCell (H c 0) aV).heap[c]? =S (.cells #[aV] 54 (0,0)) by simpa using aD (QC b h) 0 aV)) Y (p.1 b.drew h.drew _ d)
theorem MF(a:ν)(c d:T)(b:ε)(e:a.size<=100000):aQ 9 #[.string a,I c,I d] b (BA b):=Jp a c d b (Gc a b e)
end Go.Proofs.YtecdpehmhpleeaaGreatDoor
