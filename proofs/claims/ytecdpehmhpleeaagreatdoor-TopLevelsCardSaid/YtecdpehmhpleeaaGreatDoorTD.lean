/- Part of the proof that TopLevels holds, for any argument and memory that the statement allows. -/
import Derived.Test.YtecdpehmhpleeaaGreatDoorTC
import Derived.Laws.BitsLemmas
import Derived.Laws.BitsAllLaws
import Derived.Conc.LoneCalls
import Derived.Conc.LoneSelectN
open _root_ renaming rfl->Y,List->L,Nat->E,Int->T,Array->θ,Option->ι,Bool->κ,UInt8->μ,ByteArray->ν
open Option renaming some->S,none->η
open Bool renaming true->γ,false->δ
open Go renaming World->ε,Value->ζ
open Nat renaming reduceEqDiff->ξ
namespace Go.Proofs.YtecdpehmhpleeaaGreatDoor
open Go.RowKit Tryz
set_option linter.unusedVariables false
set_option linter.unusedSimpArgs false
set_option maxRecDepth 100000
set_option maxHeartbeats 16000000
variable{α β:Type}{P:Program}{m q n1 n2 n3 n4 n5:Nat}{W V U w4:World}{x v1 v2 v3 v4:Value}{i1 i2 i3 i4 i5 i6:Int}{t:TypeId}{e p1 p2:List Int}{Q:Exit→Act→World→Prop}{A:Option Addr}{C:World→List Value→α→Prop}{L1:List (List Value)}{X X1:List α}{Y1:List Value}{u u1:List UInt8}{S1:Nat→Prop}{p0 q0:Prop}{R R1:List It}{B D:List Nat}{K:List Ch}{a1 a2:Act}{r1:List Oper}{o1:Array Oper}{o2:Oper}{F:List Fc}{K1:Act→World→Prop}{x1 x2:α}{S2:ByteArray}{x3 x4:iS}{c3:Ch}{f1 f2:Nat×Nat}{m1:List Mk}{e1:List Ev}{N1:List Nd}{e2:Ending}{G:World→Prop}
def Gf(a:T)(b:L T)(left:L (L T)):Prop:=(1<=a/\a<=32)/\b.length<=40/\left.length<=40/\∀a∈left,a.length<=40
theorem yQ{h:Hs}{lev:T}{i:rK}{left:L (L T)}(f:V.heap[m]? =S (.cells #[aI,.bool δ,aV,aV] 61 (0,0)))
  (g:V.heap[q]? =S (.cells #[aI,aV,aV,aV] 288 (0,0)))(n:Fr j W V)(p:W.heap.size<=m)(r:W.heap.size<=q)(o:jm h lev 0 V x i)(t:Sl 3 1 CI V v1 e)(s:Sl 30 1 CR V v2 left)(a b c d s0 s1 s2 s3:ζ):
  (gN (gN V m a b c d) q s0 s1 s2 s3).heap[m]? =S (.cells #[a,b,c,d] 61 (0,0))/\(gN (gN V m a b c d) q s0 s1 s2 s3).heap[q]? =S (.cells #[s0,s1,s2,s3] 288 (0,0))/\jm h lev 0 (gN (gN V m a b c d) q s0 s1 s2 s3) x i/\
   Sl 3 1 CI (gN (gN V m a b c d) q s0 s1 s2 s3) v1 e/\Sl 30 1 CR (gN (gN V m a b c d) q s0 s1 s2 s3) v2 left/\Fr j W (gN (gN V m a b c d) q s0 s1 s2 s3):=by
 have k:q≠m:=λl=>by subst l;rw[f] at g;simp at g
 have g:=(bC V m a b c d).aB g k;have i:=bP f a b c d;have f:TQ [(m,61)] V (gN V m a b c d):=TQ.one sI f (bC _ _ _ _ _ _) i Y;have a:TQ [(q,288)] (gN V m a b c d) (gN (gN V m a b c d) q s0 s1 s2 s3):=TQ.one sI g (bC _ _ _ _ _ _) (bP g s0 s1 s2 s3) Y;exact⟨a.obj i (sU k),bP g s0 s1 s2 s3,(o.tq f sI).tq a sI,a.sl (f.sl t iA sI) iA sI,a.sl (f.sl s CR.aJ (by simp[fS])) CR.aJ (by simp[fS]),TQ.keep (TQ.keep n f (sU p)) a (sU r)⟩
theorem rS{a:Hs}(b:il a i1 i2):jm a i1 0 W (.agg #[I i2,aV,aV,aV]) ⟨i2,[],[],[]⟩:=⟨_,_,_,Y,jV b,dJ,dJ,dJ⟩
theorem PJ{left:L (L T)}(a:Gf i1 e left)(b c:E):Gf i1 (e.take b) (left.take c):=
 ⟨a.1,by rw[cV];have:=a.2.1;omega,by rw[cV];have:=a.2.2.1;omega,λc b=>a.2.2.2 c (L.mem_of_mem_take b)⟩
theorem Ek{left:L (L T)}(b:Gf i1 e left)(c:left.length<=39)(c:p1.length<=32):Gf i1 e (left++[p1]):=
 ⟨b.1,b.2.1,sO,λd c=>by rcases cB.1 c with a|a;exact b.2.2.2 d a;simp at a;subst a;omega⟩
theorem Zc{left:L (L T)}(a:Gf i1 e left)(c:E)(b:p1.length<=40):Gf i1 e (left.set c p1):=
 ⟨a.1,a.2.1,sU a.2.2.1,λf c=>by rcases lT c with d|rfl;exact a.2.2.2 f d;exact b⟩
theorem OM{left:L (L T)}(a:Gf i1 e left)(b:p1.length<=40):Gf i1 p1 left:=⟨a.1,b,a.2.2⟩
def abq(k:Hs)(l:T)(n:ε)(i:Ending)(a:ε):Prop:=
 ∃f h c b e d g m,i=.returned (.tuple #[.agg #[I f,.bool h,e,d],g])/\Gf f c b/\jm k l 0 a g m/\Sl 3 1 CI a e c/\Sl 30 1 CR a d b/\Fr j n a
theorem Nz(e:Hs)(n d:T)(o:κ)(k:L T)(left:L (L T))(g0 j1 g6:ζ)(s:ε)(m:Gl s)(a4:eJ s g0 e)(u:Sl 3 1 CI s j1 k)(t:Sl 30 1 CR s g6 left)(a:Gf d k left):
  aQ 177 #[g0,I n,.agg #[I d,.bool o,j1,g6]] s (abq e n s):=by
 have⟨c2,d7,a1⟩:=dt a4 m a;obtain⟨p0,rfl,w⟩:=a4;obtain⟨f,h⟩:=M e.length;obtain⟨c9,d2,rfl,-,-,-⟩:=w.oH h;have c3:=Z h;obtain⟨b,i⟩:=M k.length;obtain⟨m5,n0,rfl,-,-,y⟩:=u.oH i;have SP:=Z y;obtain⟨v,l⟩:=M left.length;obtain⟨m3,m8,rfl,-,-,x⟩:=t.oH l;have⟨f3,HPN,HRN⟩:=dt x i l;have a4:b<=40:=oB a.2.1;have a4:v<=40:=oB a.2.2.1;have j3:1<=d:=a.1.1;have a4:d<=32:=a.1.2;have f1:N (∀c∈left,c.length<=1000):=Z (λg c=>by have:=a.2.2.2 g c;omega);have p:(prog.info? 61).map (·.size)=S 4:=kR;have C:=Z p;have r:(prog.info? 288).map (·.size)=S 4:=kR;have D:=Z r;obtain⟨b5,c⟩:=M (n !=0);obtain⟨b6,g⟩:=M (n !=1);have l4:N (ep n=(!b5||!b6)):=Z (by rw[c,g];simp[ep,bne]);have a4:=c.symm;have a4:=g.symm;clear w m u t y x a h i l p r c g
 delta aQ;go_in
 go_upto_region 1 with fail;refine cT (λa4 g=> ?_);obtain⟨a7,h⟩:=M s.heap.size;obtain⟨l,m⟩:=M (a7+1);obtain⟨i,p⟩:=M (a7+2);obtain⟨u,r⟩:=M (a7+3);rw[show s.heap.size+3=u by omega,show s.heap.size+2=i by omega,show s.heap.size+1=l by omega,<-h];have B:=fa4 g;have e4:N (∀a,Fr j a4 a->aY a a7 #[.slice c9 f d2] 54):=Fr.all (by rw[g];exact aC (aC (aC (bM h) _) _) _);have a5:N (∀a,Fr j a4 a->aY a l #[I d,.bool o,.slice m5 b n0,.slice m3 v m8] 61):=Fr.all (by rw[g];exact aC (aC (bM sO) _) _);have e6:N (∀a,Fr j a4 a->aY a i #[aI,.bool δ,aV,aV] 61):=Fr.all (by rw[g];exact aC (bM sO) _);have e8:N (∀a,Fr j a4 a->aY a u #[aI,aV,aV,aV] 288):=Fr.all (by rw[g];exact bM sO);have c:N (s.heap.size<=i/\s.heap.size<=u/\s.heap.size<=l/\l≠i/\l≠u/\a7≠l/\a4.heap.size=u+1/\u≠i/\l<a4.heap.size/\i<a4.heap.size):=Z (by rw[g];simp;omega);clear g h m p r;obtain⟨g,h,m,p,-⟩:=gZ (a5.1 _ rF);go_wp2_with fail;clear g h m p;refine sg (wE d o k left _ _ a4 (SP.1.f B.1) (f3.1.f B.1) yW vj f1.1) ?_;rintro g0 o1 ⟨P,U,R,V,a4,rfl,h,g,m⟩;rw[<-HPN.1] at h |-;rw[<-HRN.1] at g |-;have⟨g6,t,r⟩:=dt m h g.read;clear m h g;go_upto_region 2 with fail;refine cT (λg0 m=> ?_);obtain⟨a4,h⟩:=M o1.heap.size;rw[<-h];have g:=cY m;have⟨K,x,p⟩:=dt (g6.1.step g) (t.1.f g) (r.1.f g);have f0:N (∀a,Fr j g0 a->aY a a4 #[I d,.bool o,.slice P b U,.slice R v V] 61):=Fr.all (by rw[m];exact bM h);have l5:N (a4≠l/\a4≠i/\a4≠u):=Z (by have:=g6.1.size;have:=c.1;have:=h;omega);clear m h g t r;obtain⟨d4,g⟩:=M (OG e d k left);have g9:=Z g;clear g;go_cut [28] (λs28 g=>s28=.bool (!d4||(b5&&b6))/\Fr j g0 g)
 .have h:=bx (a5.1 _ K.1)
  have m:=dh (a5.1 _ K.1);have r:=iU (a5.1 _ K.1);have t:=iT (a5.1 _ K.1);have g:=bx (e4.1 _ K.1);go_wp2_with fail;clear h m r t g;refine sg (xY e d o k left _ _ _ g0 (c2.1.fr (B.1.step K.1)) (SP.1.f (B.1.step K.1)) (f3.1.f (B.1.step K.1)) yW vj f1.1) ?_;rintro m r ⟨rfl,g⟩;have h:=Z g;rw[<-g9.1];clear g;cases d4<;>cases b5<;>cases b6<;>(go_wp2;go_meet;exact⟨Y,h.1⟩)
 obtain⟨w,g⟩:=M wc;rw[<-g] at hcut |-;clear g;obtain⟨rfl,g⟩:=hcut;have⟨z,a6⟩:=bD (K.1.step g) g;clear g;obtain⟨bad,g⟩:=M (!d4||(b5&&b6));rw[<-g];cases bad with
 |true=>
  clear g;have r:=f0.1 _ a6.1;have h:=e6.1 _ z.1;have m:=e8.1 _ z.1;have r:=r;obtain⟨s0,s1,s2,s3,-⟩:=gZ r;obtain⟨t,y,A,F,G⟩:=gZ h;have t:=(bC w i (I d) (.bool o) (.slice P b U) (.slice R v V)).aB m c.1.2.2.2.2.2.2.2.1;obtain⟨y,A,F,G,K⟩:=gZ t;obtain⟨y,A,K,Q,G,F⟩:=yQ (h:=e) (lev:=n) h m (B.1.step z.1) c.1.1 c.1.2.1 (rS sL) (x.1.f a6.1) (p.1.f a6.1) (I d) (.bool o) (.slice P b U) (.slice R v V) (I 3) aV aV aV;have⟨W,X,a3,RP,a2,a0⟩:=qK y A K Q G F;clear h m r t y A K Q G F;go_wp2;exact aO (cO Y _ _ _ i u 61 288 _ _ (0,0) (0,0) _ _ Y W.1 Y underlying61 (by rw[C.1];rfl) Y X.1 Y underlying288 (by rw[D.1];rfl)) Y ⟨_,_,_,_,_,_,_,_,Y,a1.1,a3.1,RP.1,a2.1,a0.1⟩
 |false=>
 have n3:d4=γ:=by cases d4<;>simp at g |-
 subst n3;have h:¬(b5=γ/\b6=γ):=by rintro⟨rfl,rfl⟩;simp at g
 have e3:N (ep n=γ):=Z (by rw[l4.1];cases b5<;>cases b6<;>simp at h |-);clear g h;have F:N (WrP e d k left):=Z (abP g9.1.symm);have h4:N (e.length<=32):=Z (bK F.1.hr);have a8:=bx (e4.1 _ z.1);by_cases j0:f=0
 .subst j0
  have m:=f0.1 _ a6.1;have t:N (il e n 1):=Z (by
   have g:e=[]:=fH c3.1.symm;rw[g];exact⟨J,J,λ_=>XH e3.1,λh=>by cases h⟩)
  have g:=e6.1 _ z.1;have h:=e8.1 _ z.1;have m:=m;obtain⟨s0,s1,s2,s3,-⟩:=gZ m;obtain⟨r,y,A,G,K⟩:=gZ g;have r:=(bC w i (I d) (.bool o) (.slice P b U) (.slice R v V)).aB h c.1.2.2.2.2.2.2.2.1;obtain⟨y,A,G,K,Q⟩:=gZ r;obtain⟨t,y,K,Q,G,A⟩:=yQ (h:=e) (lev:=n) g h (B.1.step z.1) c.1.1 c.1.2.1 (rS t.1) (x.1.f a6.1) (p.1.f a6.1) (I d) (.bool o) (.slice P b U) (.slice R v V) (I 1) aV aV aV;have⟨W,X,a3,RP,a2,a0⟩:=qK t y K Q G A;clear g h m r t y K Q G A;go_wp2;exact aO (cO Y _ _ _ i u 61 288 _ _ (0,0) (0,0) _ _ Y W.1 Y underlying61 (by rw[C.1];rfl) Y X.1 Y underlying288 (by rw[D.1];rfl)) Y ⟨_,_,_,_,_,_,_,_,Y,a1.1,a3.1,RP.1,a2.1,a0.1⟩
 have K:((f:T)==0)=δ:=sU j0;go_upto_region 6 with fail;have g:=a5.1 _ z.1;obtain⟨h,m,r,t,-⟩:=gZ g;clear g a8;go_wp2_with fail;clear h m r t;refine sg (wE d o k left _ _ w (SP.1.f (B.1.step z.1)) (f3.1.f (B.1.step z.1)) yW vj f1.1) ?_;rintro K j2 ⟨y,t,Q,m,c5,rfl,A,h,g⟩;rw[<-HPN.1] at A |-;rw[<-HRN.1] at h |-;have⟨c1,f5,a2⟩:=dt (z.1.step g) (a6.1.step g) g;have r:=a5.1 _ c1.1;obtain⟨a8,a9,b7,b8,b9⟩:=gZ r;have⟨b0,a0,G⟩:=dt r A h;clear r A h g;go_upto_region 7 with fail;refine cT (λg X=> ?_);have h:bT l j2 g:=by rw[X];exact bC j2 l (I d) (.bool o) (.slice y b t) (.slice Q v m)
 have r:=c.1;have A:N (aY g l #[I d,.bool o,.slice y b t,.slice Q v m] 61):=Z (by rw[X];exact bP b0.1 _ _ _ _);have W:N (Fr j s g):=Z ((B.1.step c1.1).keep h (λa3 K=>K▸c.1.2.2.1));have b2:N (Sl 3 1 CI g (.slice y b t) k):=Z (a0.1.past iA h b0.1 J id);have b1:N (cC w.heap.size 30 1 CR g (.slice Q v m) left c5):=Z (G.1.aJ CR.aJ h (λK b3 a3=>by subst a3;exact(aW G.1.row b3).2.ne ⟨_,_,b0.1⟩ J Y) (λa4 K a3 c0 b3=>by subst b3;exact c0.ne ⟨_,_,b0.1⟩ (λb4=>by subst b4;unfold fS at a3;revert a3;decide) Y));have e5:N (aY g a7 #[.slice c9 f d2] 54):=Z (h.aB (e4.1 _ c1.1) r.2.2.2.2.2.1);have⟨b3,b4,i4,h7⟩:=gB (h.aB (e6.1 _ c1.1) r.2.2.2.1.symm) (h.aB (e8.1 _ c1.1) r.2.2.2.2.1.symm) (h.aB (f0.1 _ f5.1) l5.1.1) ((x.1.f f5.1).past iA h b0.1 J id);have h1:=Z ((p.1.f f5.1).past CR.aJ h b0.1 J (by unfold fS;decide));have c0:N (s.heap.size<=w.heap.size/\w.heap.size<=g.heap.size/\l<w.heap.size):=Z (by have B:=(B.1.step z.1).size;have K:=h.size;have K:=a2.1.size;have z:=z.1.size;exact⟨B,O,O⟩);clear h X a8 a9 b7 b8 b9 r x p a0 G a2;have OB:N (∀h,(ζ.slice Q v m).ownBlock=S h->w.heap.size<=h/\fE 30 g h):=Z (λp h=>aW b1.1.row h);have h0:N (∀a,Fr (λh=>h=l\/(ζ.slice Q v m).ownBlock=S h) g a->∀q p h,aY g q p h->q≠l->h≠30->aY a q p h):=Z (λa p q z B h r x=>p.aB h (λp=>p.elim r (λp=>fE.ne ⟨_,_,h⟩ (OB.1 _ p).2 x Y)));have k8:N (∀a,Fr (λh=>h=l\/(ζ.slice Q v m).ownBlock=S h) g a->Fr j s a):=Z (λa h=>W.1.keep h (λr h=>h.elim (λp=>by subst p;exact c.1.2.2.1) (λh=>bX c0.1.1 (OB.1 _ h).1)));have l0:N (∀a p(r:L T),Fr (λh=>h=l\/(ζ.slice Q v m).ownBlock=S h) g a->Sl 3 1 CI g p r->Sl 3 1 CI a p r):=Z (λa K a0 z B=>B.aJ iA z (λX z G p r=>by
  obtain rfl:X=3:=G.elim id (λh=>h.elim);exact r.elim (λx=>by subst x;exact p.ne ⟨_,_,A.1⟩ J Y) (λr=>p.ne (OB.1 _ r).2 J Y)))
 have G:=iT A.1;rcases F.1.left with⟨p,r⟩|⟨c4,a9⟩
 .have c7:v=0:=by rw[HRN.1,p];rfl
  have c6:b=0:=by rw[HPN.1,r];rfl
  subst c7 c6;clear p r;have p:=bx e5.1;go_wp2_with fail;clear G p;refine sg (Cz e d o k left _ l w.heap.size y Q t m c5 g (d7.1.fr W.1) (c2.1.fr W.1) F.1.hr j3 (by rw[<-HPN.1,<-HRN.1];exact A.1) (by rw[<-HPN.1];exact b2.1) (by rw[<-HRN.1];exact b1.1) c0.1.2.1 (by rw[<-HPN.1];omega) (by rw[<-HRN.1];omega)) ?_;rintro z d5 ⟨⟨h,rfl⟩,a3,c8,a0,a2,p,X,x,a8,r⟩;rw[<-HPN.1,<-HRN.1] at X;rw[<-HRN.1] at x r;have⟨p,z,K,b7⟩:=gB r X x.read a8;clear X x a8 r;have r:=h0.1 _ p.1 _ _ _ b3.1 c.1.2.2.2.1.symm J;have x:=h0.1 _ p.1 _ _ _ b4.1 c.1.2.2.2.2.1.symm J;have z:=z.1;obtain⟨s0,s1,s2,s3,-⟩:=gZ z;obtain⟨B,X,a4,a5,a6⟩:=gZ r;have B:=(bC d5 i (I d) (.bool a3) (.slice y 0 t) (.slice a0 1 a2)).aB x c.1.2.2.2.2.2.2.2.1;obtain⟨X,a4,a5,a6,b0⟩:=gZ B;obtain⟨p,K,a2,a3,a0,X⟩:=yQ (h:=e) (lev:=n) r x (k8.1 _ p.1) c.1.1 c.1.2.1 (rS qJ) (l0.1 _ _ _ p.1 b2.1) (K.1) (I d) (.bool a3) (.slice y 0 t) (.slice a0 1 a2) aI aV aV aV;have⟨a4,a5,b9,RP,b8,a8⟩:=qK p K a2 a3 a0 X;clear r x z B p K a2 a3 a0 X;go_wp2;exact aO (cO Y _ _ _ i u 61 288 _ _ (0,0) (0,0) _ _ Y a4.1 Y underlying61 (by rw[C.1];rfl) Y a5.1 Y underlying288 (by rw[D.1];rfl)) Y ⟨_,_,_,_,_,_,_,_,Y,Ek a1.1 vj b7.1,b9.1,RP.1,b8.1,a8.1⟩
 have n4:v=b+1:=by rw[HRN.1,HPN.1];exact c4
 subst n4;obtain⟨b8,r⟩:=gE left b vj;have j8:N (∀p v,b8=p::v->Kz e.length k p=γ):=Z (λx v p=>a9 x v (by rw[<-HPN.1,r,p]));have v:N (b<=e.length-1):=Z (by rw[HPN.1];exact F.1.len);obtain⟨p,o7,o6,i5,a2,d1,⟨p2,rfl,c6⟩,a8,b9,a0,a3⟩:=(show cC w.heap.size 30 1 CR g (.slice Q left.length m) left c5 by rw[<-HRN.1];exact b1.1).at r;simp only[cM] at i5;obtain⟨rfl,-,rfl⟩:=i5;obtain⟨lw,X⟩:=M b8.length;obtain⟨m6,b7,rfl,o8,o9,c7⟩:=c6.oH X;have⟨SR,e2,v,k3,k1,k0,k6⟩:=acv c7 X r a2 b9 a0 a3;have j5:N (b+1<=m/\m<=maxLen):=Z (by obtain⟨v,z,x,B,c8⟩:=bB b1.1.row;simp only[cM] at x;obtain⟨-,-,rfl⟩:=x;exact⟨oB HRN.1,c8⟩);have j4:N (b<=t/\t<=maxLen):=Z (by obtain⟨v,z,x,c8,d0,-⟩:=b2.1.oH HPN.1;simp only[cM] at x;obtain⟨-,-,rfl⟩:=x;exact⟨c8,d0⟩);have v:lw<=40:=by rw[X];exact a1.1.2.2.2 b8 (bQ r)
 have x:g.cell? (H p b)=S (.slice m6 lw b7):=by have:=a8 0 _ Y;rwa[gA,fI] at this
 have c8:decide ((b:T)<0)=δ:=sI;have v:(0:T)<=(b:T):=jD;have v:(b:T)<(b:T)+1:=O;clear c4 a9 r a2 d1 c6 a8 b9 a0 a3 c7 X;by_cases a0:lw=0
 .subst a0
  by_cases a3:b=0
  .subst a3
   have X:=bx A.1;have r:=dh A.1;cases o with
   |true=>
    by_cases a2:d<32
    .have v:decide (d<32)=γ:=cD a2
     go_upto_region 15 with fail;clear r G x;have v:=b3.1;have z:=b4.1;have B:IntKind.i64.wrap (d+1)=d+1:=kH _ O;obtain⟨B,K,Q,a4,a5⟩:=gZ v;have B:=(bC g i (I (d+1)) (.bool δ) aV aV).aB z c.1.2.2.2.2.2.2.2.1;obtain⟨K,Q,a4,a5,a6⟩:=gZ B;obtain⟨K,Q,a6,a8,a5,a4⟩:=yQ (h:=e) (lev:=n) v z (W.1) c.1.1 c.1.2.1 (rS qJ) (Sl.nil 3 1 CI g) (Sl.nil 30 1 CR g) (I (d+1)) (.bool δ) aV aV aI aV aV aV;have⟨a9,b0,c6,RP,c4,b9⟩:=qK K Q a6 a8 a5 a4;clear v z B K Q a6 a8 a5 a4;go_wp2;exact aO (cO Y _ _ _ i u 61 288 _ _ (0,0) (0,0) _ _ Y a9.1 Y underlying61 (by rw[C.1];rfl) Y b0.1 Y underlying288 (by rw[D.1];rfl)) Y ⟨_,_,_,_,_,_,_,_,Y,⟨⟨O,O⟩,sI,sI,(λv a8=>by cases a8)⟩,c6.1,RP.1,c4.1,b9.1⟩
    have v:decide (d<32)=δ:=bV a2;go_upto_region 17 with fail;clear X r G x;have v:=b3.1;have z:=b4.1;have B:=i4.1;obtain⟨s0,s1,s2,s3,-⟩:=gZ B;obtain⟨K,Q,a2,a4,a5⟩:=gZ v;have K:=(bC g i (I d) (.bool γ) (.slice P 0 U) (.slice R 1 V)).aB z c.1.2.2.2.2.2.2.2.1;obtain⟨Q,a2,a4,a5,a6⟩:=gZ K;obtain⟨Q,a2,a6,a8,a5,a4⟩:=yQ (h:=e) (lev:=n) v z (W.1) c.1.1 c.1.2.1 (rS sL) (h7.1) (h1.1) (I d) (.bool γ) (.slice P 0 U) (.slice R 1 V) (I 3) aV aV aV;have⟨a9,b0,c6,RP,c4,b9⟩:=qK Q a2 a6 a8 a5 a4;clear v z B K Q a2 a6 a8 a5 a4;go_wp2;exact aO (cO Y _ _ _ i u 61 288 _ _ (0,0) (0,0) _ _ Y a9.1 Y underlying61 (by rw[C.1];rfl) Y b0.1 Y underlying288 (by rw[D.1];rfl)) Y ⟨_,_,_,_,_,_,_,_,Y,a1.1,c6.1,RP.1,c4.1,b9.1⟩
   |false=>
    go_upto_region 17 with fail;clear X r G x;have r:=b3.1;have v:=b4.1;have z:=i4.1;obtain⟨s0,s1,s2,s3,-⟩:=gZ z;obtain⟨B,K,Q,X,a2⟩:=gZ r;have B:=(bC g i (I d) (.bool δ) (.slice P 0 U) (.slice R 1 V)).aB v c.1.2.2.2.2.2.2.2.1;obtain⟨K,Q,X,a2,a4⟩:=gZ B;obtain⟨K,P,U,V,R,Q⟩:=yQ (h:=e) (lev:=n) r v (W.1) c.1.1 c.1.2.1 (rS sL) (h7.1) (h1.1) (I d) (.bool δ) (.slice P 0 U) (.slice R 1 V) (I 3) aV aV aV;have⟨X,a2,b9,RP,a9,a8⟩:=qK K P U V R Q;clear r v z B K P U V R Q;go_wp2;exact aO (cO Y _ _ _ i u 61 288 _ _ (0,0) (0,0) _ _ Y X.1 Y underlying61 (by rw[C.1];rfl) Y a2.1 Y underlying288 (by rw[D.1];rfl)) Y ⟨_,_,_,_,_,_,_,_,Y,a1.1,b9.1,RP.1,a9.1,a8.1⟩
  obtain⟨r,X⟩:∃v,b=v+1:=⟨b-1,O⟩;have v:=Z X;subst X;have V:=iU A.1;have X:=λv=>aG A.1 v;have v:(r:T)+1<=(m:T):=oB j5.1.1;have v:(r:T)<=(t:T):=oB j4.1.1;have v:(0:T)<=(r:T):=jD;have v:(0:T)<=(r:T)+1:=O;have v:(r:T)+1-1=(r:T):=O;clear a3;go_upto_region 12 with fail;go_region;refine Xk (λd5 z=> ?_);have v:bT l g d5:=by rw[z];exact Fr.trans (U:=λv=>v=l) ((Fr.refl j g).drew) (((Fr.refl (λv=>v=l) g.drew).aK 3 _).aK 2 _) (λ_ _ h=>h.elim) (λ_ _ h=>h)
  have B:N (aY d5 l #[I d,.bool o,.slice y r t,.slice (S (H p 0)) (r+1) m] 61):=Z (by rw[z];exact aD (aD (w:=g.drew) A.1 3 _) 2 _);have⟨P,K,U,R⟩:=gB (W.1.keep v (λP K=>K▸c.1.2.2.1)) (v.aB b3.1 c.1.2.2.2.1.symm) (v.aB b4.1 c.1.2.2.2.2.1.symm) ((b2.1.past iA v A.1 J id).take (i:=r) yW);have Q:=Z ((b1.1.read.past CR.aJ v A.1 J (by unfold fS;decide)).take (i:=r+1) vj);clear z v V G X x c8;have v:=K.1;have z:=U.1;have B:=B.1;obtain⟨s0,s1,s2,s3,-⟩:=gZ B;obtain⟨K,U,V,X,a2⟩:=gZ v;have K:=(bC d5 i (I d) (.bool o) (.slice y r t) (.slice (S (H p 0)) (r+1) m)).aB z c.1.2.2.2.2.2.2.2.1;obtain⟨U,V,X,a2,a3⟩:=gZ K;obtain⟨P,Q,V,X,U,R⟩:=yQ (h:=e) (lev:=n) v z (P.1) c.1.1 c.1.2.1 (rS qJ) (R.1) (Q.1) (I d) (.bool o) (.slice y r t) (.slice (S (H p 0)) (r+1) m) aI aV aV aV;have⟨a2,a3,b9,RP,a9,a8⟩:=qK P Q V X U R;clear v z B K P Q V X U R;go_wp2;exact aO (cO Y _ _ _ i u 61 288 _ _ (0,0) (0,0) _ _ Y a2.1 Y underlying61 (by rw[C.1];rfl) Y a3.1 Y underlying288 (by rw[D.1];rfl)) Y ⟨_,_,_,_,_,_,_,_,Y,PJ a1.1 r (r+1),b9.1,RP.1,a9.1,a8.1⟩
 have v:((lw:T)==0)=δ:=sU a0;obtain⟨r,a8,X⟩:∃z v,b8=z::v:=by
  match b8,e2.1 with
  |[],v=>exact absurd v a0
  |z::v,_=>exact⟨z,v,Y⟩
 have⟨FT,g8⟩:=bD (j8.1 r a8 X) X;obtain⟨v,d0,d3,z,g4,-,-,a2⟩:=SR.1;simp only[cM] at g4;obtain⟨rfl,-,rfl⟩:=g4;have a3:b8[0]? =S r:=by rw[X];rfl
 obtain rfl:=a2.addr a3;have v:g.cell? (H d0 d3)=S (I r):=by have:=a2.int a3;rwa[fI] at this
 have d6:=λa(z:Fr j g a)=>iU (z.hs A.1);have a9:=λa(z:Fr j g a)=>iT (z.hs A.1);have b9:∀a,Fr j g a->a.cell? (H p b)=S (.slice (S (H d0 d3)) lw b7):=λa z=>z.aF x id;have e1:∀a,Fr j g a->a.cell? (H d0 d3)=S (I r):=λa z=>z.aF v id;have z:0<lw:=O;have k9:=Z x;clear X a3 a2;go_upto_region 18 with fail;clear x v G a0;refine iH [2,10] [11] [0,1,2,3,4,5,6,7,8,9,10,11] (Fr (λv=>g.heap.size<=v)) [[],[0],[0,1],[],[3],[],[3,4,5],[3,4,5,6],[3,4,5,6,7],[3,4,5,6,7,8],[3,4,5,6,7,8,9],[0,1,2,3,4,5,6,7,8,9,10],[0,1,3,4,5,6,7,8,9,11]] [.eq 0 (aP l 2),.eq 1 (.slice y b t),.w1 2 (λh a=>∃v x z,h=.slice v b x/\cC g.heap.size 3 1 CI a (.slice v b x) k z),.eq 3 (aP l 3),.eq 4 (.slice (S (H p 0)) (b+1) m),.eq 5 (I b),.eq 6 (aP p b),.eq 7 (.slice (S (H d0 d3)) lw b7),.eq 8 (aP d0 d3),.eq 9 (I r),.w1 10 (λh a=>∃v,h=.slice (S (H v 0)) 1 1/\aY a v #[I r] 3),.w1 11 (λh a=>∃x v,h=.slice x (b+1) v/\b+1<=v/\v<=maxLen/\Sl 3 1 CI a (.slice x (b+1) v) (k++[r])),.w1 12 (λh a=>∃x v,h=.slice x (b+1) v/\b+1<=v/\v<=maxLen/\Sl 3 1 CI a (.slice x (b+1) v) (k++[r]))] [[0],[1],[2],[3],[4],[5],[6],[7],[8],[9],[10],[11],[12]] Jh kR kR kR kR Y (λ_ _ _ _ x v=>⟨x.symm.trans v.1,v.2⟩) (λ_ _ v=>v.mono (λ_ _ h=>h.elim)) (λ_ _ _ v x=>v.tr x) ?hstab ?hstabM (λv=> ?_)
 case hstab=>exact Il
 case hstabM=>
  intro v x;simp only[rB] at x;subst x;all_goals(refine⟨?_,?_,?_,?_,?_,?_,?_,?_,?_,?_,?_,?_,?_,trivial⟩<;>first|exact λv=>absurd Y v|exact λ_ v=>absurd J v|exact λ_ _ v=>absurd J v|exact λ_ _ _ _ _ _ v _=>v)
 refine⟨?_,?_,?_,?_,?_,?_,?_,?_,?_,?_,?_,?_,?_,?_⟩;all_goals first|exact Ca|skip
 .intro a G v z x
  simp only[rX,ξ] at G v x |-;try simp only[v] at x
  go_simp;go_at_call 52;refine(sW _ k a (b2.1.f G) yW).mono ?_;rintro K B ⟨v,z,rfl,X,a0⟩;obtain⟨a2,a3,rfl,-,-⟩:=X.shape HPN.1.symm;exact x _ _ a0 ⟨_,_,_,Y,X.base G.size⟩
 .intro a z x B v
  simp only[rX,ξ] at z x v |-;try simp only[x] at v
  go_simp;exact v _ _ cZ ⟨_,Y,bM Y⟩
 .intro a X v x G
  have B:=v 1 J;have z:=v 2 J;have x:=v 10 J;simp only[rX,ξ] at X B z x v G |-;obtain⟨z,B,v,a2,c7⟩:=z;obtain⟨v,eB,a3⟩:=x;rw[aS (by first|rfl|go_simp)];refine pM fX (.tmp 109) (.tmp 117) fX oG b HPN.1.symm a2 c7 iA id (r:T) eB Y (eF.block a3 oC) (λ_ _=>Y) O mL X.size ?_;intro z B x a0 v c4 c6;exact G _ _ (v.1.mono (λz _ x=>v.2 z x)) ⟨_,_,Y,c4,c6,a0.read⟩
 .intro a K v z x
  have B:=v 1 J;have z:=v 11 J;simp only[rX,ξ] at K B z v x |-;try simp only[v] at x
  obtain⟨z,B,v,G⟩:=z;simp only[v] at x;go_simp;exact x _ _ rF ⟨_,_,Y,G⟩
 intro a a0 x;have v:=x 12 J J;simp only[rX,ξ] at v;clear x;simp only[Act.put,rC];obtain⟨c8,d1,X,v,z,a3⟩:=v;have x:Fr j g a:=(Fr.refl j g).keep a0 (λz v=>v);obtain⟨G,n6⟩:=M a;subst n6;rw[X];have⟨a2,l1⟩:=bD x a3;have c6:=a9 G x;have d9:=b9 G x;have e0:G.frozen? (H p b)=δ:=by rw[x.frozen (p:=(H p b)) (vL g _ k9.1) id];exact k1.1 _
 obtain⟨f6,v,z⟩:=pU (w:=G) 30 underlying30 (λa=>by rw[sizeOf3]) e2.1.symm (SR.1.f x) 1 O;have d8:=λa=>v 1 a Y;have k5:=Z z;have c7:(1:T)<=(lw:T):=O;clear a0 a3 x X d6 a9 b9 e1 v z;go_upto_region 19 with fail;go_region;refine Xk (λx a3=> ?_);have X:Fr j (G.setCell (H p (b*1+0)) (.slice f6 (lw-1) (b7-1))) x:=by rw[a3,gA,fI];exact⟨Y,Y,Y,eG,λ_ _ _=>Y⟩
 have d6:N (bT p G x):=Z (((Fr.refl (λv=>v=p) G).aK _ _).step X);have g7:N (fE 30 G p):=Z (k6.1.fr a2.1 id);have f2:N (∀v(z:L T),Sl 3 1 CI G v z->Sl 3 1 CI x v z):=Z (λz B v=>v.aJ iA d6.1 (λc4 v b9 a9 a0=>by
  obtain rfl:c4=3:=b9.elim id (λh=>h.elim);subst a0;exact a9.ne g7.1 J Y))
 have l6:N (cC w.heap.size 30 1 CR x (.slice (S (H p 0)) (b+1) m) (left.set b a8) (c5.set b [.slice f6 (lw-1) (b7-1)])):=Z (by
  have:=(show cC w.heap.size 30 1 CR G (.slice (S (H p 0)) left.length m) left c5 by rw[<-HRN.1];exact b1.1.f a2.1).put (k:=b) (i:=0) (u:=.slice f6 (lw-1) (b7-1)) (x:=a8) CR.aJ Zd k3.1 J X ⟨_,Y,by
   have:=k5.1 x (f2.1 _ _ (SR.1.f a2.1));rw[g8.1] at this;exact this⟩
  rw[<-HRN.1] at this;exact this)
 have c4:N (∀(q:E)(z:θ ζ)(v:E),aY g q z v->v≠30->aY x q z v):=Z (λq g v a0 b9=>d6.1.aB (a2.1.hs a0) (λa9=>by subst a9;exact fE.ne ⟨_,_,a2.1.hs a0⟩ g7.1 b9 Y));have j6:N (Fr j s x):=Z ((W.1.step a2.1).keep d6.1 (λg a0=>by subst a0;exact bX c0.1.1 k0.1));have m2:N (w.heap.size<=x.heap.size):=Z (by have:=c0.1.2.1;have:=a2.1.size;have:=d6.1.size;omega);have⟨l7,h2⟩:=bD (f2.1 _ _ (b2.1.f a2.1)) (f2.1 _ _ l1.1);have m0:N (a8.length<=40):=Z (by have:=e2.1;rw[g8.1] at this;simp at this;omega);clear a3 X c6 d9 e0 d8 c7;have e1:∀a,oL x.heap.size 355 x a->a.cell? (H a7 0)=S (.slice c9 f d2):=λa g=>aj (g.Fz.hs (c4.1 _ _ _ e5.1 J)) 0;have g:∀a,oL x.heap.size 355 x a->Fr j s a:=λa g=>j6.1.step g.Fz;have d8:=Z g;clear g;go_upto_region 20 with fail;refine iR [9] [10] (oL x.heap.size 355) [[],[],[],[],[2,3],[0,1,2,3,4],[0,1,2,3,4,5],[0,1,2,3,4,5,6],[0,1,2,3,4,5,6],[],[0,1,2,3,4,5,6,7,9],[0,1,2,3,4,5,6,8]] [.eq 0 (.agg #[.slice c9 f d2]),.eq 1 (I n),.eq 2 (.agg #[.slice c9 f d2]),.eq 3 (.slice c8 (b+1) d1),.w1 4 (λh a=>∃g z v,h=.slice g z v/\Sl 144 3 CC a (.slice g z v) (tB e (k++[r]))),.w1 5 (λh a=>∃g v,h=.tuple #[.agg #[I f,.slice g f v],aI]/\iM f (cP e n (tB e (k++[r]))) a (.agg #[I f,.slice g f v])),.w1 6 (λh a=>∃g v,h=.tuple #[.agg #[I f,.slice g f v],aI]/\iM f (cP e n (tB e (k++[r]))) a (.agg #[I f,.slice g f v])),.w1 7 (λh a=>∃g v,h=.agg #[I f,.slice g f v]/\iM f (cP e n (tB e (k++[r]))) a (.agg #[I f,.slice g f v])),.eq 8 aI,.w1 9 (λh a=>∃g,h=aP g 0/\x.heap.size<=g/\aY a g #[aI,aV] 355),.w2 7 9 (λi6 g a=>∃z,g=aP z 0/\∃g v,i6=.agg #[I f,.slice g f v]/\aY a z #[I f,.slice g f v] 355/\iM f (cP e n (tB e (k++[r]))) a (.agg #[I f,.slice g f v])),.w0] [[0],[1],[2],[3],[4],[5],[6],[7],[8],[9],[7,9],[]] Jh kR kR kR Y (λ_ _ _ _ v g=>⟨v.symm.trans g.1,g.2⟩) (λ_ _ g=>oL.of g) (λ_ _ _ g v=>g.trans v) ?hstab ?hstabM (λg=> ?_)
 case hstab=>exact Il
 case hstabM=>
  intro g X;simp only[rB] at X;subst X;all_goals(refine⟨?_,?_,?_,?_,?_,?_,?_,?_,?_,?_,?_,?_,trivial⟩<;>first|exact λg=>absurd Y g|exact λ_ g=>absurd J g|exact λ_ _ g=>absurd J g|exact λ_ _ _ _ _ _ g _=>g|exact λ_ _ _ _ _ _ ⟨g,K,v,z,B⟩ G=>⟨g,K,v,z,G.sl B EN J id⟩|exact λ_ _ _ _ _ _ ⟨g,v,z,B⟩ G=>⟨g,v,z,G.gr B⟩|exact λ_ _ _ _ _ _ _ _=>trivial)
 refine⟨?_,?_,?_,?_,?_,?_,?_,?_,?_,?_,?_,?_,?_⟩;all_goals first|exact Ca|skip
 .intro a g v z X
  simp only[rX,ξ] at g v X |-;try simp only[v] at X
  go_simp;go_at_call 221;refine(Fq e (k++[r]) _ _ a (c2.1.fr (d8.1 _ g)) (h2.1.f g.Fz)).mono ?_;rintro B z ⟨g,v,rfl,a0,a3⟩;obtain⟨a9,b9,rfl,-,-⟩:=a0.shape Y;exact X _ _ a3 ⟨_,_,_,Y,a0.read⟩
 .intro a v g z X
  have z:=g 4 J;simp only[rX,ξ] at v z g X |-;try simp only[g] at X
  obtain⟨B,K,G,g,z⟩:=z;simp only[g] at X;go_simp;go_at_call 213;refine(ng e n (tB e (k++[r])) _ _ a (d7.1.fr (d8.1 _ v)) (c2.1.fr (d8.1 _ v)) z).mono ?_;rintro v g ⟨a3,a9⟩;rw[aS (by rw[uS F.1.hr,zw F.1.hr,e3.1];rfl)] at a3;obtain⟨i6,rfl,a0⟩:=a3;rw[<-c3.1] at a0;obtain⟨b9,c6,rfl⟩:=a0.open_;exact X _ _ a9 ⟨_,_,Y,a0⟩
 .intro a B g z v
  have z:=g 5 J;simp only[rX,ξ] at B z g v |-;try simp only[g] at v
  go_simp;exact v _ _ rF z
 .intro a B v z g
  have z:=v 6 J;simp only[rX,ξ] at B z v g |-;try simp only[v] at g
  obtain⟨z,B,v,X⟩:=z;simp only[v] at g;go_simp;exact g _ _ rF ⟨_,_,Y,X⟩
 .intro a B v z g
  have z:=v 6 J;simp only[rX,ξ] at B z v g |-;try simp only[v] at g
  obtain⟨z,B,v,G⟩:=z;simp only[v] at g;go_simp;exact g _ _ rF Y
 .intro a X v z g
  simp only[rX,ξ] at X v g |-;try simp only[v] at g
  go_simp;exact g _ _ cZ ⟨_,Y,X.size,bM Y⟩
 .intro a B g v a0
  have v:=g 7 J;have z:=g 9 J;simp only[rX,ξ] at B v z g a0 |-;try simp only[g] at a0
  obtain⟨X,z,d9,a3⟩:=z;obtain⟨a9,b9,g,e0⟩:=v;simp only[z,g] at a0;obtain⟨g,v,z⟩:=oK a3;go_simp;have c6:oL x.heap.size 355 a ((a.setCell (H X 0) (I f)).setCell (H X 1) (.slice a9 f b9)):=(((Fr.refl (λg=>g=X) _).aK 0 _).aK 1 _).mono (λg _ c7=>by subst c7;exact⟨d9,_,_,a3⟩);exact a0 undef _ c6 ⟨X,Y,a9,b9,Y,aD (aD a3 0 _) 1 _,c6.gr e0⟩
 .intro a x v z g
  simp only[rX,ξ] at x v g |-;try simp only[v] at g
  go_simp;exact g _ _ rF trivial
 intro a a0 v;have g:=v 10 J J;simp only[rX,ξ] at g;clear v;simp only[Act.put,rC];obtain⟨g,a3,v,x,b9,X,a9⟩:=g;have⟨j9,g5,k2⟩:=dt a0.Fz (d8.1 _ a0) a9;obtain⟨o2,n7⟩:=M a;subst n7;have a:=bx X;have g:=dh X;have i7:f<=64:=gX h4.1 c3.1;rw[a3];clear a0 a9 X a3 b9 e1;go_wp2_with fail;clear a g;refine sg (nP f _ i7 o2 (d7.1.fr g5.1) _ k2.1) ?_;intro a f9 e1;obtain⟨⟨p1,n8,m7,rfl,b9,c6,f7,-⟩,a3⟩:=nX i7 e1;have⟨X,e0,HS,k4,k7⟩:=va (j9.1.step a3) (g5.1.step a3) b9 c6 f7;obtain⟨n9,c7⟩:=M n8.length;obtain⟨m4,m9,rfl,-,-,f8⟩:=b9.oH c7;have⟨m1,a0,e7,e9,i0,d9,h6,l2⟩:=SD f8 (X.1.hs (c4.1 _ _ _ A.1 J)) (X.1.hs (c4.1 _ _ _ b3.1 J)) (X.1.hs (c4.1 _ _ _ b4.1 J)) (X.1.hs (c4.1 _ _ _ e5.1 J)) (l6.1.f X.1) (l7.1.f X.1) (h2.1.f X.1);have h9:N (OK e.length (k++[r])):=Z (F.1.pth.snoc FT.1);have f4:N (Gf d k (left.set b a8)):=Z (Zc a1.1 b m0.1);have a9:N ((left.set b a8).length=b+1):=Z (by rw[dN,<-HRN.1]);clear a3 b9 c6 f7 c7 f8 e1;cases m7
 .have a:=e7.1
  have g:=e9.1;have v:=a0.1;obtain⟨s0,s1,s2,s3,-⟩:=gZ v;obtain⟨x,z,A,B,G⟩:=gZ a;have x:=(bC f9 i (I d) (.bool o) (.slice y b t) (.slice (S (H p 0)) (b+1) m)).aB g c.1.2.2.2.2.2.2.2.1;obtain⟨z,A,B,G,K⟩:=gZ x;obtain⟨z,A,K,P,G,B⟩:=yQ (h:=e) (lev:=n) a g (e0.1) c.1.1 c.1.2.1 (rS qJ) (h6.1) (d9.1.read) (I d) (.bool o) (.slice y b t) (.slice (S (H p 0)) (b+1) m) aI aV aV aV;have⟨Q,R,c6,RP,b9,a3⟩:=qK z A K P G B;clear a g v x z A K P G B;go_wp2;exact aO (cO Y _ _ _ i u 61 288 _ _ (0,0) (0,0) _ _ Y Q.1 Y underlying61 (by rw[C.1];rfl) Y R.1 Y underlying288 (by rw[D.1];rfl)) Y ⟨_,_,_,_,_,_,_,_,Y,f4.1,c6.1,RP.1,b9.1,a3.1⟩
 have i8:=bx i0.1;by_cases c6:b+1=f
 .have a:((b:T)+1==(f:T))=γ:=sO
  have i2:N (il e n 1):=Z (by
   obtain⟨g,a,-⟩:=k7.1 Y;rw[c3.1,uS F.1.hr] at a;exact⟨J,J,λ_=>Md F.1.hr e3.1 h9.1 (by rw[cA,eK,<-HPN.1,<-c3.1];exact c6) a,λa3=>by cases a3⟩)
  clear c6;have a3:=e7.1;have b9:=e9.1;have c7:=a0.1;obtain⟨s0,s1,s2,s3,-⟩:=gZ c7;obtain⟨a,g,v,x,z⟩:=gZ a3;have e1:=(bC f9 i (I d) (.bool o) (.slice y b t) (.slice (S (H p 0)) (b+1) m)).aB b9 c.1.2.2.2.2.2.2.2.1;obtain⟨a,g,v,x,z⟩:=gZ e1;obtain⟨f7,f8,g3,h3,g2,g1⟩:=yQ (h:=e) (lev:=n) a3 b9 (e0.1) c.1.1 c.1.2.1 (⟨_,_,_,Y,Jb i2.1 k4.1,m1.1,dJ,dJ⟩) (h6.1) (d9.1.read) (I d) (.bool o) (.slice y b t) (.slice (S (H p 0)) (b+1) m) (I 1) (.slice m4 n9 m9) aV aV;have⟨a,g,i1,RP,h8,h5⟩:=qK f7 f8 g3 h3 g2 g1;clear a3 b9 c7 e1 f7 f8 g3 h3 g2 g1;go_wp2;exact aO (cO Y _ _ _ i u 61 288 _ _ (0,0) (0,0) _ _ Y a.1 Y underlying61 (by rw[C.1];rfl) Y g.1 Y underlying288 (by rw[D.1];rfl)) Y ⟨_,_,_,_,_,_,_,_,Y,f4.1,i1.1,RP.1,h8.1,h5.1⟩
 have a:((b:T)+1==(f:T))=δ:=sO;have h8:N (b+1<=32):=Z (by have:=h9.1.len;have:=h4.1;rw[cA,eK,<-HPN.1] at*;omega);clear c6;have f7:=iU a0.1;have f8:=λa=>aG a0.1 a;go_upto_region 26 with fail;refine cT (λb9 c6=> ?_);have a3:bT l f9 b9:=by rw[c6];exact rF.aK _ _
 have i1:N (aY b9 l #[I d,.bool o,.slice c8 (b+1) d1,.slice (S (H p 0)) (b+1) m] 61):=Z (by rw[c6];exact aD a0.1 2 _);have e1:N (Fr j s b9):=Z (e0.1.keep a3 (λf a=>a▸c.1.2.2.1));have h3:=Z (l2.1.past iA a3 a0.1 J id);have h5:=Z (d9.1.aJ CR.aJ a3 (λa g1 c7=>by subst c7;exact(aW d9.1.row g1).2.ne ⟨_,_,a0.1⟩ J Y) (λf a c7 g3 g1=>by subst g1;exact g3.ne ⟨_,_,a0.1⟩ (λg2=>by subst g2;unfold fS at c7;revert c7;decide) Y));have⟨i2,i3⟩:=bD (a3.aB e7.1 c.1.2.2.2.1.symm) (a3.aB e9.1 c.1.2.2.2.2.1.symm);have a:=bx (a3.aB i0.1 c.1.2.2.2.2.2.1);have f:N (w.heap.size<=b9.heap.size):=Z (by have:=m2.1;have:=X.1.size;have:=a3.size;omega);have c7:N ((k++[r]).length=b+1):=Z (by rw[cA,eK,<-HPN.1]);clear c6 a3 i8 f7 f8;go_wp2_with fail;clear a;refine sg (Cz e d o (k++[r]) (left.set b a8) _ l w.heap.size c8 (S (H p 0)) d1 m _ b9 (d7.1.fr e1.1) (c2.1.fr e1.1) F.1.hr j3 (by rw[c7.1,a9.1];exact i1.1) (by rw[c7.1];exact h3.1) (by rw[a9.1];exact h5.1) f.1 (by rw[c7.1];omega) (by rw[a9.1];omega)) ?_;rintro a o3 ⟨⟨h,rfl⟩,g3,o5,g1,g2,o4,f8,f7,i9,a3⟩;rw[c7.1,a9.1] at f8;rw[a9.1] at f7 a3;have c6:∀a,(ζ.slice (S (H p 0)) (b+1) m).ownBlock=S a->w.heap.size<=a/\fE 30 b9 a:=λf a=>aW h5.1.row a;have⟨l8,l9⟩:=bD (a3.aB i2.1 (λa=>a.elim c.1.2.2.2.1.symm (λa=>fE.ne ⟨_,_,i2.1⟩ (c6 _ a).2 J Y))) (a3.aB i3.1 (λa=>a.elim c.1.2.2.2.2.1.symm (λa=>fE.ne ⟨_,_,i3.1⟩ (c6 _ a).2 J Y)));have j7:=Z (e1.1.keep a3 (λf a=>a.elim (λi8=>by subst i8;exact c.1.2.2.1) (λa=>bX c0.1.1 (c6 _ a).1)));have l3:=Z (h3.1.aJ iA a3 (λo0 a n5 i8 n1=>by
  obtain rfl:o0=3:=n5.elim id (λh=>h.elim);exact n1.elim (λn2=>by subst n2;exact i8.ne ⟨_,_,i1.1⟩ J Y) (λa=>i8.ne (c6 _ a).2 J Y)))
 have⟨g,k,i8⟩:=dt f8 f7.read i9;clear f8 f7 i9 a3 c6;have a:=l8.1;have f:=l9.1;have g:=g.1;obtain⟨s0,s1,s2,s3,-⟩:=gZ g;obtain⟨h,l,m,o,p⟩:=gZ a;have h:=(bC o3 i (I d) (.bool g3) (.slice c8 (b+1) d1) (.slice g1 (b+1+1) g2)).aB f c.1.2.2.2.2.2.2.2.1;obtain⟨l,m,o,p,r⟩:=gZ h;obtain⟨b,c,k,l,e,d⟩:=yQ (h:=e) (lev:=n) a f (j7.1) c.1.1 c.1.2.1 (rS qJ) (l3.1) (k.1) (I d) (.bool g3) (.slice c8 (b+1) d1) (.slice g1 (b+1+1) g2) aI aV aV aV;have⟨m,n,f7,RP,c6,a3⟩:=qK b c k l e d;clear a f g h b c k l e d;go_wp2;exact aO (cO Y _ _ _ i u 61 288 _ _ (0,0) (0,0) _ _ Y m.1 Y underlying61 (by rw[C.1];rfl) Y n.1 Y underlying288 (by rw[D.1];rfl)) Y ⟨_,_,_,_,_,_,_,_,Y,Ek (OM f4.1 (by rw[c7.1];have:=h8.1;omega)) (by rw[a9.1];have:=h8.1;omega) i8.1,f7.1,RP.1,c6.1,a3.1⟩
def SB(p:Hs)(s:T)(r:L Fc)(P:L Mk)(a:ε)(t:ζ):Prop:=∃c n b o d m g e k h f l i,t=.tuple #[.slice d m g,.agg #[I n,.slice e k h,.slice f l i,aV]]/\iy p s r P c n b o/\b.length<=64/\Sl 279 5 MC a (.slice d m g) c/\Sl 3 1 CI a (.slice e k h) b/\Sl 146 4 NC a (.slice f l i) o
theorem SB.fr{b:Hs}{P:L Mk}(c:SB b i1 F P W x)(a:Fr j W V):SB b i1 F P V x:=by
 obtain⟨b,u,t,v,c,s,f,d,p,n,e,r,o,g,m,l,h,i,k⟩:=c;exact⟨b,u,t,v,c,s,f,d,p,n,e,r,o,g,m,l,h.f a,i.f a,k.f a⟩
theorem SB.tq{c:Hs}{P:L Mk}{q:E}(e:SB c i1 F P W x)(b:TQ [(q,t)] W V)(a:t≠3)(d:t≠146)(n:t≠279):SB c i1 F P V x:=by
 obtain⟨c,z,y,A,e,w,h,f,u,r,g,v,s,i,p,o,k,l,m⟩:=e;exact⟨c,z,y,A,e,w,h,f,u,r,g,v,s,i,p,o,b.sl k MC.aJ (by simp[AF,fS,dX n,a,d]),b.sl l iA (by simp[dX a]),b.sl m NC.aJ (by simp[fS,dX d,a])⟩
def adG(n:Hs)(p:T)(o:L Fc)(P:L Mk)(s:iS)(g:E)(r:ε)(m:Ending)(a:ε):Prop:=
 ∃c h b i k l d f e,m=.returned (yL h k l aV)/\iy n p o P c h b i/\b.length<=64/\aY a g (ei {s with am:=d,mn:=f,cm:=e}) 66/\Sl 279 5 MC a (.slice d f e) c/\Sl 3 1 CI a k b/\Sl 146 4 NC a l i/\bT g r a
theorem Ur{b:θ ζ}(d:∀a,(a<13\/14<=a)->b[a]? =(ei x3)[a]?)(c:b[13]? =S (.slice A m q)):b=ei {x3 with am:=A,mn:=m,cm:=q}:=by
 apply kF;intro a;rcases(show a=13\/(a<13\/14<=a) by omega) with rfl|e
 .exact c
 rw[d a e];have f:ei {x3 with am:=A,mn:=m,cm:=q}=(ei x3).setIfInBounds 13 (.slice A m q):=Y;rw[f,ew O]
theorem Cv(n:Hs)(c:iS)(b:E)(m:L Fc)(P:L Mk)(e:ε)(F:Gl e)(d:e.heap[b]? =S (.cells (ei c) 66 (0,0)))(a6:eJ e (.agg #[.slice c.ah c.hN c.ch]) n)(a7:Sl 276 7 CF e (.slice c.af c.fn c.cf) m)(a5:m.length<=fV)(a9:Sl 279 5 MC e (.slice c.am c.mn c.cm) P)(b1:oY P<=100000000000)(f:∀a∈P,Su a.dn)(g:∀a∈P,qZ a.c):
  aQ 136 #[aP b 0] e (adG n c.eY m P c b e):=by
 have⟨U,V⟩:=bD f g;have k:N (∀a,Fr j e a->a.heap[b]? =S (.cells (ei c) 66 (0,0))):=Fr.all d;have a0:b<e.heap.size:=(ba d);have HI:=Z (show(prog.info? 288).map (·.size)=S 4 by kernel_rfl);clear f g d
 delta aQ;go_in
 go_upto_region 1 with fail;refine cT (λg l=> ?_);obtain⟨d,i⟩:=M e.heap.size;rw[<-i];have f:=cY l;have X:=dL l i;have h:N (d≠b/\e.heap.size<=d):=Z (oB a0);clear l i;have b5:=λa(i:Fr j g a)=>bx (k.1 _ (f.step i));have b6:=λa(i:Fr j g a)=>dh (k.1 _ (f.step i));have b8:=λa(i:Fr j g a)=>iU (k.1 _ (f.step i));have b7:=λa(i:Fr j g a)=>adw (k.1 _ (f.step i));refine gL [] [23,24] [1,2,3,4,5,6,7,8,9,10,11,12,13,14,15,16,17,18] (λix=>if ix=23 then λg i=>TQ [(b,66)] g i/\iW b 13 14 66 g i else λg i=>TQ [(d,288)] g i/\iW d 0 100 288 g i) (uX b 13 14 66 d 288) [[],[],[1],[1,2],[1,2,3],[],[5],[5,6],[5,6,7],[],[9],[9,10],[9,10,11],[],[13],[13,14],[13,14,15],[1,2,3,4,5,6,7,8,9,10,11,12,13,14,15,16],[1,2,3,4,5,6,7,8,9,10,11,12,13,14,15,16,17],[1,2,3,4,5,6,7,8,9,10,11,12,13,14,15,16,17,18],[1,2,3,4,5,6,7,8,9,10,11,12,13,14,15,16,17,18],[0],[0,21],[0,1,2,3,4,5,6,7,8,9,10,11,12,13,14,15,16,17,18,19,21,22],[1,2,3,4,5,6,7,8,9,10,11,12,13,14,15,16,17,18,20]] [.eq 0 (aP b 0),.eq 1 (aP b 0),.eq 2 (aP b 0),.eq 3 (aP b 0),.eq 4 (.agg #[.slice c.ah c.hN c.ch]),.eq 5 (aP b 0),.eq 6 (aP b 0),.eq 7 (aP b 1),.eq 8 (I c.eY),.eq 9 (aP b 0),.eq 10 (aP b 0),.eq 11 (aP b 2),.eq 12 (.slice c.af c.fn c.cf),.eq 13 (aP b 0),.eq 14 (aP b 0),.eq 15 (aP b 13),.eq 16 (.slice c.am c.mn c.cm),.w1 17 (λg a=>SB n c.eY m P a g),.w1 18 (λg a=>SB n c.eY m P a g),.w2 18 19 (λg i a=>∃l p o r,g=.tuple #[.slice l p o,r]/\i=.slice l p o),.w2 18 20 (λg i a=>∃v u l s p o t r,g=.tuple #[v,.agg #[I u,.slice l s p,.slice o t r,aV]]/\i=.agg #[I u,.slice l s p,.slice o t r,aV]),.eq 21 (aP b 0),.eq 22 (aP b 13),.w2 18 19 (λg i a=>∃l p o r,g=.tuple #[.slice l p o,r]/\i=.slice l p o/\∃r:θ ζ,a.heap[b]? =S (.cells r 66 (0,0))/\r[13]? =S (.slice l p o)),.w2 18 20 (λg i a=>∃v u l s p o t r,g=.tuple #[v,.agg #[I u,.slice l s p,.slice o t r,aV]]/\i=.agg #[I u,.slice l s p,.slice o t r,aV]/\a.heap[d]? =S (.cells #[I u,.slice l s p,.slice o t r,aV] 288 (0,0)))] [[0],[1],[2],[3],[4],[5],[6],[7],[8],[9],[10],[11],[12],[13],[14],[15],[16],[17],[18],[18,19],[18,20],[21],[22],[18,19],[18,20]] kR kR kR kR Y (λ_ _ _ _ i g=>⟨i.symm.trans g.1,g.2⟩) (λ_ _ g=>uX.of g) (λ_ _ _ g i=>g.trans i) ?hma ?hstab ?hstabM (λg=> ?_)
 case hma=>
  intro p g i o l;simp only[rB] at g;rcases g with rfl|rfl
  .exact⟨l.1.1.mono (λi _ ⟨o,g,_⟩=>.inl (sU (cH Prod.fst (cX.1 g)))),l.2,iW.apart l.1.1 (λ⟨i,g,_⟩=>h.1.1 (sU (cH Prod.fst (cX.1 g))))⟩
  exact⟨l.1.1.mono (λi _ ⟨o,g,_⟩=>.inr (sU (cH Prod.fst (cX.1 g)))),iW.apart l.1.1 (λ⟨i,g,_⟩=>h.1.1.symm (sU (cH Prod.fst (cX.1 g)))),l.2⟩
 case hstab=>refine⟨?_,?_,?_,?_,?_,?_,?_,?_,?_,?_,?_,?_,?_,?_,?_,?_,?_,?_,?_,?_,?_,?_,?_,?_,?_,trivial⟩<;>first|exact Lu|exact λ_ _ _ i g=>SB.fr i g|exact λ_ _ _ ⟨g,u,l,i,p,r,o,t,v⟩ s=>⟨g,u,l,i,p,r,o,s.aB t id,v⟩|exact λ_ _ _ ⟨g,x,i,v,t,l,w,u,o,p,s⟩ r=>⟨g,x,i,v,t,l,w,u,o,p,r.aB s id⟩
 case hstabM=>
  intro i g;simp only[rB] at g;rcases g with rfl|rfl;all_goals(refine⟨?_,?_,?_,?_,?_,?_,?_,?_,?_,?_,?_,?_,?_,?_,?_,?_,?_,?_,?_,?_,?_,?_,?_,?_,?_,trivial⟩<;>first|exact wZ|exact λ_ _ _ _ _ _ g i=>SB.tq g i.1 J J J|exact λ_ _ _ _ _ _ ⟨g,u,l,i,p,r,o,s,v⟩ t=>⟨g,u,l,i,p,r,o,t.1.obj s (sU h.1.1),v⟩|exact λ_ _ _ _ _ _ ⟨g,x,i,v,s,l,w,t,o,p,r⟩ u=>⟨g,x,i,v,s,l,w,t,o,p,u.1.obj r (sU h.1.1.symm)⟩)
 refine⟨?_,?_,?_,?_,?_,?_,?_,?_,?_,?_,?_,?_,?_,?_,?_,?_,?_,?_,?_,?_,?_,?_,?_,?_,?_,?_⟩;all_goals first|exact Ca|skip
 .intro a g i C l
  simp only[rX,ξ] at g i l |-;try simp only[i] at l
  go_simp;go_at_call 178;refine(Mq n c.eY m P _ _ _ a (F.fr (f.step g)) (a6.fr (f.step g)) (a7.f (f.step g)) (a9.f (f.step g)) a5 b1 U.1 V.1).mono ?_;rintro i g ⟨c,o,A,z,B,m,n,rfl,y,x,r,t,v,p⟩;obtain⟨D,Q,rfl,-,-,s⟩:=r.oH Y;obtain⟨G,R,rfl,-,-,u⟩:=t.oH Y;obtain⟨K,W,rfl,-,-,w⟩:=v.oH Y;exact l _ _ p ⟨o,A,z,B,_,_,_,_,_,_,_,_,_,Y,y,x,s,u,w⟩
 .intro a m c i g
  have l:=c 1 J;have i:=c 17 J;simp only[rX,ξ] at m l i c g |-;try simp only[c] at g
  go_simp;exact g _ _ rF i
 .intro a m c i g
  have l:=c 1 J;have i:=c 18 J;simp only[rX,ξ] at m l i c g |-;try simp only[c] at g
  obtain⟨n,w,v,x,c,m,i,o,t,r,p,u,s,l,-⟩:=i;simp only[l] at g;go_simp;exact g _ _ rF ⟨c,m,i,_,Y,Y⟩
 .intro a m c i g
  have l:=c 1 J;have i:=c 18 J;simp only[rX,ξ] at m l i c g |-;try simp only[c] at g
  obtain⟨s,r,w,x,t,v,u,c,o,m,i,p,n,l,-⟩:=i;simp only[l] at g;go_simp;exact g _ _ rF ⟨_,r,c,o,m,i,p,n,Y,Y⟩
 .intro a l c g i
  have m:=c 1 J;have g:=c 19 J;simp only[rX,ξ] at l m g c i |-;try simp only[c] at i
  obtain⟨c,m,g,r,s,t⟩:=g;obtain⟨n,u,l,-⟩:=l.2.1 _ (k.1 _ f);have p:n.size=28:=u;have n:a.cell? (H b 13)=S n[13]:=by rw[aj l];simp[p]
  have n:=λn=>aG l n;simp only[s,t] at i;go_simp;have n:bT b a (a.setCell (H b 13) (.slice c m g)):=(Fr.refl (λn=>n=b) a).aK 13 _;have o:=aD l 13 (.slice c m g);have l:TQ [(b,66)] a (a.setCell (H b 13) (.slice c m g)):=TQ.one sI l n o sI;exact i undef _ ⟨l,iW.set _ J J⟩ ⟨c,m,g,r,Y,Y,_,o,by simp[p]⟩
 .intro a i c g p
  have m:=c 2 J;have g:=c 20 J;simp only[rX,ξ] at i m g c p |-;try simp only[c] at p
  obtain⟨y,v,l,t,r,o,u,s,z,A⟩:=g;obtain⟨c,B,w,-⟩:=i.2.2 _ X.1;obtain⟨C,D,G,K,rfl⟩:=Hz B;obtain⟨c,g,i,m,n⟩:=gZ w;simp only[z,A] at p;go_simp;have x:=bP w (I v) (.slice l t r) (.slice o u s) aV;have g:TQ [(d,288)] a (gN a d (I v) (.slice l t r) (.slice o u s) aV):=TQ.one sI w (bC _ _ _ _ _ _) x Y;have c:iW d 0 100 288 a (gN a d (I v) (.slice l t r) (.slice o u s) aV):=(((iW.set _ J J).trans (iW.set _ J J)).trans (iW.set _ J J)).trans (iW.set _ J J);exact p undef _ ⟨g,c⟩ ⟨y,v,l,t,r,o,u,s,Y,Y,x⟩
 intro a r c;have g:=c 18 J J;have i:=c 23 J J;have m:=c 24 J J;simp only[rX,ξ] at g i m;clear c;simp only[Act.put,rC];obtain⟨W,t,b3,b4,a1,b2,a2,u,B,z,v,C,A,c,b0,a8,K,Q,R⟩:=g;obtain⟨g,F,n,i,o,-,a3,l,w⟩:=i;obtain⟨g,X,i,U,n,m,V,F,p,-,s⟩:=m;rw[c] at o p;simp only[ζ.tuple.injEq,kI,iY,cM,ku,ζ.int.injEq,gT,ll] at o p;obtain⟨⟨rfl,rfl,rfl⟩,-⟩:=o;obtain⟨-,rfl,⟨rfl,rfl,rfl⟩,rfl,rfl,rfl⟩:=p;obtain⟨a4,-,x,y⟩:=r.2.1 _ (k.1 _ f);obtain rfl:a4=a3:=by rw[x] at l;simpa using l
 have EQ:=Ur y w;rw[EQ] at l;have D:bT b e a:=f.trans r.1 (λ_ _ b=>b.elim) (λe c b=>b.elim (λb=>b) (λb=>absurd c (oB h.1.2)));have⟨G,b⟩:=bD l s;obtain⟨f,c,e,g,i⟩:=gZ s;clear r x y w EQ l s b5 b6 b8 b7;go_wp2;have l:TQ [(d,288)] a (gN a d (I t) (.slice u B z) (.slice v C A) aV):=TQ.one sI b.1 (bC _ _ _ _ _ _) (bP b.1 _ _ _ _) Y;exact aO (bO Y _ _ _ d 288 _ (0,0) _ Y (bP b.1 (I t) (.slice u B z) (.slice v C A) aV) Y underlying288 tZ) Y ⟨W,t,b3,b4,_,_,a1,b2,a2,Y,b0,a8,l.obj G.1 (sU h.1.1),l.sl K MC.aJ (by simp[AF,fS]),l.sl Q iA sI,l.sl R NC.aJ (by simp[fS]),D.trans (bC _ _ _ _ _ _) (λ_ _ a=>a) (λc a b=>absurd a (oB h.1.2))⟩
section
open Go.RowKit Go.Shelf
attribute [local go_sem] mB
def Bj(a:Ch)(b:E):Fc:=⟨a,3,(b:T),0,[]⟩
def GV(b:E)(a:Ch):L Fc:=⟨a,1,0,0,[]⟩::(L.range b).map (Bj a)
def Sp(a:Fc):ζ:=Qd a aV
def HP(a:Ch)(e:ζ)(d c:E)(b:ε):Prop:=aY b d #[I a.k,I a.a,I a.b] 144/\aY b c #[e] 54
theorem Ul(b:q<m)(a:Ch):((L.range m).drop q).map (Bj a)=Bj a q::((L.range m).drop (q+1)).map (Bj a):=by
 rw[wD b];rfl
theorem YF(a:E)(b:Ch)(e d:E)(s:ι Addr)(t:E)(z:a<=maxLen):
  Itr (HP b (.slice s a t) e d) 275 #[aP e 0,aP d 0] Sp (GV a b) []:=by
 intro u A g B v o c r m;refine nH.2 ?_;have n:∀i h f,g i h f->aY f e #[I b.k,I b.a,I b.b] 144:=(λk h f i=>(c k h f i).1);have w:∀i h f,g i h f->aY f d #[.slice s a t] 54:=(λk h f i=>(c k h f i).2);obtain⟨i,k,l,-⟩:=mD (n _ _ _ m);obtain⟨t,B,m,s,f,h⟩:=r [] _ _ [] v Y m;unfold Sp Qd at f;simp only at f;unfold maxLen at z;clear o c;show aQ 275 #[.func (.yield A) #[] #[],aP e 0,aP d 0] v _;go_enter func275,ntmps275;go_upto_region 0 with fail;refine(gS (n:=u)).1 ?_;gi_wp2;refine⟨λc=>by simp[Fence.wide] at c,h.mono ?_⟩;clear h i k l;rintro d e (⟨rfl,c,h⟩|⟨rfl,c⟩)
 case' inr=>
  gi_wp2;go_wp2;refine aO (io Y _ _ _) Y ?_;exact⟨⟨_,Y⟩,.inr c⟩
 have x:=c;have d:=bx (w _ _ _ c);clear c h f;gi_wp2;go_wp2_with fail;clear d;go_loopg [4,13] a (λgk s4 s13 wr=>∃(c:E)(d:L Fc)(e:L E),c+gk=a/\s13=I c/\d++((L.range a).drop c).map (Bj b)=GV a b/\g d e wr)
 .exact⟨0,_,_,du,Y,Y,x⟩
 case round=>
  obtain⟨c,f,i,HK,rfl,o,h⟩:=hrel;have d:c<=a:=O;by_cases d:c<a
  .have p:f++Bj b c::((L.range a).drop (c+1)).map (Bj b)=GV a b:=(by rw[<-o,Ul d])
   obtain⟨e,g,k,-⟩:=mD (n _ _ _ h);obtain⟨r,s,m,n,l,d⟩:=r f _ _ i wr p.symm h;unfold Sp Qd Bj at l;simp only at l;refine(gS (n:=u)).1 ?_;gi_wp2;refine⟨λm=>by simp[Fence.wide] at m,d.mono ?_⟩;clear d e g k;rintro d e (⟨rfl,k,y⟩|⟨rfl,k⟩)
   case' inr=>
    gi_wp2;go_wp2;refine aO (io Y _ _ _) Y ?_;exact⟨⟨_,Y⟩,.inr k⟩
   clear y l;gi_wp2;go_wp2;go_roundg (gk-1)
   .exact⟨c+1,f++[Bj b c],i,O,by go_num,by have:=p;rw[dm];exact this,k⟩
   omega
  have k:f=GV a b:=(by
   have:=o;rw[mq sO] at this;simpa using this)
  go_wp2;go_end0
  exact⟨⟨_,Y⟩,.inl ⟨i,k▸h⟩⟩
theorem Xo(b c d e:ζ)(a:ε):aQ 216 #[.agg #[b],.agg #[c,d,e]] a λg f=>g=.returned (.func (.func 275) #[] #[aP (a.heap.size+1) 0,aP a.heap.size 0])/\f=(a.alloc (.cells #[b] 54)).alloc (.cells #[c,d,e] 144):=by
 delta aQ;go_in
 go_wp2;go_ret;simp
end
section
open Go.RowKit Go.Shelf
attribute [local go_sem] mB
def acq(d:Hs)(e:T)(g:ε)(c:Ending)(a:ε):Prop:=∃b f,c=.returned b/\jm d e 1 a b f/\Fr j g a
theorem D4{q:E}(a:∀b,(W.alloc b).heap[q]? =S (.cells #[x,v1,v2,v3] t (0,0))):
  (∀b,(W.alloc b).cell? (H q 0)=S x)/\(∀b,(W.alloc b).cell? (H q 1)=S v1)/\(∀b,(W.alloc b).cell? (H q 2)=S v2)/\(∀b,(W.alloc b).cell? (H q 3)=S v3)/\∀c b,(W.alloc c).frozen? (H q b)=δ:=
 ⟨λb=>aj (a b) 0,λb=>aj (a b) 1,λb=>aj (a b) 2,λb=>aj (a b) 3,λc b=>aG (a c) b⟩
theorem D4'{q:E}(a:aY W q #[x,v1,v2,v3] t):
  W.cell? (H q 0)=S x/\W.cell? (H q 1)=S v1/\W.cell? (H q 2)=S v2/\W.cell? (H q 3)=S v3/\∀b,W.frozen? (H q b)=δ:=
 ⟨aj a 0,aj a 1,aj a 2,aj a 3,λb=>aG a b⟩
theorem wj{c:Hs}{q:E}{g:θ ζ}{o:rK}{Ds:L E}(HI:(prog.info? 288).map (·.size)=S 4)(r:g.getD 4 undef=aP q 0)
  (f:aY V q #[I o.said,x,v1,v2] 288)(p:oD c i1 1 o)(h:Sl 3 1 CI V x o.ord)(i:Sl 146 4 NC V v1 o.tree)(k:Sl 276 7 CF V v2 o.fs)(l:Fr j W V)
  (n:Ds.Nodup)(d:∀a∈Ds,V.heap[a]? =S (.deferred (S [])))(m:∀a∈Ds,W.heap.size<=a):LeavesInM Fence.wide 9 prog Tryz.f175 g (acq c i1 W) (Ds.map mark) .returning V:=by
 have b:∀{c:TypeId}{a:E},fE c V a->a ∉ Ds:=λ⟨g,a,e⟩ c=>by rw[d _ c] at e;cases e
 refine jJ (v:=yL o.said x v1 v2) Ds _ n d (λc a=> ?_) (λc a=> ?_)
 .exact bO Y _ _ _ q 288 _ (0,0) _ r (a.aB f (b ⟨_,_,f⟩)) Y underlying288 (by rw[HI];rfl)
 exact⟨_,o,Y,⟨_,_,_,Y,p,h.aJ iA a (λ_ _ _=>b),i.aJ NC.aJ a (λ_ _ _=>b),k.aJ CF.aJ a (λ_ _ _=>b)⟩,l.keep a m⟩
def fc0(a:Fc):L ζ:=[I a.c.k,I a.c.a,I a.c.b,I a.kind,I a.i,I a.j,aV]
def C0:ε->L ζ->Fc->Prop:=Pl fc0
theorem C0s:dU (λ_=>False) C0:=Pl.aJ fc0 _
theorem C0.sl(b:Sl 276 7 C0 W x F)(i:∀a∈F,a.cy=[]):Sl 276 7 CF W x F:=by
 obtain⟨a,b,k,c,d,e,f,g,h⟩:=b;refine⟨a,b,k,c,d,e,f,g,λc b a=> ?_⟩;obtain⟨c,d,e,f⟩:=h c b a;exact⟨c,d,⟨_,e,by rw[i b (bQ a)];exact dJ⟩,f⟩
theorem Sz:dK prog 55 276 7 72:=dK.of underlying55 (z:=.agg #[aI,aI,aI,aI,aI,aI,aV]) kR Y J
structure SS(w6:ε)(q:E)(X:List (E×Obj))(fs:List Fc)(Ds bs:List E)(W:ε):Prop where
 row:∃a c L,aY W q #[I 3,aV,aV,.slice a fs.length c] 288/\cC w6.heap.size 276 7 C0 W (.slice a fs.length c) fs L/\∀k,(ζ.slice a fs.length c).ownBlock=S k->k ∉ bs
 cy:∀f∈fs,f.cy=[]
 fr:bT q w6 W
 nd:Ds.Nodup
 ds:∀D∈Ds,w6.heap.size<=D/\W.heap[D]? =S (.deferred (S []))/\D ∉ bs
 bb:∀b∈bs,w6.heap.size<=b/\b<W.heap.size
 xs:∀x∈X,W.heap[x.1]? =S x.2/\x.1 ∉ bs/\x.1≠q/\∀cs f,x.2≠.cells cs 276 f
section
variable {w6:ε} {q:E} {X:L (E×Obj)} {fs:L Fc} {Ds bs bs':L E} {W W':ε}
theorem SS.kept(a:q<w6.heap.size)(d:SS w6 q X fs Ds bs W)(c:Fr (λa=>a∈bs) W W')(p:∀b∈bs',b∈bs\/(W.heap.size<=b/\b<W'.heap.size)):SS w6 q X fs Ds bs' W':=by
 obtain⟨⟨g,r,d,s,m,n⟩,t,o,u,e,i,f⟩:=d;have l:∀{a:E}{h:Obj},W.heap[a]? =S h->a ∉ bs->a ∉ bs':=λh l k=>(p _ k).elim l (λl=>by have:=ba h;omega);refine⟨⟨g,r,d,c.aB s (λd=>by have:=i _ d;omega),m.aJ C0s c n (λ_ _ d=>d.elim),λa h=> ?_⟩,t,o.trans c (λ_ _ d=>d) (λd r g=>by have:=i d g;omega),u,λd g=>⟨(e d g).1,c.aB (e d g).2.1 (e d g).2.2,l (e d g).2.1 (e d g).2.2⟩,λb k=> ?_,λe d=>⟨c.aB (f e d).1 (f e d).2.1,l (f e d).1 (f e d).2.1,(f e d).2.2⟩⟩
 .obtain⟨-,e,f,d⟩:=aW m.row h
  exact l d (n a h)
 have:=c.size
 have:=o.size;rcases p b k with a|a
 .have:=i b a;omega
 omega
theorem SS.add(a:SS w6 q X fs Ds bs W){b:E×Obj}(h:W.heap[b.1]? =S b.2)(e:b.1 ∉ bs)(f:b.1≠q)(g:∀c d,b.2≠.cells c 276 d):SS w6 q (b::X) fs Ds bs W:=
 ⟨a.row,a.cy,a.fr,a.nd,a.ds,a.bb,λd b=>(cK.1 b).elim (λc=>by subst c;exact⟨h,e,f,g⟩) (a.xs d)⟩
theorem SS.less{Y:L (E×Obj)}(a:SS w6 q X fs Ds bs W)(c:∀b∈Y,b∈X):SS w6 q Y fs Ds bs W:=⟨a.row,a.cy,a.fr,a.nd,a.ds,a.bb,λb d=>a.xs b (c b d)⟩
theorem SS.mark(f:SS w6 q X fs Ds bs W){a:E}(e:a∈bs)(r:W.heap[a]? =S (.deferred (S []))):SS w6 q X fs (a::Ds) [] W:=by
 obtain⟨⟨g,h,f,k,l,s⟩,m,n,o,b,p,d⟩:=f;exact⟨⟨g,h,f,k,l,λ_ _=>by simp⟩,m,n,mu.2 ⟨λc=>(b a c).2.2 e,o⟩,λc a=>(cK.1 a).elim (λi=>by subst i;exact⟨(p _ e).1,r,sI⟩) (λa=>⟨(b c a).1,(b c a).2.1,sI⟩),sI,λb a=>⟨(d b a).1,sI,(d b a).2.2⟩⟩
theorem SS.push{s i:ε}{h:Fc}{t:L (L ζ)}{k f:ι Addr}{l g e:E}(d:fs.length=e)(u:q<w6.heap.size)(b:SS w6 q X fs Ds bs W)(o:Fr j W s)(z:aY W q #[I 3,aV,aV,.slice k e l] 288)
  (B:cC w6.heap.size 276 7 C0 s (.slice k e l) fs t)(y:∀a,(ζ.slice k e l).ownBlock=S a->a ∉ bs)(F:h.cy=[])(x:cC w6.heap.size 276 7 C0 i (.slice f (e+1) g) (fs++[h]) (t++[fc0 h]))(n:mV w6.heap.size (.slice k e l) s i)
  (C:(ζ.slice f (e+1) g).ownBlock=(ζ.slice k e l).ownBlock\/∀a,(ζ.slice f (e+1) g).ownBlock=S a->s.heap.size<=a):
  SS w6 q X (fs++[h]) Ds bs (i.setCell (H q 3) (.slice f (e+1) g))/\nZ bs W (i.setCell (H q 3) (.slice f (e+1) g))/\aY i q #[I 3,aV,aV,.slice k e l] 288:=by
 subst d;have r:bT q i (i.setCell (H q 3) (.slice f (fs.length+1) g)):=rF.aK 3 _;have D:∀c∈bs,c≠q:=λc d m=>by have:=(b.bb c d).1;omega
 have A:∀{a:E}{s:Obj},W.heap[a]? =S s->a≠q->¬(ζ.slice k fs.length l).ownBlock=S a->(i.setCell (H q 3) (.slice f (fs.length+1) g)).heap[a]? =S s:=λe u i=>r.aB (n.1.aB (o.hs e) i) u;have w:∀{a:E}{s:Obj},W.heap[a]? =S s->(∀u v,s≠.cells u 276 v)->¬(ζ.slice k fs.length l).ownBlock=S a:=λe l m=>by
  obtain⟨-,u,k,i⟩:=aW B.row m;exact l u k (cI ((o.hs e).symm.trans i))
 have i:=n.1.aB (o.hs z) (w z sI);have k:=o.size;have k:=n.1.size;have k:=r.size;refine⟨⟨⟨f,g,t++[fc0 h],?_,?_,?_⟩,?_,?_,b.nd,λk l=>⟨(b.ds k l).1,A (b.ds k l).2.1 (λm=>by have:=(b.ds k l).1;omega) (w (b.ds k l).2.1 sI),(b.ds k l).2.2⟩,λc d=>by have:=b.bb c d;omega,λl k=>⟨A (b.xs l k).1 (b.xs l k).2.2.1 (w (b.xs l k).1 (b.xs l k).2.2.2),(b.xs l k).2⟩⟩,⟨O,λc d=> ?_⟩,i⟩
 .have:=aD i 3 (.slice f (fs.length+1) g)
  simpa using this
 .rw[cA,eK]
  exact x.aJ C0s r (λa e m=>by have:=(aW x.row e).1;omega) (λ_ _ h=>h.elim)
 .intro a e d
  rw[cA,eK] at e;rcases C with f|f
  .exact y a (f▸e) d
  have g:=f a e
  have:=(b.bb a d).2;omega
 .intro v p
  rcases cB.1 p with p|p
  .exact b.cy v p
  simp at p;subst p;exact F
 .exact((b.fr.step o).trans n.1 (U:=λa=>a=q) (λ_ _ h=>h) (λa e m=>by have:=n.2 a m;omega)).tr r
 rw[r.block c (oB (b.bb c d)) (D c d),n.1.block c (oB (b.bb c d)) (λm=>y c m d),o.block c (b.bb c d).2 id]
end
theorem acg{q:E}(a:aY W q #[I i1,I i2,I i3,I i1,I i3,I i2] 144)(b:m<2):
  ∃b:Ch,W.cell? (H q (m*3))=S (I b.k)/\W.cell? (H q (m*3+1))=S (I b.a)/\W.cell? (H q (m*3+2))=S (I b.b):=by
 rcases(show m=0\/m=1 by omega) with rfl|rfl
 .exact⟨⟨i1,i2,i3⟩,aj a 0,aj a 1,aj a 2⟩
 exact⟨⟨i1,i3,i2⟩,aj a 3,aj a 4,aj a 5⟩
theorem abk{n:E}{c:Ch}{x:Fc}(a:x∈GV n c):x.cy=[]:=by
 simp only[GV,cK,dE] at a;rcases a with rfl|⟨b,-,rfl⟩<;>rfl
def ZA(a:E->ζ):θ ζ:=#[a 0,a 1,a 2,a 3,a 4,a 5,a 6,a 7,a 8,a 9,a 10,a 11,a 12,a 13,a 14,a 15,a 16,a 17,a 18,a 19,a 20,a 21,a 22,a 23,a 24,a 25,a 26,a 27,a 28,a 29,a 30,a 31,a 32,a 33,a 34,a 35,a 36,a 37,a 38,a 39,a 40,a 41,a 42,a 43,a 44,a 45,a 46,a 47,a 48,a 49,a 50,a 51,a 52,a 53,a 54,a 55,a 56,a 57,a 58,a 59,a 60,a 61,a 62,a 63,a 64,a 65,a 66,a 67,a 68,a 69,a 70,a 71,a 72,a 73,a 74,a 75,a 76,a 77,a 78,a 79,a 80,a 81,a 82,a 83,a 84]
theorem FV(a:E->ζ):ZA a=#[a 0,a 1,a 2,a 3,a 4,a 5,a 6,a 7,a 8,a 9,a 10,a 11,a 12,a 13,a 14,a 15,a 16,a 17,a 18,a 19,a 20,a 21,a 22,a 23,a 24,a 25,a 26,a 27,a 28,a 29,a 30,a 31,a 32,a 33,a 34,a 35,a 36,a 37,a 38,a 39,a 40,a 41,a 42,a 43,a 44,a 45,a 46,a 47,a 48,a 49,a 50,a 51,a 52,a 53,a 54,a 55,a 56,a 57,a 58,a 59,a 60,a 61,a 62,a 63,a 64,a 65,a 66,a 67,a 68,a 69,a 70,a 71,a 72,a 73,a 74,a 75,a 76,a 77,a 78,a 79,a 80,a 81,a 82,a 83,a 84]:=Y
theorem Ai{c:θ ζ}(d:c.size=85):c=ZA (λa=>c.getD a undef):=by
 apply kF;intro a;rcases dP a 85 with b|b
 .have:∀a<85,∀c:E->ζ,(ZA c)[a]? =S (c a):=by
   intro a b c;unfold ZA;simp only[sJ];iterate 85 (cases a with|zero=>rfl|succ a=> ?_)
   omega
  rw[this a b];simp[θ.getD,d,b]
 rw[kC O,kC (by unfold ZA;simpa using b)]
theorem IQ(b:Hs)(l:T)(f8:ζ)(B:ε)(h2:Gl B)(d0:eJ B f8 b):aQ 175 #[f8,I l] B (acq b l B):=by
 have⟨b5,b3⟩:=bD d0 h2;have HI:=Z (show(prog.info? 288).map (·.size)=S 4 by kernel_rfl);obtain⟨k1,rfl,i6⟩:=d0;obtain⟨w,x,rfl,-,k0⟩:=i6.slice;refine fC func175 rfl ?_;simp only[ntmps175,ko,bW,fq,E.reduceAdd,E.reduceSub,lL,lz,lE,lF,eW,im];go_wp2_with fail;refine aZ.nm (λd0 c=> ?_);obtain⟨t,d⟩:=M B.heap.size;obtain⟨z,e⟩:=M (t+1);obtain⟨u,f⟩:=M (z+1);rw[<-d,<-e,<-f];have p:=fa3 c;have e0:=qa2 c d;have h3:N (∀a,Fr j d0 a->aY a z #[I l] 3):=Fr.all (by rw[c];exact aC (bM sO) _);have P:N (∀a,Fr j d0 a->aY a u #[aI,aV,aV,aV] 288):=Fr.all (by rw[c];exact bM sO);have a4:N (B.heap.size<=t/\t<u/\z<u/\B.heap.size<=u):=Z O;clear c d e f;refine sg (ng b l [] _ _ d0 (b3.1.fr p.1) (b5.1.fr p.1) dJ) ?_;rintro d0 j4 ⟨b1,c5⟩;by_cases a5:(dw b []&&ep l)=γ
 case neg=>
  rw[aR a5] at b1;subst b1;have c:=(λc=>P.1 _ (c5.alloc c));obtain⟨d,e,f,g,h⟩:=D4 c;go_wp2;exact wj (Ds:=[]) (o:=⟨3,[],[],[]⟩) HI.1 rfl (bP (c _) _ _ _ _) (jV sL) dJ dJ dJ ((p.1.step (c5.alloc _)).keep (bC _ _ _ _ _ _) (λd c=>c▸a4.1.2.2.2)) sI sI sI
 have RR:N (bm b=γ/\ep l=γ):=Z (by simp[dw] at a5;exact⟨a5.1,a5.2⟩);rw[aS a5] at b1;obtain⟨j9,rfl,f1⟩:=b1;have⟨b6,b4⟩:=bD (bK RR.1.1) f1;obtain⟨sg,rfl,i5⟩:=f1;obtain⟨j5,j7,rfl,-,-⟩:=i5.slice;rw[bY] at b4 |-;obtain⟨G,c⟩:=M b.length;rw[<-c] at b4 |-;have a3:=Z c;have a5:G<=32:=oB b6.1;clear c;go_wp2_with fail;refine aZ.nm (λb1 d=> ?_);obtain⟨a5,c⟩:=M j4.heap.size;rw[<-c];have a5:=cY d;have e1:=yY d c;have⟨d6,Q⟩:=bD (b4.1.fr a5) (c5.step a5);clear d c;refine sg (mS G _ O b1 (b3.1.fr (p.1.step Q.1)) _ d6.1) ?_;rintro a5 f9 ⟨b1,rfl,f2,i1⟩;have⟨d9,v⟩:=bD f2 i1;obtain⟨j6,j8,rfl,-,-⟩:=f2.slice;obtain⟨e9,c⟩:=M ((cU (dF G (cP b l []))).length);rw[<-c] at d9 |-;have b2:=Z c;clear c;by_cases a5:0<e9
 case pos=>
  have c:=Z (λc=>P.1 _ ((Q.1.step v.1).alloc c));obtain⟨e,f,g,h,i⟩:=D4 c.1;go_wp2;refine wj (Ds:=[]) (o:=⟨2,[],fP (cU (dF G (cP b l []))),[]⟩) HI.1 rfl (bP (c.1 _) _ _ _ _) (IA (LU RR.1.1 RR.1.2 (by rw[<-a3.1];exact(show dF G (cP b l [])≠[] by intro d;rw[d] at b2;have:=b2.1;simp[cU] at this;omega))) (by simp[fP]) ?_) dJ (Sl.past (QD (bM rfl) (d9.1.f cZ)) NC.aJ (bC _ _ _ _ _ _) (c.1 _) J (by unfold fS;decide)) dJ ((p.1.step ((Q.1.step v.1).alloc _)).keep (bC _ _ _ _ _ _) (λd c=>c▸a4.1.2.2.2)) sI sI sI;intro m d;simp only[fP,cX] at d;subst d;simp only[cU,eo];exact jv (gX b6.1 a3.1)
 have CY:=Z (show dF b.length (cP b l [])=[] by rw[<-a3.1];have:=b2.1;simp[cU] at this;exact fH O);have i2:e9=0:=O;subst i2;have e:f9.cell? (H t 0)=S (.slice w G x):=by rw[a3.1];exact aj (e0.1 _ (Q.1.step v.1)) 0
 go_wp2_with fail;refine sg (mR b _ f9 (by rw[a3.1];exact b5.1.fr (p.1.step (Q.1.step v.1)))) ?_;rintro a3 d1 ⟨a5,rfl,c,f0⟩;have⟨c0,a8,HP⟩:=dt f0 ((Q.1.step v.1).step f0) c;obtain⟨c1,c2,rfl,-,-⟩:=c.slice;obtain⟨i,d⟩:=M ((cQ b).length);rw[<-d] at HP |-;have HPN:=Z d;clear c d e;by_cases i3:i=0
 case pos=>
  subst i3;have o:=Z (show cQ b=[] from fH HPN.1.symm);have r:=bx (e1.1 _ (v.1.step c0.1));have k:=dh (e1.1 _ (v.1.step c0.1));go_wp2_with fail;refine sg (nP G _ O d1 (b3.1.fr (p.1.step a8.1)) _ (d6.1.fr (v.1.step c0.1))) ?_;intro v d2 g;obtain⟨⟨F,h,A,rfl,c,e,y,s⟩,d⟩:=nX O g;have⟨HS,n⟩:=bD c e;obtain⟨f,bo,D,C,rfl,-,-,-⟩:=c;obtain⟨c,f⟩:=M h.length;rw[<-f] at HS |-;have d:=Z (a8.1.step d);have c:=Z (P.1 _ d.1);obtain⟨v,A,C,D,F⟩:=D4' c.1;clear g e f y s r k;go_wp2;exact wj (Ds:=[]) (o:=⟨1,h,[],[]⟩) HI.1 rfl (bP c.1 _ _ _ _) (Jb (GZ RR.1.1 RR.1.2 CY.1 o.1) n.1) (Sl.past HS.1 iA (bC _ _ _ _ _ _) c.1 J id) dJ dJ ((p.1.step d.1).keep (bC _ _ _ _ _ _) (λd c=>c▸a4.1.2.2.2)) sI sI sI
 have U:((i:T)==0)=δ:=sO;go_wp2_with fail;obtain⟨q,r⟩:=M d1.heap.size;obtain⟨k,g⟩:=M (d1.alloc (.cells #[I 3,aV,aV,aV] 288));rw[<-g,<-r];have HQ:=dL g r;have o:=cY g;have⟨n,R⟩:=bD (ba HQ.1) (a8.1.step o);have a7:N (q≠t/\q≠z/\q≠u/\B.heap.size<=q):=Z (gX (ba (P.1 _ a8.1)) a4.1);have⟨s,y,A,h,C,d5⟩:=qK (e0.1 _ R.1) (h3.1 _ R.1) (P.1 _ R.1) (HP.1.f o) (b5.1.fr (p.1.step R.1)) (p.1.step R.1);have h5:N (SS k q [] [] [] [] k):=Z ⟨⟨η,0,[],HQ.1,qG,sI⟩,sI,rF,L.nodup_nil,sI,sI,sI⟩;have b8:N (∀{X c d e a},SS k q X c d e a->aY a t #[.slice w b.length x] 54/\aY a z #[I l] 3/\aY a u #[aI,aV,aV,aV] 288/\eJ a (.agg #[.slice w b.length x]) b/\Sl 144 3 CC a (.slice c1 i c2) (cQ b)):=Z (λf=>⟨f.fr.aB s.1 (λp=>a7.1.1 p.symm),f.fr.aB y.1 (λp=>a7.1.2.1 p.symm),f.fr.aB A.1 (λp=>a7.1.2.2.1 p.symm),C.1.aJ f.fr (λF D B v p=>v.ne ⟨_,_,p▸HQ.1⟩ (by rcases B with rfl|rfl|rfl<;>decide) rfl),h.1.past EN f.fr HQ.1 J id⟩);have b7:N (i<=16384):=Z (gX (jt b) HPN.1);obtain⟨h6,i9,-,-,-,D⟩:=(show ∃p v,i=(cQ b).length/\True/\True/\fF 144 3 CC k c1 p v (cQ b) from by
  obtain⟨p,F,V,v,f,-,-,K⟩:=h.1;simp only[cM] at f;obtain⟨rfl,-,-⟩:=f;exact⟨F,V,HPN.1,trivial,trivial,K⟩)
 have d7:=Z D;clear g r o D U h C s y A;refine wp_loop_ghost (λgk r K=>∃(g:E)(f:E->ζ)(c:L Fc)(d:L E),g+gk=i/\r=⟨ZA f,d.map mark⟩/\f 2=aP t 0/\f 3=aP z 0/\f 4=aP u 0/\f 11=aP q 0/\f 48=.slice c1 i c2/\f 49=I i/\f 50=I g/\SS k q [] c d [] K/\c.length<=2*g) i ?_ ?_
 .exact⟨0,_,[],[],du,cH (Act.mk · _) (Ai rfl),rfl,rfl,rfl,rfl,rfl,rfl,rfl,h5.1,eG⟩
 rintro gk r wr ⟨s,j1,c,d,h,rfl,y,A,C,o,D,F,U,f,g⟩;have⟨HK,HS,HF⟩:=dt h f g;have p:s<=i:=O;obtain⟨e3,e4,a9,e6,e8⟩:=b8.1 f;clear h f g;rw[FV j1];simp only[y,A,C,o,D,F,U];clear y A C o D F U;by_cases p:s<i
 .obtain⟨j0,o⟩:∃f,(cQ b)[s]? =S f:=⟨_,cF yW⟩
  obtain rfl:=d7.1.addr o;have y:=d7.1.aJ EN HS.1.fr (λA v p h f=>h.ne ⟨_,_,f▸HQ.1⟩ (by rcases p with rfl|g;decide;exact g.elim) rfl);obtain⟨v,A,B⟩:=y.ch o;obtain⟨h,f,g⟩:=j0;simp only at v A B;have⟨U,V⟩:=dy s i;clear y o e3 e4 a9 e6 e8;go_wp2_with fail;obtain⟨p,F⟩:=M wr.heap.size;obtain⟨o,G⟩:=M (p+1);rw[<-F,<-G];refine cT (λd2 p=> ?_);have C:=lq p;have D:=(dL (q:=o) p sO).1;have Q:N (k.heap.size<=o):=Z (oB HS.1.fr.size);have y:N (SS k q [(o,.cells #[I h,I f,I g,I h,I g,I f] 144)] c d [] d2):=Z ((HS.1.kept n.1 (C.mono (by simp[j])) sI).add D sI (by have:=Q.1;have:=n.1;simp only;omega) sI);clear p F G C D v A B U V;refine wp_loop_ghost (λgk r K=>∃(v:E)(p:E->ζ)(c:L Fc)(d:L E),v+gk=2/\r=⟨ZA p,d.map mark⟩/\p 2=aP t 0/\p 3=aP z 0/\p 4=aP u 0/\p 11=aP q 0/\p 48=.slice (S (H h6 i9)) i c2/\p 49=I i/\p 50=I s/\
   p 62=.slice (S (H o 0)) 2 2/\p 63=I 2/\p 64=I v/\SS k q [(o,.cells #[I h,I f,I g,I h,I g,I f] 144)] c d [] K/\c.length<=2*s+v) 2 ?_ ?_
  .exact⟨0,_,c,d,du,cH (Act.mk · _) (Ai rfl),rfl,rfl,rfl,rfl,rfl,rfl,rfl,rfl,rfl,rfl,y.1,HF.1⟩
  clear HS HF y;rintro p r d4 ⟨y,j2,c,d,D,rfl,U,V,W,F,a0,a1,a2,b0,b9,c3,A,C⟩;have⟨a6,HS,HF⟩:=dt D A C;have p:y<=2:=O;obtain⟨v,B,G,Q,a3⟩:=b8.1 A;have p:=(A.xs _ (cX.2 rfl)).1;simp only at p;clear D A C;rw[FV j2];simp only[U,V,W,F,a0,a1,a2,b0,b9,c3];clear U V W F a0 a1 a2 b0 b9 c3;by_cases a5:y<2
  .obtain⟨⟨F,C,D⟩,W,a0,a1⟩:=acg p a5
   simp only at W a0 a1;have b9:(0:T)<=(y:T):=jD;have c3:(y:T)<2:=O;have b0:=λA=>bx (aC v A);clear v B G Q a3 p;go_wp2_with fail;(refine aZ.nm (λd3 U=> ?_);refine sg (Xo _ _ _ _ d3) ?_;rintro p g0 ⟨rfl,A⟩;obtain⟨p,a5⟩:=M d4.heap.size;obtain⟨p,B⟩:=M d3.heap.size;obtain⟨v,a3⟩:=M (p+1);rw[<-B,<-a3,<-a5];have a2:Fr j d4 g0:=by rw[A,U];exact(cZ.alloc _).alloc _);have Q:=(uV A B).1;have V:=(dL (q:=v) A sO).1;have G:N (k.heap.size<=p/\k.heap.size<=v):=Z (by have:=HS.1.fr.size;have:d3.heap.size=d4.heap.size+1:=(by rw[U];simp);omega);have G:N (SS k q [(v,.cells #[I F,I C,I D] 144),(p,.cells #[.slice w b.length x] 54),(o,.cells #[I h,I f,I g,I h,I g,I f] 144)] c d [] g0):=
    Z (((HS.1.kept n.1 (a2.mono (by simp[j])) sI).add Q sI (by have:=G.1;have:=n.1;simp only;omega) sI).add V sI (by have:=G.1;have:=n.1;simp only;omega) sI)
   clear U A a5 B a3 a2 Q V W a0 a1 b0 b9 c3;go_wp2_with fail;refine vQ (xs:=GV b.length ⟨F,C,D⟩) (enc:=Sp) (bs0:=[]) (YF b.length ⟨F,C,D⟩ v p w x (by have:=b6.1;simp[maxLen];omega)) rfl rfl (λA B=>by simp[go_sem]) sI
    (λA e a=>SS k q [(v,.cells #[I F,I C,I D] 144),(p,.cells #[.slice w b.length x] 54),(o,.cells #[I h,I f,I g,I h,I g,I f] 144)] c d e a)
    (λA e a=>A=.exit 4/\∃A,SS k q [(v,.cells #[I F,I C,I D] 144),(p,.cells #[.slice w b.length x] 54),(o,.cells #[I h,I f,I g,I h,I g,I f] 144)] (c++[A]) d e a)
    (λV e U a K B A Q=>B.kept n.1 A Q) (λQ e a K A B=>⟨A.1,A.2.imp λm A=>A.kept n.1 B (λB A=>.inl A)⟩)
    (λB e a A=>⟨(A.xs _ (jg ..)).1,(A.xs _ (jh _ (jg ..))).1⟩) G.1
    (λA m e r a=>∃B A,r=⟨ZA A,[]⟩/\A 2=aP t 0/\A 3=aP z 0/\A 11=aP q 0/\A 16=aP B 0/\aY a B (fc0 m).toArray 276/\B ∉ e/\m.cy=[]/\
     SS k q [(v,.cells #[I F,I C,I D] 144),(p,.cells #[.slice w b.length x] 54),(o,.cells #[I h,I f,I g,I h,I g,I f] 144)] c d e a) ?hGb ?assign ?body ?done ?stop
   case hGb=>
    rintro V m e r a K ⟨Q,U,t,x,z,v,w,A,p,B,G⟩ k;exact⟨Q,U,t,x,z,v,w,k.aB A p,p,B,G.kept n.1 k (λp k=>.inl k)⟩
   case assign=>
    rintro w z m x e a v t p k;have⟨HI,v⟩:=bD p k;have A:=Z (abk (n:=b.length) (c:=⟨F,C,D⟩) (x:=m) (by rw[t];simp));clear t p k;obtain⟨⟨z,k,p⟩,w,x,B,t⟩:=m;simp only[Sp,Qd] at*;gi_wp2;refine v.1 _ _ ⟨sI,λk p=>Below.heap_alloc _ _ _ (HI.1.bb k p).2⟩ ⟨a.heap.size,_,cH (Act.mk · _) (Ai rfl),rfl,rfl,rfl,rfl,bM rfl,λk=>by have:=(HI.1.bb _ k).2;omega,A.1,HI.1.kept n.1 cZ (λp k=>.inl k)⟩
   case body=>
    rintro i8 p m k e r a i7 ⟨c9,j3,rfl,f6,f7,f4,f5,c7,i4,c8,b0⟩;obtain⟨e2,e5,h7,e7,h8⟩:=b8.1 b0;obtain⟨p,r,k,b9,c3,c4⟩:=b0.row;obtain⟨f3,c6⟩:=M c.length;rw[<-c6] at b9 c3 c4;have⟨HM,d8,g8,h4,k,g9,h0,h1⟩:=SD c6 b0 e7 c7 c8 b9 c3 c4;have k:f3<=40000:=gX HF.1 b7.1;have h9:=bx e2;have i0:=bx e5;have A:∀k,a.cell? (H c9 k)=(fc0 m).toArray[k]? :=λk=>aj c7 k;obtain⟨⟨a1,U,V⟩,W,a0,a2,k⟩:=m;simp only at c8;subst c8;have g1:=A 0;have g2:=A 1;have g3:=A 2;have g4:=A 3;have g5:=A 4;have g6:=A 5;have g7:=A 6;simp only[fc0,rE] at g1 g2 g3 g4 g5 g6 g7;rw[FV j3];simp only[f6,f7,f4,f5];clear f6 f7 f4 f5 e2 e5 h7 e7 h8 b9 c3 c4 c6 b0 c7 i4 A i7;have b0:=nH (n:=6)|>.2 (pH b l [] ⟨⟨a1,U,V⟩,W,a0,a2,[]⟩ _ aV aV a g8.1 dJ dJ (by simp[fV]));simp only[Qd] at b0;gi_wp2_with (gi_at_call 179;refine stop ?_);refine⟨trivial,CallsIn.mono (F:=Fence.wide.inRound i8) b0 ?_⟩;rintro k c3 ⟨rfl,A⟩;clear b0 g1 g2 g3 g4 g5 g6 g7 h9 i0;have e2:=Z (A.hs h4.1);have b9:=Z (d8.1.kept n.1 (A.mono (by simp[j])) (λp k=>.inl k));have b0:N (nZ e a c3):=Z ⟨A.size,λk p=>A.block k (d8.1.bb k p).2 id⟩;have⟨c4,c6⟩:=bD (A.hs g9.1) (h0.1.fr C0s A);cases c7:oZ b l [] ⟨⟨a1,U,V⟩,W,a0,a2,[]⟩
    .clear c7
     gi_wp2;exact⟨b9.1,b0.1⟩
    clear c7;have w:=iT c4.1;have t:∀b k,(c3.alloc k).cell? (H c9 b)=#[ζ.int .i64 a1,I U,I V,I W,I a0,I a2,aV][b]? :=λb k=>aj (aC e2.1 k) b;have v:∀b,c3.cell? (H c9 b)=#[ζ.int .i64 a1,I U,I V,I W,I a0,I a2,aV][b]? :=λb=>aj e2.1 b;gi_wp2_with (gi_at_builtin;refine stop ?_);refine aZ.go (lY rfl (.tmp 77) (.tmp 79) rfl Sz f3 HM.1.symm rfl (c6.1.fr C0s (tC.alloc _)) C0s id (⟨⟨a1,U,V⟩,W,a0,a2,[]⟩:Fc) rfl rfl
     (eF.block (cs:=#[I a1,I U,I V,I W,I a0,I a2,aV]) (bM rfl) oC) (λ_ _=>rfl) O mL (by have:=b9.1.fr.size;simp;omega) ?_)
    intro b p d2 l k r;obtain⟨n,p,b⟩:=b9.1.push HM.1.symm n.1 (tC.alloc _) c4.1 (c6.1.fr C0s (tC.alloc _)) h1.1 rfl l k r;have⟨e5,c7⟩:=bD n p;have x:=aG b 3;have x:=iT b;clear n p b l k r w t v;gi_wp2;exact⟨⟨rfl,_,e5.1⟩,bX b0.1.1 c7.1.1,λb k=>(c7.1.2 b k).trans (b0.1.2 b k)⟩
   case done=>
    rintro l e a p n b k;have A:=Z (SS.less (Y:=[(o,.cells #[I h,I f,I g,I h,I g,I f] 144)]) (b.mark n k) sI);clear b k;go_wp2;refine⟨1-y,oB a6.1,y+1,_,c,l::d,oB a6.1,cH (Act.mk · _) (Ai rfl),?_⟩;exact⟨rfl,rfl,rfl,rfl,rfl,rfl,rfl,rfl,rfl,(by show ζ.int .i64 _=_;go_num),A.1,oB HF.1⟩
   case stop=>
    rintro V b e a k a1 ⟨rfl,a0,A⟩ U;have W:=Z (SS.less (Y:=[(o,.cells #[I h,I f,I g,I h,I g,I f] 144)]) (A.mark a1 U) sI);clear A U;go_wp2;refine⟨1-y,oB a6.1,y+1,_,c++[a0],V::d,oB a6.1,cH (Act.mk · _) (Ai rfl),?_⟩;exact⟨rfl,rfl,rfl,rfl,rfl,rfl,rfl,rfl,rfl,(by show ζ.int .i64 _=_;go_num),W.1,by have:=HF.1;simp only[cA,eK];omega⟩
  have A:=Z (SS.less (Y:=[]) HS.1 sI);have a:s+1<=16384:=oB b7.1;go_wp2;refine⟨i-(s+1),oB HK.1,s+1,_,c,d,oB HK.1,cH (Act.mk · _) (Ai rfl),?_⟩;exact⟨rfl,rfl,rfl,rfl,rfl,rfl,(by show ζ.int .i64 _=_;go_num),A.1,oB HF.1⟩
 obtain⟨i,k,e,a,b,-⟩:=HS.1.row;obtain⟨l,e⟩:=M c.length;rw[<-e] at a b;have h:=Z b;obtain⟨n,p,r,s,-⟩:=D4' a;have g:=Z a9;obtain⟨n,p,r,s,t⟩:=D4' a9;have HM:=Z e;clear a b e3 e4 a9 e6 e8 e;go_wp2;have f:=bC wr u (I 3) aV aV (.slice i l k);have o:=d5.1.keep HS.1.fr (λb a=>by have:=a7.1.2.2.2;omega);exact wj (Ds:=d) (o:=⟨3,[],[],c⟩) HI.1 rfl (bP g.1 _ _ _ _) ⟨sL,sI,sI,(λm y=>by cases y),by have:=HF.1;have:=b7.1;simp only;omega,λa b=>by rw[HS.1.cy a b];simp[CY]⟩ dJ dJ (Sl.past (C0.sl h.1.read HS.1.cy) CF.aJ f g.1 J (by unfold fS;decide)) (o.keep f (λb a=>a▸a4.1.2.2.2)) HS.1.nd (λa b=>f.aB (HS.1.ds a b).2.1 (λc=>by have:=(HS.1.ds a b).1;have:=ba (P.1 _ R.1);omega)) (λa b=>by have:=(HS.1.ds a b).1;have:=d5.1.size;omega)
end
theorem KN(a)(b:a≠146)(c:a≠211)(d:a≠213)(e:a≠3):RK 146 a fS NC:=⟨NC.aJ,J,J,λa=>b a.symm,c,d,e,by unfold fS;decide,by unfold fS;decide⟩
theorem No{q l m:E}{a:Nd}{done:L Nd}(d:RJ 146 4 32 0 NC W V q l m #[aV] (Bw a++e) done x L1 U)(P:done.length<1000000000000)(C:a.cy.length<1000000000000):
  aQ 163 #[aP l 0,aP m 0] U (Zg 146 4 32 0 NC W V q l m #[aV] e (done++[a])):=by
 rw[Yg] at d;have b:=(KN 32 J J J J);obtain⟨r,c⟩:=M done.length;have HM:=c.symm;obtain⟨z,A,rfl⟩:=d.shape c.symm;have l:=bx d.p;clear c
 delta aQ;go_in
 go_wp
 refine sg (wN (x:=a.c) d.rq) ?_;rintro l G ⟨rfl,D,B⟩;have d:=(d.rr b B D);go_upto_region 1 with fail;refine Zv G ?_;intro l c f g;have w:V.heap.size<=f:=(oB d.fr.size);have v:=dL c g;have y:¬(ζ.slice z r A).ownBlock=S f:=(d.olt O);have u:f≠q:=(oB d.rq.lt);have n:=(d.j (W':=l) b (by rw[c];exact cZ));clear c g;have d:=bx n.p;go_wp
 refine sg (pV n.rq C) ?_;rintro l K ⟨d,rfl,s,F,o⟩;obtain⟨g,i,h,-,-,rfl,-,-,-⟩:=DI s;have d:=o.obj v.1 u;have l:=iT d;have l:=aG d 3;have k:=d;have m:=n.rr b o F;go_upto_region 2 with fail;refine cT (λl d=> ?_);have n:aY l f #[I a.c.k,I a.c.a,I a.c.b,.slice g i h] 146:=(by rw[d];have:=aD k 3 (.slice g i h);simpa using this);have p:bT f K l:=by rw[d];exact rF.aK _ _
 have c:=(m.boxed b k w y J J J (by unfold fS;decide) p);clear d;have f:=aj c.box 0;have d:=aj n;have l:=d 0;have m:=d 1;have n:=d 2;have d:=d 3;simp only[rC,rE] at f l m n d;go_wp2_with (at_builtin;refine stop ?_);refine aZ.go (bH Y (.tmp 9) (.tmp 11) Y sC r HM Y (c.own.fr b.st cZ) b.st b.t2 a (cs:=[I a.c.k,I a.c.a,I a.c.b,.slice g i h]) Y Y (eF.block (cs:=#[I a.c.k,I a.c.a,I a.c.b,.slice g i h]) (bM Y) oC) (λa t=>⟨_,Y,((s.past da p k J id).fr da cZ).beside da (c.own.fr b.st cZ) t J id⟩) O mL (by have:=c.rq.fr.size;have:=c.fr.size;simp;omega) ?_);intro f g h a d i k;obtain⟨a,t⟩:=RJ.push b c HM sI cZ a d;have b:=aj a 0;simp only[rC,rE] at b;have a:=aG a 0;go_wp2;go_end0
 exact⟨Y,_,_,t⟩
theorem Fg{q:E}(k:RQ W q (eL Bw N1++e) V)(a:N1.length<1000000000000)(a:∀b∈N1,b.cy.length<1000000000000):aQ 120 #[aP q 0] V (RV 146 4 NC W V q N1 e):=by
 have d:=(KN 32 J J J J);have h:=a
 delta aQ;go_in
 go_upto_region 1 with fail;refine cT (λl a=> ?_);obtain⟨c,b⟩:=M V.heap.size;obtain⟨f,g⟩:=M (c+1);rw[<-b,<-g];have c:=(RJ.new (te:=146) (n:=4) (tb:=32) (ci:=0) (C:=NC) (W1:=l) (b1:=c) (b2:=f) (cs:=#[aV]) k (by rw[a];exact cZ.alloc _) (by rw[a];exact aC (bM b) _) (by rw[a];exact bM sO) Y O O);have k:=bx c.p;have i:V.heap.size<=f:=O;clear a b g;go_wp
 refine sg (nD d (λa=>by simp[Bw,yV]) c (λa V=>by simp[go_sem]) (λc f done m g k b l a=>No a O (h c b))) ?_;rintro a c ⟨rfl,n,m,b⟩;obtain⟨b,d,c,a,g⟩:=b.fin d i;have f:=bx a;have f:=aG a 0;go_wp2;exact aO (v:=.slice b d c) (by have a:=aj (aD a 0 (.slice b d c)) 0;simp at a;simp[results,results120,go_sem,a]) Y ⟨_,Y,g.1 _ (rF.aK 0 _)⟩
theorem KF:RK 276 55 fS CF:=⟨CF.aJ,J,J,J,J,J,by unfold fS;decide,by unfold fS;decide,by unfold fS;decide⟩
theorem Ni{q o p:E}{a:Fc}{done:L Fc}(f:RJ 276 7 55 0 CF W V q o p #[aV] (Gb a++e) done x L1 U)(b1:done.length<1000000000000)(a0:a.cy.length<1000000000000):
  aQ 159 #[aP o 0,aP p 0] U (Zg 276 7 55 0 CF W V q o p #[aV] e (done++[a])):=by
 rw[Ll] at f;have b:=KF;obtain⟨B,c⟩:=M done.length;have HM:=c.symm;obtain⟨Q,R,rfl⟩:=f.shape c.symm;have o:=bx f.p;clear c
 delta aQ;go_in
 go_wp
 refine sg (wN (x:=a.c) f.rq) ?_;rintro o a6 ⟨rfl,a1,X⟩;have f:=(f.rr b X a1);go_upto_region 1 with fail;refine Zv a6 ?_;intro o d c k;have h:V.heap.size<=c:=(oB f.fr.size);have F:=dL d k;have i:¬(ζ.slice Q B R).ownBlock=S c:=(f.olt O);have g:c≠q:=(oB f.rq.lt);have r:=(f.j (W':=o) b (by rw[d];exact cZ));clear d k;have f:=bx r.p;go_wp
 refine sg (cR r.rq) ?_;rintro f a7 ⟨rfl,a2,v⟩;have f:=v.obj F.1 g;have o:=iT f;have o:=aG f 3;have o:=r.rr b v a2;have f:=f;have p:=o;go_upto_region 2 with fail;refine cT (λo d=> ?_);have G:aY o c #[I a.c.k,I a.c.a,I a.c.b,I a.kind,aI,aI,aV] 276:=(by rw[d];have:=aD f 3 (I a.kind);simpa using this);have o:bT c a7 o:=by rw[d];exact rF.aK _ _
 have s:=(p.boxed b f h i J J J (by unfold fS;decide) o);clear d;have f:=bx s.p;go_wp
 refine sg (cR s.rq) ?_;rintro f a8 ⟨rfl,a3,w⟩;have f:=w.obj G g;have o:=xW f;have o:=aG f 4;have o:=s.rr b w a3;have f:=f;have p:=o;go_upto_region 3 with fail;refine cT (λo d=> ?_);have K:aY o c #[I a.c.k,I a.c.a,I a.c.b,I a.kind,I a.i,aI,aV] 276:=(by rw[d];have:=aD f 4 (I a.i);simpa using this);have o:bT c a8 o:=by rw[d];exact rF.aK _ _
 have t:=(p.boxed b f h i J J J (by unfold fS;decide) o);clear d;have f:=bx t.p;go_wp
 refine sg (cR t.rq) ?_;rintro f a9 ⟨rfl,a4,y⟩;have f:=y.obj K g;have o:=BY f;have o:=aG f 5;have o:=t.rr b y a4;have f:=f;have p:=o;go_upto_region 4 with fail;refine cT (λo d=> ?_);have P:aY o c #[I a.c.k,I a.c.a,I a.c.b,I a.kind,I a.i,I a.j,aV] 276:=(by rw[d];have:=aD f 5 (I a.j);simpa using this);have o:bT c a9 o:=by rw[d];exact rF.aK _ _
 have u:=(p.boxed b f h i J J J (by unfold fS;decide) o);clear d;have f:=bx u.p;go_wp
 refine sg (pV u.rq a0) ?_;rintro o b0 ⟨f,rfl,C,a5,z⟩;obtain⟨k,m,l,-,-,rfl,-,-,-⟩:=DI C;have f:=z.obj P g;have g:=Bl f;have g:=aG f 6;have n:=f;go_upto_region 5 with fail;refine cT (λg f=> ?_);have o:aY g c #[I a.c.k,I a.c.a,I a.c.b,I a.kind,I a.i,I a.j,.slice k m l] 276:=(by rw[f];have:=aD n 6 (.slice k m l);simpa using this);have A:bT c b0 g:=by rw[f];exact rF.aK _ _
 have d:=((u.rr b z a5).boxed b n h i J J J (by unfold fS;decide) A);clear f;have f:=aj d.box 0;have c:=aj o;have g:=c 0;have h:=c 1;have i:=c 2;have o:=c 3;have p:=c 4;have r:=c 5;have c:=c 6;simp only[rC,rE] at f g h i o p r c;go_wp2_with (at_builtin;refine stop ?_);refine aZ.go (bH Y (.tmp 18) (.tmp 20) Y Sz B HM Y (d.own.fr b.st cZ) b.st b.t2 a (cs:=[I a.c.k,I a.c.a,I a.c.b,I a.kind,I a.i,I a.j,.slice k m l]) Y Y (eF.block (cs:=#[I a.c.k,I a.c.a,I a.c.b,I a.kind,I a.i,I a.j,.slice k m l]) (bM Y) oC) (λa D=>⟨_,Y,((C.past da A n J id).fr da cZ).beside da (d.own.fr b.st cZ) D J id⟩) O mL (by have:=d.rq.fr.size;have:=d.fr.size;simp;omega) ?_);intro f g h a c i k;obtain⟨a,D⟩:=RJ.push b d HM sI cZ a c;have b:=aj a 0;simp only[rC,rE] at b;have a:=aG a 0;go_wp2;go_end0
 exact⟨Y,_,_,D⟩
theorem Ly{q:E}(k:RQ W q (eL Gb F++e) V)(a:F.length<1000000000000)(a:∀b∈F,b.cy.length<1000000000000):aQ 114 #[aP q 0] V (RV 276 7 CF W V q F e):=by
 have d:=KF;have h:=a
 delta aQ;go_in
 go_upto_region 1 with fail;refine cT (λl a=> ?_);obtain⟨c,b⟩:=M V.heap.size;obtain⟨f,g⟩:=M (c+1);rw[<-b,<-g];have c:=(RJ.new (te:=276) (n:=7) (tb:=55) (ci:=0) (C:=CF) (W1:=l) (b1:=c) (b2:=f) (cs:=#[aV]) k (by rw[a];exact cZ.alloc _) (by rw[a];exact aC (bM b) _) (by rw[a];exact bM sO) Y O O);have k:=bx c.p;have i:V.heap.size<=f:=O;clear a b g;go_wp
 refine sg (nD d (λa=>by simp[Gb,yV]) c (λa V=>by simp[go_sem]) (λc f done m g k b l a=>Ni a O (h c b))) ?_;rintro a c ⟨rfl,n,m,b⟩;obtain⟨b,d,c,a,g⟩:=b.fin d i;have f:=bx a;have f:=aG a 0;go_wp2;exact aO (v:=.slice b d c) (by have a:=aj (aD a 0 (.slice b d c)) 0;simp at a;simp[results,results114,go_sem,a]) Y ⟨_,Y,g.1 _ (rF.aK 0 _)⟩
theorem KM:RK 279 62 AF MC:=⟨MC.aJ,J,J,J,J,J,by unfold AF;decide,by unfold AF;decide,by unfold AF;decide⟩
theorem Nw{q l m:E}{a:Mk}{done:L Mk}(f:RJ 279 5 62 0 MC W V q l m #[aV] (Hl a++e) done x L1 U)(a2:done.length<1000000000000)(G:a.dn.length<1000000000000)(K:∀b∈a.dn,b.cy.length<1000000000000):
  aQ 162 #[aP l 0,aP m 0] U (Zg 279 5 62 0 MC W V q l m #[aV] e (done++[a])):=by
 rw[Ld] at f;have b:=KM;obtain⟨w,c⟩:=M done.length;have HM:=c.symm;obtain⟨C,D,rfl⟩:=f.shape c.symm;have l:=bx f.p;clear c
 delta aQ;go_in
 go_wp
 refine sg (wN (x:=a.c) f.rq) ?_;rintro l X ⟨rfl,P,F⟩;have f:=(f.rr b F P);go_upto_region 1 with fail;refine Zv X ?_;intro l d c g;have r:V.heap.size<=c:=(oB f.fr.size);have A:=dL d g;have s:¬(ζ.slice C w D).ownBlock=S c:=(f.olt O);have p:c≠q:=(oB f.rq.lt);have n:=(f.j (W':=l) b (by rw[d];exact cZ));clear d g;have f:=bx n.p;go_wp
 refine sg (kK n.rq) ?_;rintro f a0 ⟨rfl,Q,t⟩;have f:=t.obj A.1 p;have l:=iT f;have l:=aG f 3;have l:=n.rr b t Q;have f:=f;have m:=l;go_upto_region 2 with fail;refine cT (λl d=> ?_);have B:aY l c #[I a.c.k,I a.c.a,I a.c.b,.bool a.rt,aV] 279:=(by rw[d];have:=aD f 3 (.bool a.rt);simpa using this);have l:bT c a0 l:=by rw[d];exact rF.aK _ _
 have o:=(m.boxed b f r s J J J (by unfold AF;decide) l);clear d;have f:=bx o.p;go_wp
 refine sg (Fg o.rq G K) ?_;rintro l a1 ⟨f,rfl,y,R,u⟩;obtain⟨g,i,h,-,-,rfl,-,-,-⟩:=DI y;have f:=u.obj B p;have l:=xW f;have l:=aG f 4;have k:=f;go_upto_region 3 with fail;refine cT (λl f=> ?_);have m:aY l c #[I a.c.k,I a.c.a,I a.c.b,.bool a.rt,.slice g i h] 279:=(by rw[f];have:=aD k 4 (.slice g i h);simpa using this);have v:bT c a1 l:=by rw[f];exact rF.aK _ _
 have d:=((o.rr b u R).boxed b k r s J J J (by unfold AF;decide) v);clear f;have f:=aj d.box 0;have c:=aj m;have l:=c 0;have m:=c 1;have n:=c 2;have o:=c 3;have c:=c 4;simp only[rC,rE] at f l m n o c;go_wp2_with (at_builtin;refine stop ?_);refine aZ.go (bH Y (.tmp 12) (.tmp 14) Y Sf w HM Y (d.own.fr b.st cZ) b.st b.t2 a (cs:=[I a.c.k,I a.c.a,I a.c.b,.bool a.rt,.slice g i h]) Y Y (eF.block (cs:=#[I a.c.k,I a.c.a,I a.c.b,.bool a.rt,.slice g i h]) (bM Y) oC) (λa z=>⟨_,Y,((y.past NC.aJ v k J (by unfold fS;decide)).f cZ).beside NC.aJ (d.own.fr b.st cZ) z J (by unfold fS;decide)⟩) O mL (by have:=d.rq.fr.size;have:=d.fr.size;simp;omega) ?_);intro f g h a c i k;obtain⟨a,z⟩:=RJ.push b d HM sI cZ a c;have b:=aj a 0;simp only[rC,rE] at b;have a:=aG a 0;go_wp2;go_end0
 exact⟨Y,_,_,z⟩
theorem Vb{q:E}(k:RQ W q (eL Hl m1++e) V)(b:m1.length<1000000000000)(b:∀a∈m1,a.dn.length<1000000000000/\∀c∈a.dn,c.cy.length<1000000000000):aQ 119 #[aP q 0] V (RV 279 5 MC W V q m1 e):=by
 have f:=KM;have c:=b
 delta aQ;go_in
 go_upto_region 1 with fail;refine cT (λl a=> ?_);obtain⟨d,b⟩:=M V.heap.size;obtain⟨g,h⟩:=M (d+1);rw[<-b,<-h];have d:=(RJ.new (te:=279) (n:=5) (tb:=62) (ci:=0) (C:=MC) (W1:=l) (b1:=d) (b2:=g) (cs:=#[aV]) k (by rw[a];exact cZ.alloc _) (by rw[a];exact aC (bM b) _) (by rw[a];exact bM sO) Y O O);have k:=bx d.p;have i:V.heap.size<=g:=O;clear a b h;go_wp
 refine sg (nD f (λa=>by simp[Hl,yV]) d (λa V=>by simp[go_sem]) (λb g done m h k a l d=>Nw d O (c b a).1 (c b a).2)) ?_;rintro b c ⟨rfl,n,m,a⟩;obtain⟨b,d,c,a,h⟩:=a.fin f i;have f:=bx a;have f:=aG a 0;go_wp2;exact aO (v:=.slice b d c) (by have a:=aj (aD a 0 (.slice b d c)) 0;simp at a;simp[results,results119,go_sem,a]) Y ⟨_,Y,h.1 _ (rF.aK 0 _)⟩
theorem KT:RK 203 77 (λ_=>False) CK:=⟨CKs,J,J,J,J,J,λa=>a,λa=>a,λa=>a⟩
theorem KH:RK 77 54 JQ CT:=⟨CT.aJ,J,J,J,J,J,by unfold JQ;decide,by unfold JQ;decide,by unfold JQ;decide⟩
theorem Wk(a:Tk)(b:L T):Nh a++b=a.k::a.f::b:=Y
theorem QH(a:Tn)(b:L T):Cc a++b=a.s::(fh a.w++(eL Nh a.r++b)):=by simp[Cc]
theorem Ma{q f g m i:E}{s0:T}{a:Tk}{done:L Tk}(c:RJ 203 2 77 2 CK W V q f g #[I s0,.slice A m i,aV] (Nh a++e) done x L1 U)(C:done.length<1000000000000):
  aQ 158 #[aP f 0,aP g 0] U (Zg 203 2 77 2 CK W V q f g #[I s0,.slice A m i,aV] e (done++[a])):=by
 rw[Wk] at c;have b:=KT;obtain⟨l,d⟩:=M done.length;have HM:=d.symm;obtain⟨t,u,rfl⟩:=c.shape d.symm;have f:=bx c.p;clear d
 delta aQ;go_in
 go_wp2_with fail;refine sg (cR c.rq) ?_;rintro f z ⟨rfl,w,v⟩;have c:=(c.rr b v w);go_upto_region 1 with fail;refine cT (λi f=> ?_);obtain⟨d,g⟩:=M z.heap.size;rw[<-g];have r:V.heap.size<=d:=(oB c.fr.size);have p:=dL f g;have s:(¬(ζ.slice t l u).ownBlock=S d):=(c.olt O);have n:(d≠q):=(oB c.rq.lt);have h:=(c.j (W':=i) b (by rw[f];exact cZ));clear f g;have c:=bx h.p;go_wp2_with fail;refine sg (cR h.rq) ?_;rintro c B ⟨rfl,y,k⟩;have c:=k.obj p.1 n;have f:=dh c;have f:=aG c 1;have h:=h.rr b k y;go_upto_region 2 with fail;refine cT (λg f=> ?_);have i:(aY g d #[I a.k,I a.f] 203):=(by rw[f];have:=aD c 1 (I a.f);simpa using this);have d:bT d B g:=by rw[f];exact rF.aK _ _
 have c:=(h.boxed b c r s J J J id d);clear f;have f:=aj c.box 2;have d:=aj i;have g:=d 0;have d:=d 1;simp only[rC,rE] at f g d;go_wp2_with (at_builtin;refine stop ?_);refine aZ.go (bH Y (.tmp 10) (.tmp 12) Y XF l HM Y (c.own.fr b.st cZ) b.st b.t2 a (cs:=[I a.k,I a.f]) Y Y (eF.block (cs:=#[I a.k,I a.f]) (bM Y) oC) (λa d=>Y) O mL (by have:=c.rq.fr.size;have:=c.fr.size;simp;omega) ?_);intro f g h a d i k;obtain⟨a,o⟩:=RJ.push b c HM sI cZ a d;have b:=aj a 2;simp only[rC,rE] at b;have a:=aG a 2;go_wp2;go_end0
 exact⟨Y,_,_,o⟩
theorem Qg{q r s:E}{b:Tn}{done:L Tn}(g:RJ 77 3 54 0 CT W V q r s #[aV] (Cc b++e) done x L1 U)(b1:done.length<1000000000000)(a4:b.w.length<1000000000000)(a5:b.r.length<1000000000000):
  aQ 157 #[aP r 0,aP s 0] U (Zg 77 3 54 0 CT W V q r s #[aV] e (done++[b])):=by
 rw[QH] at g;have a:=KH;obtain⟨m,c⟩:=M done.length;have HM:=c.symm;obtain⟨Q,R,rfl⟩:=g.shape c.symm;have a2:(m+1)*56<=140737488355328:=O;have a3:m+1<=maxLen:=mL;have r:=bx g.p;clear c
 delta aQ;go_in
 go_wp2_with fail;refine sg (cR g.rq) ?_;rintro r a8 ⟨rfl,a6,a1⟩;have g:=(g.rr a a1 a6);go_upto_region 1 with fail;refine cT (λr c=> ?_);obtain⟨i,d⟩:=M a8.heap.size;rw[<-d];have p:V.heap.size<=i:=(oB g.fr.size);have P:=dL c d;have z:(¬(ζ.slice Q m R).ownBlock=S i):=(g.olt O);have v:(i≠q):=(oB g.rq.lt);have t:=(g.j (W':=r) a (by rw[c];exact cZ));clear c d;have g:=bx t.p;go_wp2_with fail;refine sg (pV t.rq a4) ?_;rintro r a9 ⟨g,rfl,G,a7,C⟩;obtain⟨k,n,l,-,-,rfl,-,-,-⟩:=DI G;have h:=C.obj P.1 v;have g:=dh h;have g:=aG h 1;have r:=t.rr a C a7;go_upto_region 2 with fail;refine cT (λg d=> ?_);have o:(aY g i #[I b.s,.slice k n l,aV] 77):=(by rw[d];have:=aD h 1 (.slice k n l);simpa using this);have D:bT i a9 g:=by rw[d];exact rF.aK _ _
 have c:=(r.boxed a h p z J J J (by unfold JQ;decide) D);clear d;have g:=bx c.p;go_wp2_with fail;refine sg (nD KT (λd=>by simp[Nh]) (RJ.start c.rq rF c.p o Y c.lo.2.2.1 v (bX c.lo.1 p)) (λd V=>by simp[go_sem]) (λr f done x L1 U i g d=>Ma d (oB a5))) ?_;rintro g i ⟨rfl,b2,b0,f⟩;obtain⟨A,B,rfl⟩:=f.shape (m:=b.r.length) Y;have d:=(c.eA a o p z J J (by unfold JQ;decide) f.fr f.rq);have y:=Z f.box;have w:=f.own.read;have K:=((G.past da D h J id).aJ da f.fr (λh g F u f=>f.elim (λX=>by subst X;exact u.ne c.rq.uQ (F.elim (λa0=>by subst a0;decide) (λc=>c.elim)) Y) (λX=>by subst X;exact u.ne ⟨_,_,o⟩ (F.elim (λa0=>by subst a0;decide) (λc=>c.elim)) Y)));obtain⟨f,c⟩:=M b.r.length;rw[<-c] at y w;clear c;have g:=aj d.box 0;have c:=aj y.1;have h:=c 0;have i:=c 1;have c:=c 2;simp only[rC,rE] at g h i c;go_wp2_with (at_builtin;refine stop ?_);refine aZ.go (bH Y (.tmp 13) (.tmp 15) Y Jz m HM Y (d.own.fr a.st cZ) a.st a.t2 b (cs:=[I b.s,.slice k n l,.slice A f B]) Y Y (eF.block (cs:=#[I b.s,.slice k n l,.slice A f B]) (bM Y) oC) (λb u=>⟨_,_,Y,(K.fr da cZ).beside da (d.own.fr a.st cZ) u J id,(w.f cZ).beside CKs (d.own.fr a.st cZ) u J id⟩) a2 a3 (by have:=d.rq.fr.size;have:=d.fr.size;simp;omega) ?_);intro f g h b c i k;obtain⟨a,u⟩:=RJ.push a d HM sI cZ b c;have b:=aj a 0;simp only[rC,rE] at b;have a:=aG a 0;go_wp2;go_end0
 exact⟨Y,_,_,u⟩
theorem UI{q:E}{a:L Tn}(k:RQ W q (eL Cc a++e) V)(l:a.length<1000000000000)(g:∀b∈a,b.w.length<1000000000000/\b.r.length<1000000000000):aQ 112 #[aP q 0] V λd b=>∃c,d=.returned (.agg #[c])/\Sl 77 3 CT b c a/\RQ W q e b/\Rr q V b:=by
 have f:=KH;have c:=Z g
 delta aQ;go_in
 go_upto_region 1 with fail;refine cT (λm a=> ?_);obtain⟨d,b⟩:=M V.heap.size;obtain⟨g,h⟩:=M (d+1);rw[<-b,<-h];have d:=(RJ.new (te:=77) (n:=3) (tb:=54) (ci:=0) (C:=CT) (W1:=m) (b1:=d) (b2:=g) (cs:=#[aV]) k (by rw[a];exact cZ.alloc _) (by rw[a];exact aC (bM b) _) (by rw[a];exact bM sO) Y O O);have k:=bx d.p;have i:V.heap.size<=g:=O;clear a b h;go_wp2_with fail;refine sg (nD f (λa=>by simp[Cc]) d (λa V=>by simp[go_sem]) (λb g done n h k a m d=>Qg d (oB l) (c.1 b a).1 (c.1 b a).2)) ?_;rintro a c ⟨rfl,o,n,b⟩;obtain⟨b,d,c,a,h⟩:=b.fin f i;have f:=bx a;have f:=aG a 0;go_wp2;exact aO (v:=.agg #[.slice b d c]) (by have a:=aj (aD a 0 (.slice b d c)) 0;simp at a;simp[results,results112,go_sem,a]) Y ⟨_,Y,h.1 _ (rF.aK 0 _)⟩
theorem KR:RK 30 66 fS CR:=⟨CR.aJ,J,J,J,J,J,by unfold fS;decide,by unfold fS;decide,by unfold fS;decide⟩
theorem MO{q l c:E}{done:L (L T)}{i:θ ζ}(m:i.size=28)(d:RJ 30 1 66 12 CR W V q l c i (fh e++p1) done x L1 U)(n:done.length<1000000000000)(w:e.length<1000000000000):
  aQ 118 #[aP c 0,aP l 0] U (Zg 30 1 66 12 CR W V q l c i p1 (done++[e])):=by
 have a:=KR;obtain⟨b,k⟩:=M done.length;have HM:=Z k.symm;obtain⟨g,h,rfl⟩:=d.shape k.symm;have s:=Z m;have i:(i.setIfInBounds 12 (.slice g b h))[12]? =S (.slice g b h):=vG O;have p:=Z i;have f:=(d.j a ((Fr.refl j U).drew));have o:N (∀l,Rr q U.drew l->l.cell? (H c 12)=S (.slice g b h)):=Z (λr l=>(aj (l.obj f.box f.lo.2.2.2) 12).trans p.1);have l:=(aj d.box 12).trans i;have l:=bx d.p;have u:(b+1)*24<=140737488355328:=O;have v:b+1<=maxLen:=mL;clear d k n i m
 delta aQ;go_in
 go_wp2_with fail;go_region_law (first
  |(go_simp;refine(pV f.rq w).mono ?_;rintro i n ⟨l,rfl,m,r,k⟩;have i:=o.1 n k;have c:∀d,(n.alloc d).cell? (H c 12)=S (.slice g b h):=(λc=>o.1 _ (k.trans (Rr.of (rF.alloc c))));obtain⟨y,A,z,-,-,rfl,-,-,-⟩:=DI m;have⟨SR,d⟩:=bD m (f.rr a k r);have t:N (V.heap.size<=n.heap.size):=Z d.1.fr.size;clear r k m)
  |(refine tQ Y (.tmp 4) (.tmp 7) Y aaR b HM.1 Y (d.1.own.fr a.st cZ) a.st a.t2 e Y Y (eF.one _ _ _ Y) (λb k=>⟨_,Y,(SR.1.fr da cZ).beside da (d.1.own.fr a.st cZ) k J id⟩) u v (by have:=t.1;simp;omega) ?_;intro f g h b c i l;obtain⟨a,d⟩:=RJ.push a d.1 HM.1 (oB s.1) cZ b c;have f:=(aj a 12).trans p.1;have f:=aG a 12;have k:=Z d;clear b c a d))
 all_goals(go_wp2;go_end0;exact⟨Y,_,_,k.1⟩)
def FG(k:Hs)(l:T)(b:E)(c:ε)(a:ζ):Prop:=∃p r d m g e n h f o i,a=.agg #[I r,.slice d m g,.slice e n h,.slice f o i]/\jm k l b c a p
theorem FG.fr{a:Hs}(b:FG a i1 m W x)(h:Fr j W V):FG a i1 m V x:=by
 obtain⟨o,p,a,k,d,b,l,e,c,n,f,g,i⟩:=b;exact⟨o,p,a,k,d,b,l,e,c,n,f,g,i.fr h⟩
theorem FG.tq{a:Hs}{q:E}(b:FG a i1 m W x)(n:TQ [(q,t)] W V)(i:t≠3)(h:t≠146)(k:t≠276):FG a i1 m V x:=by
 obtain⟨s,u,a,o,d,b,p,e,c,r,f,g,l⟩:=b;exact⟨s,u,a,o,d,b,p,e,c,r,f,g,l.tq n (by simp[i,h,k])⟩
def adm(f:Hs)(g:T)(d:E)(i:iS)(c:E)(h:ε)(e:Ending)(a:ε):Prop:=
 (∃b,e=.returned b/\FG f g d a b)/\bT c h a/\∃d b,aY a c (ei {i with sd:=d,si:=b}) 66/\b<1000000000
theorem Xq{b:θ ζ}(e:∀a,(a<7\/9<=a)->b[a]? =(ei x3)[a]?)(c:b[7]? =S (I i1))(d:b[8]? =S (I i2)):b=ei {x3 with sd:=i1,si:=i2}:=by
 apply kF;intro a;rcases(show a=7\/a=8\/(a<7\/9<=a) by omega) with rfl|rfl|f
 .exact c
 .exact d
 rw[e a f];have g:ei {x3 with sd:=i1,si:=i2}=((ei x3).setIfInBounds 7 (I i1)).setIfInBounds 8 (I i2):=Y;rw[g,ew O,ew O]
theorem UH(m:Hs)(c:iS)(b:E)(i:L Fc)(g:ε)(U:Gl g)(d:g.heap[b]? =S (.cells (ei c) 66 (0,0)))(a3:eJ g (.agg #[.slice c.ah c.hN c.ch]) m)(a5:Sl 276 7 CF g (.slice c.af c.fn c.cf) i)(a2:i.length<=fV)(a4:c.si<1000000000):
  aQ 134 #[aP b 0] g (adm m c.eY (3+2*i.length) c b g):=by
 have l:N (∀a,Fr j g a->a.heap[b]? =S (.cells (ei c) 66 (0,0))):=Fr.all d;have B:b<g.heap.size:=(ba d);have HI:=Z (show(prog.info? 288).map (·.size)=S 4 by kernel_rfl);clear d
 delta aQ;go_in
 go_upto_region 1 with fail;refine cT (λh n=> ?_);obtain⟨e,d⟩:=M g.heap.size;rw[<-d];have f:=cY n;have X:=dL n d;have k:N (e≠b/\g.heap.size<=e):=Z (oB B);clear n d;have a7:=λa(d:Fr j h a)=>bx (l.1 _ (f.step d));have a8:=λa(d:Fr j h a)=>dh (l.1 _ (f.step d));have a9:=λa(d:Fr j h a)=>iU (l.1 _ (f.step d));have b0:=λa(d:Fr j h a)=>Ep (l.1 _ (f.step d));have b1:=λa(d:Fr j h a)=>Tg (l.1 _ (f.step d));refine gL [] [23,24] [1,2,3,4,5,6,7,8,9,10,11,12,13,14,15,16,17,18] (λix=>if ix=23 then λh d=>TQ [(b,66)] h d/\iW b 7 9 66 h d else λh d=>TQ [(e,288)] h d/\iW e 0 100 288 h d) (uX b 7 9 66 e 288) [[],[],[1],[1,2],[1,2,3],[],[5],[5,6],[5,6,7],[],[9],[9,10],[9,10,11],[],[13],[13,14],[13,14,15],[1,2,3,4,5,6,7,8,9,10,11,12,13,14,15,16],[1,2,3,4,5,6,7,8,9,10,11,12,13,14,15,16,17],[1,2,3,4,5,6,7,8,9,10,11,12,13,14,15,16,17,18],[1,2,3,4,5,6,7,8,9,10,11,12,13,14,15,16,17,18],[0],[0,21],[0,1,2,3,4,5,6,7,8,9,10,11,12,13,14,15,16,17,18,19,21,22],[1,2,3,4,5,6,7,8,9,10,11,12,13,14,15,16,17,18,20]] [.eq 0 (aP b 0),.eq 1 (aP b 0),.eq 2 (aP b 0),.eq 3 (aP b 0),.eq 4 (.agg #[.slice c.ah c.hN c.ch]),.eq 5 (aP b 0),.eq 6 (aP b 0),.eq 7 (aP b 1),.eq 8 (I c.eY),.eq 9 (aP b 0),.eq 10 (aP b 0),.eq 11 (aP b 7),.eq 12 (.agg #[I c.sd,I c.si]),.eq 13 (aP b 0),.eq 14 (aP b 0),.eq 15 (aP b 2),.eq 16 (.slice c.af c.fn c.cf),.w1 17 (λB a=>∃o n d,B=.tuple #[.agg #[I o,I n],d]/\n<1000000000/\FG m c.eY (3+2*i.length) a d),.w1 18 (λB a=>∃o n d,B=.tuple #[.agg #[I o,I n],d]/\n<1000000000/\FG m c.eY (3+2*i.length) a d),.w1 19 (λh a=>∃o n,h=.agg #[I o,I n]/\n<1000000000),.w1 20 (λd a=>FG m c.eY (3+2*i.length) a d),.eq 21 (aP b 0),.eq 22 (aP b 7),.w1 19 (λh a=>∃p o,h=.agg #[I p,I o]/\o<1000000000/\∃n:θ ζ,a.heap[b]? =S (.cells n 66 (0,0))/\n[7]? =S (I p)/\n[8]? =S (I o)),.w1 20 (λd a=>∃y x n u r o v s p w t,d=.agg #[I x,.slice n u r,.slice o v s,.slice p w t]/\jm m c.eY (3+2*i.length) a d y/\a.heap[e]? =S (.cells #[I x,.slice n u r,.slice o v s,.slice p w t] 288 (0,0)))] [[0],[1],[2],[3],[4],[5],[6],[7],[8],[9],[10],[11],[12],[13],[14],[15],[16],[17],[18],[19],[20],[21],[22],[19],[20]] kR kR kR kR Y (λ_ _ _ _ o n=>⟨o.symm.trans n.1,n.2⟩) (λ_ _ n=>uX.of n) (λ_ _ _ n o=>n.trans o) ?hma ?hstab ?hstabM (λn=> ?_)
 case hma=>
  intro p o h d n;simp only[rB] at o;rcases o with rfl|rfl
  .exact⟨n.1.1.mono (λo _ ⟨p,h,_⟩=>.inl (sU (cH Prod.fst (cX.1 h)))),n.2,iW.apart n.1.1 (λ⟨o,h,_⟩=>k.1.1 (sU (cH Prod.fst (cX.1 h))))⟩
  exact⟨n.1.1.mono (λo _ ⟨p,h,_⟩=>.inr (sU (cH Prod.fst (cX.1 h)))),iW.apart n.1.1 (λ⟨o,h,_⟩=>k.1.1.symm (sU (cH Prod.fst (cX.1 h)))),n.2⟩
 case hstab=>refine⟨?_,?_,?_,?_,?_,?_,?_,?_,?_,?_,?_,?_,?_,?_,?_,?_,?_,?_,?_,?_,?_,?_,?_,?_,?_,trivial⟩<;>first|exact Lu|exact λ_ _ _ ⟨r,s,d,h,o,p⟩ n=>⟨r,s,d,h,o,p.fr n⟩|exact λ_ _ _ n h=>FG.fr n h|exact λ_ _ _ ⟨t,u,n,r,h,p,s⟩ o=>⟨t,u,n,r,h,o.aB p id,s⟩|exact λ_ _ _ ⟨A,B,n,x,r,o,y,s,p,z,t,u,w,v⟩ h=>⟨A,B,n,x,r,o,y,s,p,z,t,u,w.fr h,h.aB v id⟩
 case hstabM=>
  intro n h;simp only[rB] at h;rcases h with rfl|rfl;all_goals(refine⟨?_,?_,?_,?_,?_,?_,?_,?_,?_,?_,?_,?_,?_,?_,?_,?_,?_,?_,?_,?_,?_,?_,?_,?_,?_,trivial⟩<;>first|exact wZ|exact λ_ _ _ _ _ _ ⟨r,s,d,h,n,p⟩ o=>⟨r,s,d,h,n,p.tq o.1 J J J⟩|exact λ_ _ _ _ _ _ h n=>FG.tq h n.1 J J J|exact λ_ _ _ _ _ _ ⟨t,u,n,p,h,o,s⟩ r=>⟨t,u,n,p,h,r.1.obj o (sU k.1.1),s⟩|exact λ_ _ _ _ _ _ ⟨A,B,n,x,r,o,y,s,p,z,t,u,w,v⟩ h=>⟨A,B,n,x,r,o,y,s,p,z,t,u,w.tq h.1 sI,h.1.obj v (sU k.1.1.symm)⟩)
 refine⟨?_,?_,?_,?_,?_,?_,?_,?_,?_,?_,?_,?_,?_,?_,?_,?_,?_,?_,?_,?_,?_,?_,?_,?_,?_,?_⟩;all_goals first|exact Ca|skip
 .intro a h o x n
  simp only[rX,ξ] at h o n |-;try simp only[o] at n
  go_simp;go_at_call 176;refine(Vc m c.eY i c.sd c.si _ _ a (U.fr (f.step h)) (a3.fr (f.step h)) (a5.f (f.step h)) a2 a4).mono ?_;rintro h c ⟨v,w,i,u,rfl,p,t,r⟩;have s:=p;obtain⟨y,G,C,z,K,D,A,P,F,rfl,-⟩:=p.open_;exact n _ _ r ⟨v,w,_,Y,t,u,_,_,_,_,_,_,_,_,_,_,Y,s⟩
 .intro a n c i h
  have m:=c 1 J;have i:=c 17 J;simp only[rX,ξ] at n m i c h |-;try simp only[c] at h
  obtain⟨i,m,d,c,o,p⟩:=i;simp only[c] at h;go_simp;exact h _ _ rF ⟨i,m,d,Y,o,p⟩
 .intro a n c i h
  have m:=c 1 J;have i:=c 18 J;simp only[rX,ξ] at n m i c h |-;try simp only[c] at h
  obtain⟨i,m,d,c,o,n⟩:=i;simp only[c] at h;go_simp;exact h _ _ rF ⟨i,m,Y,o⟩
 .intro a n c i h
  have m:=c 1 J;have i:=c 18 J;simp only[rX,ξ] at n m i c h |-;try simp only[c] at h
  obtain⟨m,n,d,c,i,d⟩:=i;simp only[c] at h;go_simp;exact h _ _ rF d
 .intro a m c d i
  have h:=c 1 J;have d:=c 19 J;simp only[rX,ξ] at m h d c i |-;try simp only[c] at i
  obtain⟨d,h,p,r⟩:=d;obtain⟨m,s,c,-⟩:=m.2.1 _ (l.1 _ f);have n:m.size=28:=s;have s:a.cell? (H b 7)=S m[7]:=by rw[aj c];simp[n]
  have m:a.cell? (H b 8)=S m[8]:=by rw[aj c];simp[n]
  have m:=λm=>aG c m;simp only[p] at i;go_simp;have m:bT b a ((a.setCell (H b 7) (I d)).setCell (H b 8) (I h)):=((Fr.refl (λm=>m=b) a).aK 7 _).aK 8 _;have o:=aD (aD c 7 (I d)) 8 (I h);have m:TQ [(b,66)] a ((a.setCell (H b 7) (I d)).setCell (H b 8) (I h)):=TQ.one sI c m o sI;have c:iW b 7 9 66 a ((a.setCell (H b 7) (I d)).setCell (H b 8) (I h)):=(iW.set _ J J).trans (iW.set _ J J);exact i undef _ ⟨m,c⟩ ⟨d,h,Y,r,_,o,by simp[n,pP],by simp[n,pP]⟩
 .intro a h c d u
  have i:=c 2 J;have d:=c 20 J;simp only[rX,ξ] at h i d c u |-;try simp only[c] at u
  obtain⟨K,y,n,v,r,o,w,s,p,x,t,A,F⟩:=d;obtain⟨c,G,z,-⟩:=h.2.2 _ X.1;obtain⟨P,Q,R,V,rfl⟩:=Hz G;obtain⟨c,d,h,i,m⟩:=gZ z;simp only[A] at u;go_simp;have C:=bP z (I y) (.slice n v r) (.slice o w s) (.slice p x t);have D:TQ [(e,288)] a (gN a e (I y) (.slice n v r) (.slice o w s) (.slice p x t)):=TQ.one sI z (bC _ _ _ _ _ _) C Y;have c:iW e 0 100 288 a (gN a e (I y) (.slice n v r) (.slice o w s) (.slice p x t)):=(((iW.set _ J J).trans (iW.set _ J J)).trans (iW.set _ J J)).trans (iW.set _ J J);exact u undef _ ⟨D,c⟩ ⟨K,y,n,v,r,o,w,s,p,x,t,Y,by have c:=F.tq D sI;rwa[A] at c,C⟩
 intro a v c;have d:=c 23 J J;have h:=c 24 J J;simp only[rX,ξ] at d h;clear c;simp only[Act.put,rC];obtain⟨P,Q,-,W,a0,n,D,F⟩:=d;obtain⟨a6,A,o,x,s,p,y,t,r,z,u,c,C,w⟩:=h;rw[c] at C;obtain⟨a1,-,G,K⟩:=v.2.1 _ (l.1 _ f);obtain rfl:a1=a0:=by rw[G] at n;simpa using n
 have EQ:=Xq K D F;rw[EQ] at n;have R:bT b g a:=f.trans v.1 (λ_ _ b=>b.elim) (λd c b=>b.elim (λb=>b) (λb=>absurd c (oB k.1.2)));have⟨V,b⟩:=bD n w;obtain⟨c,d,f,g,h⟩:=gZ w;clear v G K D F EQ n w a7 a8 a9 b0 b1;go_wp2;have n:TQ [(e,288)] a (gN a e (I A) (.slice o x s) (.slice p y t) (.slice r z u)):=TQ.one sI b.1 (bC _ _ _ _ _ _) (bP b.1 _ _ _ _) Y;exact aO (bO Y _ _ _ e 288 _ (0,0) _ Y (bP b.1 (I A) (.slice o x s) (.slice p y t) (.slice r z u)) Y underlying288 tZ) Y ⟨⟨_,Y,a6,A,o,x,s,p,y,t,r,z,u,Y,C.tq n sI⟩,R.trans (bC _ _ _ _ _ _) (λ_ _ a=>a) (λc a b=>absurd a (oB k.1.2)),P,Q,n.obj V.1 (sU k.1.1),W⟩
theorem Cr(h:Hs)(b:iS)(c:E)(e:ε)(B:Gl e)(d:aY e c (ei b) 66)(F:eJ e (.agg #[.slice b.ah b.hN b.ch]) h):
  aQ 133 #[aP c 0] e λg a=>(∃f,g=.returned f/\FG h b.eY 1 a f)/\Fr j e a:=by
 have w:N (∀a,Fr j e a->aY a c (ei b) 66):=Fr.all d;have HI:=(show(prog.info? 288).map (·.size)=S 4 by kernel_rfl);clear d
 delta aQ;go_in
 go_upto_region 1 with fail;refine cT (λA k=> ?_);obtain⟨d,i⟩:=M e.heap.size;rw[<-i];have g:=cY k;have D:=dL k i;have C:e.heap.size<=d:=O;have e:=λa(e:Fr j A a)=>bx (w.1 _ (g.step e));have e:=λa(e:Fr j A a)=>dh (w.1 _ (g.step e));clear k i;refine gQ [9] [0,1,2,3,4,5,6,7,8] (λix=>[(d,288)]) ([(d,288)]) [[],[0],[0,1],[0,1,2],[],[4],[4,5],[4,5,6],[0,1,2,3,4,5,6,7],[0,1,2,3,4,5,6,7,8]] [.eq 0 (aP c 0),.eq 1 (aP c 0),.eq 2 (aP c 0),.eq 3 (.agg #[.slice b.ah b.hN b.ch]),.eq 4 (aP c 0),.eq 5 (aP c 0),.eq 6 (aP c 1),.eq 7 (I b.eY),.w1 8 (λf a=>FG h b.eY 1 a f),.w1 8 (λf a=>∃s r c n k e o l i p m,f=.agg #[I r,.slice c n k,.slice e o l,.slice i p m]/\jm h b.eY 1 a f s/\aY a d #[I r,.slice c n k,.slice e o l,.slice i p m] 288)] [[0],[1],[2],[3],[4],[5],[6],[7],[8],[8]] kR kR kR Y (λ_ _ _ _ e c=>⟨e.symm.trans c.1,c.2⟩) sI ?hstab ?hstabM (λc=> ?_)
 case hstab=>exact Il
 case hstabM=>
  intro c i;simp only[rB] at i;subst i;all_goals(refine⟨?_,?_,?_,?_,?_,?_,?_,?_,?_,?_,trivial⟩<;>first|exact wZ|exact λ_ _ _ _ _ c e=>FG.tq c e J J J)
 refine⟨?_,?_,?_,?_,?_,?_,?_,?_,?_,?_,?_⟩;all_goals first|exact Ca|skip
 .refine IG ?_
  intro a c e l;go_simp;go_at_call 175;refine(IQ h b.eY _ a (B.fr (g.step c)) (F.fr (g.step c))).mono ?_;rintro c b ⟨e,m,rfl,i,k⟩;obtain⟨n,u,r,o,v,s,p,x,t,rfl,-⟩:=i.open_;exact l _ _ k ⟨m,_,_,_,_,_,_,_,_,_,_,Y,i⟩
 .intro a e b c i
  have c:=b 8 J;simp only[rX,ξ] at e c b i |-;try simp only[b] at i
  obtain⟨P,v,k,s,n,l,t,o,m,u,p,x,G⟩:=c;obtain⟨b,K,r⟩:=e.2 d 288 sI _ D.1;obtain⟨Q,R,U,V,rfl⟩:=Hz K;obtain⟨b,c,e,f,h⟩:=D4' r;simp only[x] at i;go_simp;have y:=bP r (I v) (.slice k s n) (.slice l t o) (.slice m u p);have z:TQ [(d,288)] a (gN a d (I v) (.slice k s n) (.slice l t o) (.slice m u p)):=TQ.one sI r (bC _ _ _ _ _ _) y Y;exact i undef _ z ⟨P,v,k,s,n,l,t,o,m,u,p,Y,by have b:=G.tq z sI;rwa[x] at b,y⟩
 refine re1 9 ?_;intro a c b;obtain⟨v,x,l,s,o,m,t,p,n,u,r,a,i,b⟩:=b;rw[a] at i;have k:=(TQ.keep g c (by simp;exact C));go_wp2;exact aO (bO Y _ _ _ d 288 _ (0,0) _ Y b Y underlying288 (by rw[HI];rfl)) Y ⟨⟨_,Y,v,x,l,s,o,m,t,p,n,u,r,Y,i⟩,k⟩
def WA(a:ε)(k:ζ):Prop:=∃i l c h e b f d g left,k=.agg #[I i,.bool l,.slice c h e,.slice b f d]/\Gf i g left/\Sl 3 1 CI a (.slice c h e) g/\Sl 30 1 CR a (.slice b f d) left
def WB(i:Hs)(k:T)(b:ε)(a:ζ):Prop:=∃o p c l f d m g e n h,a=.agg #[I p,.slice c l f,.slice d m g,.slice e n h]/\jm i k 0 b a o
theorem WA.fr(b:WA W x)(a:Fr j W V):WA V x:=by
 obtain⟨o,f,c,n,e,b,l,d,m,left,g,k,h,i⟩:=b;exact⟨o,f,c,n,e,b,l,d,m,left,g,k,h.f a,i.f a⟩
theorem WA.tq{q:E}(c:WA W x)(b:TQ [(q,t)] W V)(a:t≠3)(l:t≠30):WA V x:=by
 obtain⟨r,g,d,p,f,c,n,e,o,left,h,m,i,k⟩:=c;exact⟨r,g,d,p,f,c,n,e,o,left,h,m,b.sl i iA (by simp[dX a]),b.sl k CR.aJ (by simp[fS,dX l,a])⟩
theorem WB.fr{a:Hs}(b:WB a i1 W x)(h:Fr j W V):WB a i1 V x:=by
 obtain⟨n,o,a,k,d,b,l,e,c,m,f,g,i⟩:=b;exact⟨n,o,a,k,d,b,l,e,c,m,f,g,i.fr h⟩
theorem WB.tq{a:Hs}{q:E}(b:WB a i1 W x)(m:TQ [(q,t)] W V)(i:t≠3)(h:t≠146)(k:t≠276):WB a i1 V x:=by
 obtain⟨r,s,a,n,d,b,o,e,c,p,f,g,l⟩:=b;exact⟨r,s,a,n,d,b,o,e,c,p,f,g,l.tq m (by simp[i,h,k])⟩
theorem abq.ab{c:Hs}(k:abq c i1 W e2 V):∃a b,e2=.returned (.tuple #[a,b])/\WA V a/\WB c i1 V b/\Fr j W V:=by
 obtain⟨n,b,m,left,F,D,C,l,rfl,e,a,i,g,d⟩:=k;obtain⟨t,y,rfl,-,-,h⟩:=i.oH Y;obtain⟨s,x,rfl,-,-,f⟩:=g.oH Y;obtain⟨o,z,u,p,A,v,r,B,w,rfl,-⟩:=a.open_;exact⟨_,_,Y,⟨n,b,_,_,_,_,_,_,m,left,Y,e,h,f⟩,⟨l,_,_,_,_,_,_,_,_,_,_,Y,a⟩,d⟩
def adq(d:Hs)(e:T)(m:iS)(i:E)(f:ε)(c:Ending)(a:ε):Prop:=
 (∃b,c=.returned b/\WB d e a b)/\bT i f a/\∃k l c h e b f d g left,aY a i (ei {m with wd:=k,cut:=l,ap:=c,pn:=h,cp:=e,al:=b,ln:=f,cl:=d}) 66/\Gf k g left/\Sl 3 1 CI a (.slice c h e) g/\Sl 30 1 CR a (.slice b f d) left
theorem PN{b:θ ζ}{e:κ}{d c:ι Addr}(k:∀a,(a<9\/13<=a)->b[a]? =(ei x3)[a]?)(i:b[9]? =S (I i1))(f:b[10]? =S (.bool e))(g:b[11]? =S (.slice d m q))(h:b[12]? =S (.slice c n1 n2)):
  b=ei {x3 with wd:=i1,cut:=e,ap:=d,pn:=m,cp:=q,al:=c,ln:=n1,cl:=n2}:=by
 apply kF;intro a;rcases(show a=9\/a=10\/a=11\/a=12\/(a<9\/13<=a) by omega) with rfl|rfl|rfl|rfl|l
 .exact i
 .exact f
 .exact g
 .exact h
 rw[k a l];have n:ei {x3 with wd:=i1,cut:=e,ap:=d,pn:=m,cp:=q,al:=c,ln:=n1,cl:=n2}=((((ei x3).setIfInBounds 9 (I i1)).setIfInBounds 10 (.bool e)).setIfInBounds 11 (.slice d m q)).setIfInBounds 12 (.slice c n1 n2):=Y;rw[n,ew O,ew O,ew O,ew O]
theorem Hu(m:Hs)(b:iS)(c:E)(A:L T)(left:L (L T))(h:ε)(F:Gl h)(d:h.heap[c]? =S (.cells (ei b) 66 (0,0)))(b0:eJ h (.agg #[.slice b.ah b.hN b.ch]) m)(b2:Sl 3 1 CI h (.slice b.ap b.pn b.cp) A)(b1:Sl 30 1 CR h (.slice b.al b.ln b.cl) left)(a7:Gf b.wd A left):
  aQ 135 #[aP c 0] h (adq m b.eY b c h):=by
 have i:N (∀a,Fr j h a->a.heap[c]? =S (.cells (ei b) 66 (0,0))):=Fr.all d;have R:c<h.heap.size:=(ba d);clear d
 delta aQ;go_in
 go_upto_region 1 with fail;refine cT (λn e=> ?_);obtain⟨g,d⟩:=M h.heap.size;rw[<-d];have f:=cY e;have Q:=dL e d;have l:(g≠c/\h.heap.size<=g):=(oB R);clear e d;have h:=λa(d:Fr j n a)=>bx (i.1 _ (f.step d));have h:=λa(d:Fr j n a)=>dh (i.1 _ (f.step d));have h:=λa(d:Fr j n a)=>oc9 (i.1 _ (f.step d));have h:=λa(d:Fr j n a)=>IS (i.1 _ (f.step d));have h:=λa(d:Fr j n a)=>acP (i.1 _ (f.step d));have h:=λa(d:Fr j n a)=>adA (i.1 _ (f.step d));refine gL [] [19,20] [1,2,3,4,5,6,7,8,9,10,11,12,13,14] (λix=>if ix=19 then λe d=>TQ [(c,66)] e d/\iW c 9 13 66 e d else λe d=>TQ [(g,288)] e d/\iW g 0 100 288 e d) (uX c 9 13 66 g 288) [[],[],[1],[1,2],[1,2,3],[],[5],[5,6],[5,6,7],[],[9],[9,10],[9,10,11],[1,2,3,4,5,6,7,8,9,10,11,12],[1,2,3,4,5,6,7,8,9,10,11,12,13],[1,2,3,4,5,6,7,8,9,10,11,12,13,14],[1,2,3,4,5,6,7,8,9,10,11,12,13,14],[0],[0,17],[0,1,2,3,4,5,6,7,8,9,10,11,12,13,14,15,17,18],[1,2,3,4,5,6,7,8,9,10,11,12,13,14,16]] [.eq 0 (aP c 0),.eq 1 (aP c 0),.eq 2 (aP c 0),.eq 3 (aP c 0),.eq 4 (.agg #[.slice b.ah b.hN b.ch]),.eq 5 (aP c 0),.eq 6 (aP c 0),.eq 7 (aP c 1),.eq 8 (I b.eY),.eq 9 (aP c 0),.eq 10 (aP c 0),.eq 11 (aP c 9),.eq 12 (.agg #[I b.wd,.bool b.cut,.slice b.ap b.pn b.cp,.slice b.al b.ln b.cl]),.w1 13 (λh a=>∃e d,h=.tuple #[e,d]/\WA a e/\WB m b.eY a d),.w1 14 (λh a=>∃e d,h=.tuple #[e,d]/\WA a e/\WB m b.eY a d),.w1 15 (λe a=>WA a e),.w1 16 (λd a=>WB m b.eY a d),.eq 17 (aP c 0),.eq 18 (aP c 9),.w1 15 (λe a=>∃t u n s p k r o h left,e=.agg #[I t,.bool u,.slice n s p,.slice k r o]/\Gf t h left/\Sl 3 1 CI a (.slice n s p) h/\Sl 30 1 CR a (.slice k r o) left/\∃h:θ ζ,a.heap[c]? =S (.cells h 66 (0,0))/\h[9]? =S (I t)/\h[10]? =S (.bool u)/\h[11]? =S (.slice n s p)/\h[12]? =S (.slice k r o)),.w1 16 (λd a=>∃w v h s o k t p n u r,d=.agg #[I v,.slice h s o,.slice k t p,.slice n u r]/\jm m b.eY 0 a d w/\a.heap[g]? =S (.cells #[I v,.slice h s o,.slice k t p,.slice n u r] 288 (0,0)))] [[0],[1],[2],[3],[4],[5],[6],[7],[8],[9],[10],[11],[12],[13],[14],[15],[16],[17],[18],[15],[16]] kR kR kR kR Y (λ_ _ _ _ k h=>⟨k.symm.trans h.1,h.2⟩) (λ_ _ h=>uX.of h) (λ_ _ _ h k=>h.trans k) ?hma ?hstab ?hstabM (λh=> ?_)
 case hma=>
  intro n h e d k;simp only[rB] at h;rcases h with rfl|rfl
  .exact⟨k.1.1.mono (λn _ ⟨o,h,_⟩=>.inl (sU (cH Prod.fst (cX.1 h)))),k.2,iW.apart k.1.1 (λ⟨n,h,_⟩=>l.1 (sU (cH Prod.fst (cX.1 h))))⟩
  exact⟨k.1.1.mono (λn _ ⟨o,h,_⟩=>.inr (sU (cH Prod.fst (cX.1 h)))),iW.apart k.1.1 (λ⟨n,h,_⟩=>l.1.symm (sU (cH Prod.fst (cX.1 h)))),k.2⟩
 case hstab=>refine⟨?_,?_,?_,?_,?_,?_,?_,?_,?_,?_,?_,?_,?_,?_,?_,?_,?_,?_,?_,?_,?_,trivial⟩<;>first|exact Lu|exact λ_ _ _ ⟨e,d,k,n,o⟩ h=>⟨e,d,k,n.fr h,o.fr h⟩|exact λ_ _ _ k h=>WA.fr k h|exact λ_ _ _ k h=>WB.fr k h|exact λ_ _ _ ⟨C,s,n,z,p,k,x,o,y,w,t,v,s1,s2,r,u,B⟩ h=>⟨C,s,n,z,p,k,x,o,y,w,t,v,s1.f h,s2.f h,r,h.aB u id,B⟩|exact λ_ _ _ ⟨z,B,k,w,p,n,x,r,o,y,s,t,v,u⟩ h=>⟨z,B,k,w,p,n,x,r,o,y,s,t,v.fr h,h.aB u id⟩
 case hstabM=>
  intro k h;simp only[rB] at h;rcases h with rfl|rfl;all_goals(refine⟨?_,?_,?_,?_,?_,?_,?_,?_,?_,?_,?_,?_,?_,?_,?_,?_,?_,?_,?_,?_,?_,trivial⟩<;>first|exact wZ|exact λ_ _ _ _ _ _ ⟨e,d,k,n,o⟩ h=>⟨e,d,k,n.tq h.1 J J,o.tq h.1 J J J⟩|exact λ_ _ _ _ _ _ h k=>WA.tq h k.1 J J|exact λ_ _ _ _ _ _ h k=>WB.tq h k.1 J J J|exact λ_ _ _ _ _ _ ⟨C,s,n,z,p,k,x,o,y,w,t,v,s1,s2,r,u,B⟩ h=>⟨C,s,n,z,p,k,x,o,y,w,t,v,h.1.sl s1 iA sI,h.1.sl s2 CR.aJ (by simp[fS]),r,h.1.obj u (sU l.1),B⟩|exact λ_ _ _ _ _ _ ⟨z,B,k,w,p,n,x,r,o,y,s,t,v,u⟩ h=>⟨z,B,k,w,p,n,x,r,o,y,s,t,v.tq h.1 sI,h.1.obj u (sU l.1.symm)⟩)
 refine⟨?_,?_,?_,?_,?_,?_,?_,?_,?_,?_,?_,?_,?_,?_,?_,?_,?_,?_,?_,?_,?_,?_⟩;all_goals first|exact Ca|skip
 .intro a h n t k
  simp only[rX,ξ] at h n k |-;try simp only[n] at k
  go_simp;go_at_call 177;refine(Nz m b.eY b.wd b.cut A left _ _ _ a (F.fr (f.step h)) (b0.fr (f.step h)) (b2.f (f.step h)) (b1.f (f.step h)) a7).mono ?_;intro h b p;obtain⟨e,d,rfl,r,s,o⟩:=p.ab;exact k _ _ o ⟨e,d,Y,r,s⟩
 .intro a n b k h
  have m:=b 1 J;have k:=b 13 J;simp only[rX,ξ] at n m k b h |-;try simp only[b] at h
  obtain⟨e,d,b,o,p⟩:=k;simp only[b] at h;go_simp;exact h _ _ rF ⟨e,d,Y,o,p⟩
 .intro a n b k h
  have m:=b 1 J;have k:=b 14 J;simp only[rX,ξ] at n m k b h |-;try simp only[b] at h
  obtain⟨e,d,b,k,m⟩:=k;simp only[b] at h;go_simp;exact h _ _ rF k
 .intro a n b k h
  have m:=b 1 J;have k:=b 14 J;simp only[rX,ξ] at n m k b h |-;try simp only[b] at h
  obtain⟨e,d,b,e,d⟩:=k;simp only[b] at h;go_simp;exact h _ _ rF d
 .intro a v b d e
  have h:=b 1 J;have d:=b 15 J;simp only[rX,ξ] at v h d b e |-;try simp only[b] at e
  obtain⟨u,p,m,t,o,h,r,n,A,z,x,y,s1,s2⟩:=d;obtain⟨d,v,b,-⟩:=v.2.1 _ (i.1 _ f);have k:d.size=28:=v;have v:a.cell? (H c 9)=S d[9]:=by rw[aj b];simp[k]
  have v:a.cell? (H c 10)=S d[10]:=by rw[aj b];simp[k]
  have v:a.cell? (H c 11)=S d[11]:=by rw[aj b];simp[k]
  have d:a.cell? (H c 12)=S d[12]:=by rw[aj b];simp[k]
  have d:=λd=>aG b d;simp only[x] at e;go_simp;have w:=aD (aD (aD (aD b 9 (I u)) 10 (.bool p)) 11 (.slice m t o)) 12 (.slice h r n);have s:TQ [(c,66)] a ((((a.setCell (H c 9) (I u)).setCell (H c 10) (.bool p)).setCell (H c 11) (.slice m t o)).setCell (H c 12) (.slice h r n)):=TQ.one sI b (((((Fr.refl (λb=>b=c) a).aK 9 _).aK 10 _).aK 11 _).aK 12 _) w sI;exact e undef _ ⟨s,((((iW.set _ J J).trans (iW.set _ J J)).trans (iW.set _ J J)).trans (iW.set _ J J))⟩ ⟨u,p,m,t,o,h,r,n,A,z,Y,y,s.sl s1 iA sI,s.sl s2 CR.aJ (by simp[fS]),_,w,by simp[k,pP],by simp[k,pP],by simp[k,pP],by simp[k,pP]⟩
 .intro a d b c k
  have e:=b 1 J;have c:=b 16 J;simp only[rX,ξ] at d e c b k |-;try simp only[b] at k
  obtain⟨P,z,o,w,s,p,x,t,r,y,u,B,G⟩:=c;obtain⟨b,K,v,-⟩:=d.2.2 _ Q.1;obtain⟨U,V,W,X,rfl⟩:=Hz K;obtain⟨b,c,d,e,h⟩:=gZ v;simp only[B] at k;go_simp;have C:=bP v (I z) (.slice o w s) (.slice p x t) (.slice r y u);have D:TQ [(g,288)] a (gN a g (I z) (.slice o w s) (.slice p x t) (.slice r y u)):=TQ.one sI v (bC _ _ _ _ _ _) C Y;exact k undef _ ⟨D,((((iW.set _ J J).trans (iW.set _ J J)).trans (iW.set _ J J)).trans (iW.set _ J J))⟩ ⟨P,z,o,w,s,p,x,t,r,y,u,Y,by have b:=G.tq D sI;rwa[B] at b,C⟩
 intro a D c;have b:=c 19 J J;have c:=c 20 J J;simp only[rX,ξ] at b c;simp only[Act.put,rC];obtain⟨b8,a6,V,b7,a3,U,b4,a2,b6,b3,-,P,G,K,a4,k,a1,W,X,a0⟩:=b;obtain⟨b5,B,r,x,u,s,y,v,t,z,w,b,C,o⟩:=c;rw[b] at C;obtain⟨a5,-,a8,a9⟩:=D.2.1 _ (i.1 _ f);obtain rfl:a5=a4:=by rw[a8] at k;simpa using k
 rw[(PN a9 a1 W X a0)] at k;obtain⟨b,c,d,e,h⟩:=gZ o;go_wp2;have p:TQ [(g,288)] a (gN a g (I B) (.slice r x u) (.slice s y v) (.slice t z w)):=TQ.one sI o (bC _ _ _ _ _ _) (bP o _ _ _ _) Y;exact aO (bO Y _ _ _ g 288 _ (0,0) _ Y (bP o (I B) (.slice r x u) (.slice s y v) (.slice t z w)) Y underlying288 (by rw[(show(prog.info? 288).map (·.size)=S 4 by kernel_rfl)];rfl)) Y ⟨⟨_,Y,b5,B,r,x,u,s,y,v,t,z,w,Y,C.tq p sI⟩,(f.trans D.1 (λ_ _ a=>a.elim) (λc b a=>a.elim (λa=>a) (λa=>absurd b (oB l.2)))).trans (bC _ _ _ _ _ _) (λ_ _ a=>a) (λc a b=>absurd a (oB l.2)),b8,a6,V,b7,a3,U,b4,a2,b6,b3,p.obj k (sU l.1),P,p.sl G iA sI,p.sl K CR.aJ (by simp[fS])⟩
structure LS where
 h:Hs
 fs:L Fc
 wp:L T
 wl:L (L T)
 path:L Mk
 ord:L T
 tree:L Nd
def dB(a:iS)(b:LS):RS:=⟨b.h,a.eY,b.fs,[a.g0,a.g1,a.g2,a.g3],a.sd,a.si,a.wd,a.cut,b.wp,b.wl,b.path,a.l,[a.e0,a.e1,a.e2,a.e3],[a.s0,a.s1,a.s2,a.s3],a.pk,a.sa,a.vu,b.ord,b.tree⟩
structure lv(W:ε)(x:iS)(L:LS):Prop where
 hh:eJ W (.agg #[.slice x.ah x.hN x.ch]) L.h
 fs:Sl 276 7 CF W (.slice x.af x.fn x.cf) L.fs
 wp:Sl 3 1 CI W (.slice x.ap x.pn x.cp) L.wp
 wl:Sl 30 1 CR W (.slice x.al x.ln x.cl) L.wl
 pa:Sl 279 5 MC W (.slice x.am x.mn x.cm) L.path
 od:Sl 3 1 CI W (.slice x.ao x.on x.co) L.ord
 tr:Sl 146 4 NC W (.slice x.at_ x.tn x.ct) L.tree
theorem lv.fr{c:LS}(b:lv W x3 c)(a:Fr j W V):lv V x3 c:=⟨b.hh.fr a,b.fs.f a,b.wp.f a,b.wl.f a,b.pa.f a,b.od.f a,b.tr.f a⟩
theorem lv.own{d:LS}{q:E}{e:θ ζ}(c:lv W x3 d)(a:bT q W V)(b:aY W q e 66):lv V x3 d:=
 ⟨c.hh.aJ a (λh g f e d=>e.ne ⟨_,_,d▸b⟩ (by rcases f with rfl|rfl|rfl<;>decide) Y),c.fs.past CF.aJ a b J (by unfold fS;decide),c.wp.past iA a b J id,c.wl.past CR.aJ a b J (by unfold fS;decide),c.pa.past MC.aJ a b J (by unfold AF;decide),c.od.past iA a b J id,c.tr.past NC.aJ a b J (by unfold fS;decide)⟩
def StO(o h:E)(f:iS)(c:LS)(g:E)(n:ε)(m:Ending)(b:ε):Prop:=
 ∃a k l i e d,m=.returned (yL a.said k l i)/\oD c.h f.eY (100000*h+100) a/\Sl 3 1 CI b k a.ord/\Sl 146 4 NC b l a.tree/\Sl 276 7 CF b i a.fs/\bT g n b/\aY b g (ei e) 66/\lv b e d/\
  vg c.h f.eY (h+1) (dB e d)/\e.si<1000000000/\(o=3->iy c.h f.eY c.fs c.path d.path a.said a.ord a.tree/\a.fs=[]/\dB e d={dB f c with path:=d.path})
theorem BO.up{b:Hs}(a:BO b m m1):BO b (m+1) m1:=⟨oB a.sz,a.cy,a.Vs⟩
theorem GY(hw:m<4)(A:q=133+m)(d:iS)(a:LS)(k f:E)(g:ε)(l:Gl g)(h:aY g k (ei d) 66)(e:lv g d a)(c:vg a.h d.eY f (dB d a))(n:d.si<1000000000)(a2:f<=1000000):
  aQ q #[aP k 0] g (StO m f d a k g):=by
 have B:a.fs.length<=40000*f:=c.fs.len;rcases(show m=0\/m=1\/m=2\/m=3 by omega) with rfl|rfl|rfl|rfl<;>subst A
 .refine(Cr a.h d k g l h e.hh).mono ?_
  rintro b w ⟨⟨A,rfl,r,Q,x,G,C,y,K,D,z,P,F,rfl,u,v,t,b,s,i,o,p⟩,q⟩;rw[b];exact⟨r,u,v,t,d,a,Y,s.mono O,i,o,p,q.mono (by simp[j]),q.hs h,e.fr q,c.mono O,n,O⟩
 .refine(UH a.h d k a.fs g l h e.hh e.fs (by unfold fV;omega) n).mono ?_
  rintro o A ⟨⟨P,rfl,x,a0,F,V,Q,G,W,R,K,X,U,rfl,C,D,z,o,y,t,u,v⟩,q,r,s,p,w⟩;rw[o];have i:=e.own q h;have b:=c.mono (show f<=f+1 by omega);exact⟨x,C,D,z,{d with sd:=r,si:=s},a,Y,y.mono O,t,u,v,q,p,⟨i.1,i.2,i.3,i.4,i.5,i.6,i.7⟩,⟨⟨Y,Y,Y⟩,b.2,b.3,b.4,⟨b.wd.1,b.wd.2,b.wd.3,b.wd.4⟩,b.6,⟨b.pu.1,b.pu.2,b.pu.3⟩,b.8,b.9,b.10,b.11,b.12,b.13⟩,w,O⟩
 .refine(Hu a.h d k a.wp a.wl g l h e.hh e.wp e.wl ⟨c.wd.1,c.wd.2,c.wd.3,c.wd.4⟩).mono ?_
  rintro p A ⟨⟨a2,rfl,G,a9,X,a6,a3,a0,a7,a4,a1,a8,a5,rfl,U,V,R,p,K,x,y,z⟩,q,W,w,t,Q,v,s,F,u,P,left,r,o,C,D⟩;rw[p];have i:=e.own q h;have b:=c.mono (show f<=f+1 by omega);exact⟨G,U,V,R,{d with wd:=W,cut:=w,ap:=t,pn:=Q,cp:=v,al:=s,ln:=F,cl:=u},{a with wp:=P,wl:=left},Y,K.mono O,x,y,z,q,r,⟨i.1,i.2,C,D,i.5,i.6,i.7⟩,⟨⟨Y,Y,Y⟩,b.2,b.3,b.4,⟨o.1,o.2.1,o.2.2.1,o.2.2.2⟩,b.6,⟨b.pu.1,b.pu.2,b.pu.3⟩,b.8,b.9,b.10,b.11,b.12,b.13⟩,n,O⟩
 refine(Cv a.h d k a.fs a.path g l h e.hh e.fs (by unfold fV;omega) e.pa (by have:oY a.path<=f:=c.pa.sz;omega) c.pa.cy (λg b=>Av (Es c.fs).1 (c.pa.Vs g b))).mono ?_;rintro k g ⟨p,F,z,G,K,P,s,y,t,rfl,o,w,r,x,u,v,q⟩;have i:=e.own q h;have b:=c.mono (show f<=f+1 by omega);obtain⟨C,D⟩:=Rj o c.pa B w;exact⟨⟨F,z,G,[]⟩,K,P,aV,{d with am:=s,mn:=y,cm:=t},{a with path:=p},Y,D,u,v,dJ,q,r,⟨i.1,i.2,i.3,i.4,x,i.6,i.7⟩,⟨⟨Y,Y,Y⟩,b.2,b.3,b.4,⟨b.wd.1,b.wd.2,b.wd.3,b.wd.4⟩,C,⟨b.pu.1,b.pu.2,b.pu.3⟩,b.8,b.9,b.10,b.11,b.12,b.13⟩,n,λ_=>⟨o,Y,Y⟩⟩
structure SP(w0 w:ε)(q b1 b2 b3:E)(R:L T)(cs:θ ζ)(G:ε->Prop)(W:ε):Prop where
 rq:RQ w0 q R W
 p:aY W b1 #[aP q 0] 211
 z:aY W b2 Vv 66
 s:aY W b3 cs 66
 hs:cs.size=28
 fr:Rr q w W
 lo:w0.heap.size<=w.heap.size/\w.heap.size<=b2/\w.heap.size<=b3/\b1≠q/\b2≠q/\b3≠q/\b2≠b3
 g:∀W',Fr (λk=>k=q\/k=b3) W W'->G W'
section
variable {w0 w W W':ε} {q b1 b2 b3:E} {R R':L T} {cs:θ ζ} {G:ε->Prop}
theorem SP.rr(a:SP w0 w q b1 b2 b3 R cs G W)(b:Rr q W W')(c:RQ w0 q R' W'):SP w0 w q b1 b2 b3 R' cs G W':=
 ⟨c,b.obj a.p a.lo.2.2.2.1,b.obj a.z a.lo.2.2.2.2.1,b.obj a.s a.lo.2.2.2.2.2.1,a.hs,a.fr.trans b,a.lo,λc d=>a.g c (Fr.trans b d (λ_ _ a=>.inl a) (λ_ _ a=>a))⟩
theorem SP.eA(a:SP w0 w q b1 b2 b3 R cs G W)(b:Fr (λc=>c=q\/c=b3) W W')(e:RQ w0 q R' W'){c:θ ζ}(f:aY W' b3 c 66)(g:c.size=28):SP w0 w q b1 b2 b3 R' c G W':=
 ⟨e,b.aB a.p (λc=>c.elim a.lo.2.2.2.1 (λc=>fE.ne ⟨_,_,a.p⟩ ⟨_,_,a.s⟩ J c)),b.aB a.z (λc=>c.elim a.lo.2.2.2.2.1 a.lo.2.2.2.2.2.2),f,g,Fr.trans a.fr b (λ_ _ c=>c) (λf e c=>c.elim id (λd=>by subst d;have:=a.lo.2.2.1;omega)),a.lo,λc d=>a.g c (b.tr d)⟩
theorem SP.set(a:SP w0 w q b1 b2 b3 R cs G W)(i:E)(b:ζ)(e:i<28):(∃u,W.cell? (H b3 i)=S u)/\W.frozen? (H b3 i)=δ/\SP w0 w q b1 b2 b3 R (cs.setIfInBounds i b) G (W.setCell (H b3 i) b):=by
 have c:bT b3 W (W.setCell (H b3 i) b):=rF.aK _ _;exact⟨⟨_,(aj a.s i).trans (ju (by rw[a.hs];exact e))⟩,aG a.s i,a.eA (c.mono (λ_ _ x=>.inr x)) (a.rq.keep c (λk d=>by subst d;exact⟨bX a.lo.1 a.lo.2.2.1,a.lo.2.2.2.2.2.1⟩)) (aD a.s i b) (by rw[θ.size_setIfInBounds];exact a.hs)⟩
theorem SP.add{a:Type}{b f:E}{c:ε->L ζ->a->Prop}{d:TypeId->Prop}{g:ζ}{e:L a}(a:SP w0 w q b1 b2 b3 R cs G W)(n:Sl b f c W g e)(m:dU d c)(h:b≠213)(i:b≠66)(k:¬d 213)(l:¬d 66):SP w0 w q b1 b2 b3 R cs (λW=>G W/\Sl b f c W g e) W:=
 ⟨a.rq,a.p,a.z,a.s,a.hs,a.fr,a.lo,λW' b=>⟨a.g W' b,n.aJ m b (λf e c b d=>d.elim (λd=>b.ne a.rq.uQ (c.elim (λe=>e▸h) (λf e=>k (e▸f))) d) (λd=>b.ne ⟨_,_,a.s⟩ (c.elim (λa=>a▸i) (λb a=>l (a▸b))) d))⟩⟩
end
structure RB(s:RS):Prop where
 h:s.h.length<1000000000000/\∀t∈s.h,t.w.length<1000000000000/\t.r.length<1000000000000
 fs:s.fs.length<1000000000000/\∀f∈s.fs,f.cy.length<1000000000000
 wp:s.wp.length<1000000000000
 wl:s.wl.length<1000000000000/\∀l∈s.wl,l.length<1000000000000
 pa:s.path.length<1000000000000/\∀m∈s.path,m.dn.length<1000000000000/\∀y∈m.dn,y.cy.length<1000000000000
 od:s.ord.length<1000000000000
 tr:s.tree.length<1000000000000/\∀y∈s.tree,y.cy.length<1000000000000
def SR(g f:ε)(q:E)(e:RS)(d:Ending)(a:ε):Prop:=∃b c,d=.returned (.agg (ei b))/\dB b c=e/\lv a b c/\RQ g q [] a/\Rr q f a
theorem Mu{q:E}(f:Hs)(x:T)(e:L Fc)(s t u v:κ)(A B C:T)(m:κ)(k:L T)(d:L (L T))(h:L Mk)(w n o p r s0 s1 s2 s3 y z l:T)(g:L T)(i:L Nd)
  (b:RQ W q (zP ⟨f,x,e,[s,t,u,v],A,B,C,m,k,d,h,w,[n,o,p,r],[s0,s1,s2,s3],y,z,l,g,i⟩) V)(a:RB ⟨f,x,e,[s,t,u,v],A,B,C,m,k,d,h,w,[n,o,p,r],[s0,s1,s2,s3],y,z,l,g,i⟩):
  aQ 79 #[aP q 0] V (SR W V q ⟨f,x,e,[s,t,u,v],A,B,C,m,k,d,h,w,[n,o,p,r],[s0,s1,s2,s3],y,z,l,g,i⟩):=by
 have a1:RQ W q (eL Cc f++(x::(eL Gb e++(eB s++(eB t++(eB u++(eB v++(A::B::C::(eB m++(fh k++(eL fh d++(eL Hl h++(w::n::o::p::r::s0::s1::s2::s3::y::z::l::(fh g++(mJ i++[]))))))))))))))) V:=(by simpa[zP,eHs] using b);have HI:=Z gy;clear b
 delta aQ;go_in
 go_upto_region 1 with fail;refine cT (λl9 b=> ?_);obtain⟨R,c⟩:=M V.heap.size;obtain⟨F,G⟩:=M (R+1);rw[<-c,<-G];have c8:=uV b c;have f8:(aY l9 F Vv 66):=(by rw[b];exact bM sO);have a0:=lq b;have D:(V.heap.size<=F/\R≠q/\F≠q/\W.heap.size<=V.heap.size):=(gX a1.lt a1.fr.size);have l9:=bx c8.1;clear b c G;go_wp2_with fail;refine sg (UI (a1.j a0) a.h.1 a.h.2) ?_;rintro a1 m1 ⟨l9,rfl,e9,e8,U⟩;obtain⟨d4,e1,e0,-,-,rfl,-,-,-⟩:=DI e9;obtain⟨c7,b⟩:=M m1.heap.size;go_wp2_with (refine aU Y 66 (.tmp 3) (.tmp 9) Y Y Y (bM Y) Y HI.1 oC ?_;intro m0 X G;refine stop ?_);rw[<-b] at X G |-;refine aZ.go ?_;have K:=cZ.keep G (λP c=>by subst c;omega);have f5:=U.obj f8 D.2.2.1;have f7:SP W V q R F c7 _ (Vv.setIfInBounds 0 (.slice d4 e1 e0)) (λ_=>True) m0:=⟨e8.j K,K.hs (U.obj c8.1 D.2.1),K.hs f5,X,Y,((Rr.of a0).trans U).trans (Rr.of K),⟨D.2.2.2,D.1,gX U.size a0.size,D.2.1,D.2.2.1,oB e8.lt,oB (ba f5)⟩,λ_ _=>trivial⟩;have a2:=(f7.add (e9.f K) CT.aJ J J (by unfold JQ;decide) (by unfold JQ;decide));clear b;have D:=aj a2.p 0;go_wp2_with fail;refine sg (cR a2.rq) ?_;rintro D K ⟨rfl,j3,g2⟩;have D:=a2.rr g2 j3;obtain⟨⟨U,K⟩,a0,D⟩:=D.set 1 (I x) J;have a3:=D;have D:=aj a3.p 0;go_wp2_with fail;refine sg (Ly a3.rq a.fs.1 a.fs.2) ?_;rintro D U ⟨K,rfl,f0,j4,g3⟩;obtain⟨c9,e2,d5,-,-,rfl,-,-,-⟩:=DI f0;have D:=a3.rr g3 j4;have D:=D.add f0 CF.aJ J J (by unfold fS;decide) (by unfold fS;decide);obtain⟨⟨U,K⟩,a0,D⟩:=D.set 2 (.slice c9 e2 d5) J;have b3:=D;go_wp2_with fail;refine eE 5 ?_;have D:=aj b3.p 0;rw[bN];go_wp2_with fail;refine sg (kK b3.rq) ?_;rintro D K ⟨rfl,j5,g4⟩;have D:=b3.rr g4 j5;obtain⟨⟨U,K⟩,a0,D⟩:=D.set 3 (.bool s) J;have c0:=D;have D:=aj c0.p 0;go_wp2_with fail;rw[bN];go_wp2_with fail;refine sg (kK c0.rq) ?_;rintro D K ⟨rfl,j6,g5⟩;have D:=c0.rr g5 j6;obtain⟨⟨U,K⟩,a0,D⟩:=D.set 4 (.bool t) J;have c1:=D;have D:=aj c1.p 0;go_wp2_with fail;rw[bN];go_wp2_with fail;refine sg (kK c1.rq) ?_;rintro D K ⟨rfl,j7,g6⟩;have D:=c1.rr g6 j7;obtain⟨⟨U,K⟩,a0,D⟩:=D.set 5 (.bool u) J;have c2:=D;have D:=aj c2.p 0;go_wp2_with fail;rw[bN];go_wp2_with fail;refine sg (kK c2.rq) ?_;rintro D K ⟨rfl,j8,g7⟩;have D:=c2.rr g7 j8;obtain⟨⟨U,K⟩,a0,D⟩:=D.set 6 (.bool v) J;have c3:=D;have D:=aj c3.p 0;go_wp2_with fail;rw[bN];go_wp2_with fail;refine sg (cR c3.rq) ?_;rintro D K ⟨rfl,j9,g8⟩;have D:=c3.rr g8 j9;obtain⟨⟨U,K⟩,a0,D⟩:=D.set 7 (I A) J;have c4:=D;have D:=aj c4.p 0;go_wp2_with fail;refine sg (cR c4.rq) ?_;rintro D K ⟨rfl,k0,g9⟩;have D:=c4.rr g9 k0;obtain⟨⟨U,K⟩,a0,D⟩:=D.set 8 (I B) J;have c5:=D;have D:=aj c5.p 0;go_wp2_with fail;refine sg (cR c5.rq) ?_;rintro D K ⟨rfl,k1,h0⟩;have D:=c5.rr h0 k1;obtain⟨⟨U,K⟩,a0,D⟩:=D.set 9 (I C) J;have c6:=D;have D:=aj c6.p 0;go_wp2_with fail;refine sg (kK c6.rq) ?_;rintro D K ⟨rfl,k2,h1⟩;have D:=c6.rr h1 k2;obtain⟨⟨U,K⟩,a0,D⟩:=D.set 10 (.bool m) J;have a4:=D;have D:=aj a4.p 0;go_wp2_with fail;refine sg (pV a4.rq a.wp) ?_;rintro D U ⟨K,rfl,f1,k3,h2⟩;obtain⟨d0,e3,d6,-,-,rfl,-,-,-⟩:=DI f1;have D:=a4.rr h2 k3;have D:=D.add f1 da J J id id;obtain⟨⟨U,K⟩,a0,D⟩:=D.set 11 (.slice d0 e3 d6) J;have b:=D;have D:=aj b.p 0;go_wp2_with fail;refine sg (nD KR (λc=>by simp[fh]) (RJ.start (te:=30) (n:=1) (tb:=66) (ci:=12) (C:=CR) b.rq rF b.p b.s sI b.lo.2.2.2.1 b.lo.2.2.2.2.2.1 (bX b.lo.1 b.lo.2.2.1)) (λc V=>by simp[go_sem]) (λP Q done a1 U a0 K c D=>MO b.hs D (E.lt_trans c a.wl.1) (a.wl.2 P K))) ?_;rintro D K ⟨rfl,m3,m2,P⟩;have l8:=b.eA P.fr P.rq P.box (by rw[θ.size_setIfInBounds];exact b.hs);obtain⟨f9,g0,rfl⟩:=P.shape (m:=d.length) Y;have a5:=(l8.add P.own.read CR.aJ J J (by unfold fS;decide) (by unfold fS;decide));have b:=aj a5.p 0;go_wp2_with fail;refine sg (Vb a5.rq a.pa.1 a.pa.2) ?_;rintro b K ⟨D,rfl,f2,k4,h3⟩;obtain⟨d1,e4,d7,-,-,rfl,-,-,-⟩:=DI f2;have b:=a5.rr h3 k4;have b:=b.add f2 MC.aJ J J (by unfold AF;decide) (by unfold AF;decide);obtain⟨⟨K,D⟩,P,b⟩:=b.set 13 (.slice d1 e4 d7) J;have a6:=b;have b:=aj a6.p 0;go_wp2_with fail;refine sg (cR a6.rq) ?_;rintro b D ⟨rfl,k5,h4⟩;have b:=a6.rr h4 k5;obtain⟨⟨K,D⟩,P,b⟩:=b.set 14 (I w) J;have a7:=b;go_wp2_with fail;refine eE 5 ?_;have b:=aj a7.p 0;rw[bN];go_wp2_with fail;refine sg (cR a7.rq) ?_;rintro b D ⟨rfl,k6,h5⟩;have b:=a7.rr h5 k6;obtain⟨⟨K,D⟩,P,b⟩:=b.set 15 (I n) J;have a8:=b;have b:=aj a8.p 0;go_wp2_with fail;rw[bN];go_wp2_with fail;refine sg (cR a8.rq) ?_;rintro b D ⟨rfl,k7,h6⟩;have b:=a8.rr h6 k7;obtain⟨⟨K,D⟩,P,b⟩:=b.set 16 (I o) J;have a9:=b;have b:=aj a9.p 0;go_wp2_with fail;rw[bN];go_wp2_with fail;refine sg (cR a9.rq) ?_;rintro b D ⟨rfl,k8,h7⟩;have b:=a9.rr h7 k8;obtain⟨⟨K,D⟩,P,b⟩:=b.set 17 (I p) J;have b0:=b;have b:=aj b0.p 0;go_wp2_with fail;rw[bN];go_wp2_with fail;refine sg (cR b0.rq) ?_;rintro b D ⟨rfl,k9,h8⟩;have b:=b0.rr h8 k9;obtain⟨⟨K,D⟩,P,b⟩:=b.set 18 (I r) J;have b1:=b;go_wp2_with fail;rw[bN];go_wp2_with fail;refine eE 5 ?_;have b:=aj b1.p 0;rw[bN];go_wp2_with fail;refine sg (cR b1.rq) ?_;rintro b D ⟨rfl,l0,h9⟩;have b:=b1.rr h9 l0;obtain⟨⟨K,D⟩,P,b⟩:=b.set 19 (I s0) J;have b2:=b;have b:=aj b2.p 0;go_wp2_with fail;rw[bN];go_wp2_with fail;refine sg (cR b2.rq) ?_;rintro b D ⟨rfl,l1,i0⟩;have b:=b2.rr i0 l1;obtain⟨⟨K,D⟩,P,b⟩:=b.set 20 (I s1) J;have b4:=b;have b:=aj b4.p 0;go_wp2_with fail;rw[bN];go_wp2_with fail;refine sg (cR b4.rq) ?_;rintro b D ⟨rfl,l2,i1⟩;have b:=b4.rr i1 l2;obtain⟨⟨K,D⟩,P,b⟩:=b.set 21 (I s2) J;have b5:=b;have b:=aj b5.p 0;go_wp2_with fail;rw[bN];go_wp2_with fail;refine sg (cR b5.rq) ?_;rintro b D ⟨rfl,l3,i2⟩;have b:=b5.rr i2 l3;obtain⟨⟨K,D⟩,P,b⟩:=b.set 22 (I s3) J;have b6:=b;have b:=aj b6.p 0;go_wp2_with fail;rw[bN];go_wp2_with fail;refine sg (cR b6.rq) ?_;rintro b D ⟨rfl,l4,i3⟩;have b:=b6.rr i3 l4;obtain⟨⟨K,D⟩,P,b⟩:=b.set 23 (I y) J;have b7:=b;have b:=aj b7.p 0;go_wp2_with fail;refine sg (cR b7.rq) ?_;rintro b D ⟨rfl,l5,i4⟩;have b:=b7.rr i4 l5;obtain⟨⟨K,D⟩,P,b⟩:=b.set 24 (I z) J;have b8:=b;have b:=aj b8.p 0;go_wp2_with fail;refine sg (cR b8.rq) ?_;rintro b D ⟨rfl,l6,i5⟩;have b:=b8.rr i5 l6;obtain⟨⟨K,D⟩,P,b⟩:=b.set 25 (I l) J;have b9:=b;have b:=aj b9.p 0;go_wp2_with fail;refine sg (pV b9.rq a.od) ?_;rintro b K ⟨D,rfl,f3,l7,i6⟩;obtain⟨d2,e5,d8,-,-,rfl,-,-,-⟩:=DI f3;have b:=b9.rr i6 l7;have b:=b.add f3 da J J id id;obtain⟨⟨K,D⟩,P,b⟩:=b.set 26 (.slice d2 e5 d8) J;have c:=b;have b:=aj c.p 0;go_wp2_with fail;refine sg (Fg c.rq a.tr.1 a.tr.2) ?_;rintro a D ⟨b,rfl,f4,e7,Q⟩;obtain⟨d3,e6,d9,-,-,rfl,-,-,-⟩:=DI f4;have a:=c.rr Q e7;have a:=a.add f4 NC.aJ J J (by unfold fS;decide) (by unfold fS;decide);obtain⟨⟨a,K⟩,P,D⟩:=a.set 27 (.slice d3 e6 d9) J;clear c e7 Q;go_upto_region 32 with fail;refine cT (λa b=> ?_);have c:SP W V q R F c7 [] _ _ a:=(by rw[b];exact D);clear b K P D;obtain⟨Q,b⟩:=M (⟨d4,c9,d0,f9,d1,d2,d3,e1,e0,e2,d5,e3,d6,d.length,g0,e4,d7,e5,d8,e6,d9,x,A,B,C,w,n,o,p,r,s0,s1,s2,s3,y,z,l,s,t,u,v,m⟩:iS);have D:N (aY a c7 (ei Q) 66):=Z (by have D:=c.s;simp only[rC] at D;rw[b];exact D);go_wp2_with (first|(refine bU Y 66 (.tmp 3) Y Y D.1 underlying66 Y HI.1 ?_)|(refine aU Y 66 (.tmp 2) (.tmp 90) Y Y Y c.z Y HI.1 (kj Q) ?_;intro D X G));have f6:dB Q ⟨f,e,k,d,h,g,i⟩=⟨f,x,e,[s,t,u,v],A,B,C,m,k,d,h,w,[n,o,p,r],[s0,s1,s2,s3],y,z,l,g,i⟩:=by rw[b,dB]
 have e7:lv a Q ⟨f,e,k,d,h,g,i⟩:=by
  have a:=c.g a rF;simp only[ll] at a;obtain⟨⟨⟨⟨⟨⟨g1,i7⟩,i8⟩,i9⟩,j0⟩,j1⟩,j2⟩:=a;rw[b];exact⟨⟨_,Y,g1⟩,i7,i8,i9,j0,j1,j2⟩
 refine aO (gp Y _ _ F 66 _ (0,0) _ Y X underlying66 Y HI.1) Y ⟨Q,⟨f,e,k,d,h,g,i⟩,Y,f6,e7.own G c.z,?_,?_⟩
 .exact c.rq.keep G (λa g1=>by subst g1;exact⟨bX c.lo.1 c.lo.2.1,c.lo.2.2.2.2.1⟩)
 exact Fr.trans c.fr G (λ_ _ a=>a) (λb a g1=>by subst g1;have:=c.lo.2.1;omega)
structure StB(L:LS):Prop where
 hs:L.h.length<=1000000
 fs:L.fs.length<=fV
 wp:L.wp.length<=1000
 wl:L.wl.length<=1000
 wr:∀l∈L.wl,l.length<=1000
 pa:L.path.length<=fV
 dn:∀m∈L.path,m.dn.length<=500000000000
 iv:∀m∈L.path,qZ m.c
 od:L.ord.length<=1000000000000
 tr:L.tree.length<=fV
 cy:Su L.tree
def VI(a:E)(b:L T):κ:=(L.range a).all (λc=>b.contains (c:T))&&decide (b.length=a)
theorem PU{a:E->κ}:(L.range (m+1)).all a=((L.range m).all a&&a m):=by rw[nE,lZ];simp
theorem xK(a:iS)(c:L T)(d:ε)(f:Sl 3 1 CI d (.slice a.ao a.on a.co) c)(n:a.hN<=maxLen):aQ 172 #[.agg (ei a)] d (BR (VI a.hN c) d):=by
 have l:N (a.on=c.length):=Z (by obtain⟨e,g,b,-⟩:=f.slice;simp only[cM] at b;exact b.2.1);have o:a.on<=maxLen:=by obtain⟨e,g,b,h,i⟩:=f.slice;simp only[cM] at b;omega
 unfold maxLen at n o
 delta aQ;go_in
 go_upto_region 1 with fail;refine cT (λn g=> ?_);obtain⟨d,b⟩:=M d.heap.size;rw[<-b];have e:=cY g;have d:=dL g b;have m:=(f.f e);clear g b;have f:=bx d.1;have d:=Ot d.1;go_wp2_with fail;go_loopg [8] a.hN (λgk s8 wr=>∃b:E,b+gk=a.hN/\s8=I b/\(L.range b).all (λb=>c.contains (b:T))=γ/\wr=n)
 .exact⟨0,du,Y,Y,Y⟩
 case round=>
  obtain⟨b,k,rfl,h,rfl⟩:=hrel;have⟨i,g⟩:=bD k h;have d:b<=a.hN:=O;clear k h;by_cases p:b<a.hN
  .go_wp2_with fail
   refine sg (dC _ c b wr m) ?_;rintro d f ⟨rfl,rfl⟩;obtain⟨k,d⟩:=M (c.contains (b:T));rw[<-d];have h:=Z d;clear d;cases k
   .go_wp2
    (go_ret;refine BR.of ?_ e);have:(L.range a.hN).all (λd=>c.contains (d:T))=δ:=by
     exact lG.2 ⟨b,eC.2 p,(by rw[<-h.1];simp)⟩
    unfold VI;rw[this];rfl
   go_wp2;go_roundg (gk-1)
   .exact⟨b+1,oB i.1,by go_num,by rw[PU,g.1,<-h.1];rfl,Y⟩
   have:=i.1;omega
  obtain⟨d,c⟩:=M a.hN;go_wp2;go_ret;refine BR.of ?_ e;obtain rfl:b=a.hN:=O;unfold VI;rw[g.1,<-l.1];by_cases b:a.on=a.hN
  .simp[b]
  have:¬(a.on:T)=(a.hN:T):=O;simp[b,this]
theorem GP(a:iS)(g:LS)(i:ε)(b:lv i a g)(c:StB g):aQ 125 #[.agg (ei a)] i (BA i):=by
 have⟨HM,l,v⟩:=dt b c c.cy;have t:a.hN<=maxLen/\a.on<=maxLen/\a.tn<=maxLen:=by
  obtain⟨m,d,k⟩:=b.hh;obtain⟨k,m,e,n,o⟩:=k.slice;obtain⟨k,m,f,n,o⟩:=b.od.slice;obtain⟨k,m,h,n,o⟩:=b.tr.slice;simp only[ku,kI,iY,gT] at d;subst d;simp only[cM] at e f h;omega
 obtain⟨t,w,x⟩:=t;have m:=Z t;unfold maxLen at t w x;obtain⟨A,d⟩:=M (VI a.hN g.ord);have n:=Z d;clear b c d
 delta aQ;go_in
 go_upto_region 1 with fail;refine cT (λf h=> ?_);obtain⟨e,c⟩:=M i.heap.size;rw[<-c];have b:=fa1 h;have d:=yY h c;clear h c;have o:=Sb (d.1 f rF);have p:=ace (d.1 f rF);have r:=Ot (d.1 f rF);have s:=PD (d.1 f rF);by_cases z:0<=a.vu/\a.vu<4
 case neg=>
  rcases(show ¬0<=a.vu\/(0<=a.vu/\¬a.vu<4) by omega) with c|⟨h,c⟩;all_goals
   by_cases s0:a.sa=0
   .go_wp2
    all_goals(go_ret;exact⟨⟨_,Y⟩,b.1⟩)
   by_cases s1:a.sa=1
   .go_wp2
    go_quiet (fail);go_wp2;all_goals(go_ret;exact⟨⟨_,Y⟩,b.1.step (rF.drewN _)⟩)
   by_cases s2:a.sa=2
   .go_wp2
    go_quiet (fail);go_wp2;all_goals(go_ret;exact⟨⟨_,Y⟩,b.1.step (rF.drewN _)⟩)
   go_wp2;all_goals(go_ret;exact⟨⟨_,Y⟩,b.1⟩)
 case pos=>
  obtain⟨i,t⟩:=z;by_cases s0:a.sa=0
  .go_wp2
   all_goals(go_ret;exact⟨⟨_,Y⟩,b.1⟩)
  by_cases s1:a.sa=1
  .by_cases c:a.tn=0
   case neg=>
    have h:((a.tn:T)==0)=δ:=sU c;go_wp2;go_quiet (fail);go_wp2;all_goals(go_ret;exact⟨⟨_,Y⟩,b.1.step (rF.drewN _)⟩)
   case pos=>
    have i:=λh(i:Fr j f h)=>bx (d.1 h i);have i:=λh(i:Fr j f h)=>dh (d.1 h i);have i:=λh(i:Fr j f h)=>Ot (d.1 h i);have i:=λh(i:Fr j f h)=>PD (d.1 h i);have i:((a.tn:T)==0)=γ:=sU c;clear c;go_wp2_with fail;clear o p r s;cases A
    ·
     refine eU [[],[0],[0,1],[0,1,2],[0,1,2,3],[0,1,2,3,4],[0,1,2,3,4,5],[0,1,2,3,4,5,6],[0,1,2,3,4,5,6,7],[0,1,2,3,4,5,6,7,8],[0,1,2,3,4,5,6,7,8,9],[0,1,2,3,4,5,6,7,8,9,10],[0,1,2,3,4,5,6,7,8,9,10,11],[0,1,2,3,4,5,6,7,8,9,10,11,12],[0,1,2,3,4,5,6,7,8,9,10,11],[0,1,2,3,4,5,6,7,8,9,10,11,14],[0,1,2,3,4,5,6,7,8,9,10,11],[0,1,2,3,4,5,6,7,8,9,10,11,16],[0,1,2,3,4,5,6,7,8,9,10,11],[0,1,2,3,4,5,6,7,8,9,10,11,18],[0,1,2,3,4,5,6,7,8,9,10,11,14,15,16,17,18,19],[0,1,2,3,4,5,6,7,8,9,10,11,12,13,14,15,16,17,18,19,20],[0,1,2,3,4,5,6,7,8,9,10,11,12,13,14,15,16,17,18,19,20,21],[0,1,2,3,4,5,6,7,8,9,10,11,12,13,14,15,16,17,18,19,20,21,22]] [.eq 0 (.bool γ),.eq 1 (.bool γ),.eq 2 (aP e 27),.eq 3 (.slice a.at_ a.tn a.ct),.eq 4 (I a.tn),.eq 5 (.bool γ),.eq 6 (.bool γ),.eq 7 (.bool γ),.eq 8 (.agg (ei a)),.eq 9 (.bool δ),.eq 10 (.bool δ),.eq 11 (.bool δ),.eq 12 (undef),.eq 13 (undef),.eq 14 (undef),.eq 15 (undef),.eq 16 (undef),.eq 17 (undef),.eq 18 (undef),.eq 19 (undef),.eq 20 (undef),.eq 21 (undef),.eq 22 (.bool δ),.eq 23 (.bool δ)] [[0],[1],[2],[3],[4],[5],[6],[7],[8],[9],[10],[11],[12],[13],[14],[15],[16],[17],[18],[19],[20],[21],[22],[23]] kR kR Y (λ_ _ _ _ h c=>⟨h.symm.trans c.1,c.2⟩) (λh=> ?_);refine⟨?_,?_,?_,?_,?_,?_,?_,?_,?_,?_,?_,?_,?_,?_,?_,?_,?_,?_,?_,?_,?_,?_,?_,?_,?_⟩;any_goals(first|(intro t u i k c;simp only[rX,ξ] at i c |-;(try simp only[i] at c);go_simp;exact c _ _ rF Y)|fail)
     .intro t u c i k
      have i:=c 6 J;simp only[rX,ξ] at i c k |-;rw[aS (by first|rfl|go_simp)];refine wp_load_row 66 (.tmp 1) fX e fX 66 (ei a) (0,0) _ (d.1 _ u) underlying66 Y gy ?_;exact k _ _ rF Y
     .intro k t i w c
      simp only[rX,ξ] at i c |-;(try simp only[i] at c);go_simp;go_at_call 172;refine(xK a g.ord k (HM.1.fr (b.1.step t)).od m.1).mono ?_;rintro k i ⟨rfl,u⟩;rw[<-n.1];exact c _ _ u Y
     intro c k i;have c:=i 23 J J;simp only[rX,ξ] at c;clear i;simp only[Act.put,rC];obtain⟨i,c⟩:∃i,h 23=.bool i:=⟨_,c⟩;simp only[c];have u:=Z k;clear k;go_wp2;go_ret;exact⟨⟨_,Y⟩,b.1.step u.1⟩
    ·
     refine eU [[],[0],[0,1],[0,1,2],[0,1,2,3],[0,1,2,3,4],[0,1,2,3,4,5],[0,1,2,3,4,5,6],[0,1,2,3,4,5,6,7],[0,1,2,3,4,5,6,7,8],[0,1,2,3,4,5,6,7,8,9],[0,1,2,3,4,5,6,7,8,9,10],[0,1,2,3,4,5,6,7,8,9,10,11],[0,1,2,3,4,5,6,7,8,9,10,11,12],[0,1,2,3,4,5,6,7,8,9,10,11],[0,1,2,3,4,5,6,7,8,9,10,11,14],[0,1,2,3,4,5,6,7,8,9,10,11],[0,1,2,3,4,5,6,7,8,9,10,11,16],[0,1,2,3,4,5,6,7,8,9,10,11],[0,1,2,3,4,5,6,7,8,9,10,11,18],[0,1,2,3,4,5,6,7,8,9,10,11,14,15,16,17,18,19],[0,1,2,3,4,5,6,7,8,9,10,11,12,13,14,15,16,17,18,19,20],[0,1,2,3,4,5,6,7,8,9,10,11,12,13,14,15,16,17,18,19,20,21],[0,1,2,3,4,5,6,7,8,9,10,11,12,13,14,15,16,17,18,19,20,21,22]] [.eq 0 (.bool γ),.eq 1 (.bool γ),.eq 2 (aP e 27),.eq 3 (.slice a.at_ a.tn a.ct),.eq 4 (I a.tn),.eq 5 (.bool γ),.eq 6 (.bool γ),.eq 7 (.bool γ),.eq 8 (.agg (ei a)),.eq 9 (.bool γ),.eq 10 (.bool γ),.eq 11 (.bool γ),.eq 12 (aP e 0),.eq 13 (.agg #[.slice a.ah a.hN a.ch]),.eq 14 (aP e 0),.eq 15 (.agg #[.slice a.ah a.hN a.ch]),.eq 16 (aP e 1),.eq 17 (I a.eY),.eq 18 (aP e 26),.eq 19 (.slice a.ao a.on a.co),⟨.w1 20 (λc i=>Gt i c),λ_ _ _ k i=>k.fr i⟩,⟨.w1 21 (λc _=>∃i,c=.bool i),λ_ _ _ i _=>i⟩,⟨.w1 22 (λc _=>∃i,c=.bool i),λ_ _ _ i _=>i⟩,⟨.w1 23 (λc _=>∃i,c=.bool i),λ_ _ _ i _=>i⟩] [[0],[1],[2],[3],[4],[5],[6],[7],[8],[9],[10],[11],[12],[13],[14],[15],[16],[17],[18],[19],[20],[21],[22],[23]] kR kR Y (λ_ _ _ _ k i=>⟨k.symm.trans i.1,i.2⟩) (λh=> ?_);refine⟨?_,?_,?_,?_,?_,?_,?_,?_,?_,?_,?_,?_,?_,?_,?_,?_,?_,?_,?_,?_,?_,?_,?_,?_,?_⟩;any_goals(first|(intro u w k t i;simp only[rX,ξ] at k i |-;(try simp only[k] at i);go_simp;exact i _ _ rF Y)|fail)
     .intro w u i t k
      have t:=i 6 J;simp only[rX,ξ] at t i k |-;rw[aS (by first|rfl|go_simp)];refine wp_load_row 66 (.tmp 1) fX e fX 66 (ei a) (0,0) _ (d.1 _ u) underlying66 Y gy ?_;exact k _ _ rF Y
     .intro t w i x k
      simp only[rX,ξ] at i k |-;(try simp only[i] at k);go_simp;go_at_call 172;refine(xK a g.ord t (HM.1.fr (b.1.step w)).od m.1).mono ?_;rintro m i ⟨rfl,u⟩;rw[<-n.1];exact k _ _ u Y
     .intro n m i t k
      simp only[rX,ξ] at i k |-;(try simp only[i] at k);go_simp;go_at_call 30;refine(DS g.h a.eY g.ord _ _ n (HM.1.fr (b.1.step m)).hh (HM.1.fr (b.1.step m)).od l.1.od).mono ?_;rintro n i ⟨m,rfl,y,u⟩;exact k _ _ u y
     .intro n w i m k
      have t:=i 2 J;have m:=i 20 J;simp only[rX,ξ] at t m i k |-;(try simp only[i] at k);have i:=m;go_simp;go_at_call 173;refine(xe g.h _ _ n (HM.1.fr (b.1.step w)).hh i).mono ?_;rintro n i ⟨⟨m,rfl⟩,u⟩;exact k _ _ u ⟨_,Y⟩
     .intro n t i m k
      have n:=i 2 J;have m:=i 21 J;simp only[rX,ξ] at n m i k |-;(try simp only[i] at k);obtain⟨m,i⟩:∃i,h 21=.bool i:=m;(try simp only[i] at k);go_simp;exact k _ _ rF ⟨_,Y⟩
     .intro n t i m k
      have n:=i 2 J;have m:=i 22 J;simp only[rX,ξ] at n m i k |-;(try simp only[i] at k);obtain⟨m,i⟩:∃i,h 22=.bool i:=m;(try simp only[i] at k);go_simp;exact k _ _ rF ⟨_,Y⟩
     intro i m k;have i:=k 23 J J;simp only[rX,ξ] at i;clear k;simp only[Act.put,rC];obtain⟨n,i⟩:∃k,h 23=.bool k:=i;simp only[i];have k:=Z m;clear m;go_wp2;go_ret;exact⟨⟨_,Y⟩,b.1.step k.1⟩
  by_cases s2:a.sa=2
  .by_cases k:a.on=0
   case neg=>
    have i:((a.on:T)==0)=δ:=sU k;go_wp2;go_quiet (fail);go_wp2;all_goals(go_ret;exact⟨⟨_,Y⟩,b.1.step (rF.drewN _)⟩)
   case pos=>
    have i:=λi(m:Fr j f i)=>bx (d.1 i m);have i:=λi(m:Fr j f i)=>dh (d.1 i m);have i:=λi(m:Fr j f i)=>Ot (d.1 i m);have d:=λi(m:Fr j f i)=>PD (d.1 i m);have d:((a.on:T)==0)=γ:=sU k;clear k;go_wp2_with fail;clear o p r s;refine eU [[],[0],[0,1],[0,1,2],[0,1,2,3],[0,1,2,3,4],[0,1,2,3,4,5],[0,1,2,3,4,5,6],[0,1,2,3,4,5,6,7],[0,1,2,3,4,5,6,7,8],[0,1,2,3,4,5,6,7],[0,1,2,3,4,5,6,7,10],[0,1,2,3,4,5,6,7],[0,1,2,3,4,5,6,7,12],[0,1,2,3,4,5,6,7,10,11,12,13],[0,1,2,3,4,5,6,7,8,9,10,11,12,13,14],[0,1,2,3,4,5,6,7,8,9,10,11,12,13,14,15],[0,1,2,3,4,5,6,7,8,9,10,11,12,13,14,15,16]] [.eq 0 (.bool γ),.eq 1 (.bool γ),.eq 2 (aP e 26),.eq 3 (.slice a.ao a.on a.co),.eq 4 (I a.on),.eq 5 (.bool γ),.eq 6 (.bool γ),.eq 7 (.bool γ),.eq 8 (aP e 0),.eq 9 (.agg #[.slice a.ah a.hN a.ch]),.eq 10 (aP e 1),.eq 11 (I a.eY),.eq 12 (aP e 27),.eq 13 (.slice a.at_ a.tn a.ct),⟨.w1 14 (λc d=>Gt d c),λ_ _ _ e d=>e.fr d⟩,⟨.w1 15 (λc _=>∃d,c=.bool d),λ_ _ _ d _=>d⟩,⟨.w1 16 (λc _=>∃d,c=.bool d),λ_ _ _ d _=>d⟩,⟨.w1 17 (λc _=>∃d,c=.bool d),λ_ _ _ c _=>c⟩] [[0],[1],[2],[3],[4],[5],[6],[7],[8],[9],[10],[11],[12],[13],[14],[15],[16],[17]] kR kR Y (λ_ _ _ _ d c=>⟨d.symm.trans c.1,c.2⟩) (λh=> ?_);refine⟨?_,?_,?_,?_,?_,?_,?_,?_,?_,?_,?_,?_,?_,?_,?_,?_,?_,?_,?_⟩;any_goals(first|(intro f i d e c;simp only[rX,ξ] at d c |-;(try simp only[d] at c);go_simp;exact c _ _ rF Y)|fail)
    .intro d e c f k
     simp only[rX,ξ] at c k |-;(try simp only[c] at k);go_simp;go_at_call 31;refine(Kr a.eY g.tree _ d (HM.1.fr (b.1.step e)).tr (by have:=l.1.tr;unfold fV at this;omega) v.1).mono ?_;rintro e a ⟨c,d,rfl,p,o⟩;exact k _ _ o ⟨_,_,_,_,_,[],[],g.tree,Y,dJ,dJ,sI,p,l.1.tr⟩
    .intro d f a c k
     have e:=a 1 J;have c:=a 14 J;simp only[rX,ξ] at e c a k |-;(try simp only[a] at k);have a:=c;go_simp;go_at_call 173;refine(xe g.h _ _ d (HM.1.fr (b.1.step f)).hh a).mono ?_;rintro d a ⟨⟨c,rfl⟩,o⟩;exact k _ _ o ⟨_,Y⟩
    .intro e f a d c
     have e:=a 1 J;have d:=a 15 J;simp only[rX,ξ] at e d a c |-;(try simp only[a] at c);obtain⟨d,a⟩:∃a,h 15=.bool a:=d;(try simp only[a] at c);go_simp;exact c _ _ rF ⟨_,Y⟩
    .intro e f a d c
     have e:=a 1 J;have d:=a 16 J;simp only[rX,ξ] at e d a c |-;(try simp only[a] at c);obtain⟨d,a⟩:∃a,h 16=.bool a:=d;(try simp only[a] at c);go_simp;exact c _ _ rF ⟨_,Y⟩
    intro a d c;have a:=c 17 J J;simp only[rX,ξ] at a;clear c;simp only[Act.put,rC];obtain⟨c,a⟩:∃c,h 17=.bool c:=a;simp only[a];have k:=Z d;clear d;go_wp2;go_ret;exact⟨⟨_,Y⟩,b.1.step k.1⟩
  go_wp2;all_goals(go_ret;exact⟨⟨_,Y⟩,b.1⟩)
theorem Gh(f:o2.guard=η)(a d b:Operand)(k:o2.op=Op.mapUpdate 264 a d b){c:Ch}
  (i:a1.eval a=.map (S m))(n:a1.eval d=iP c)(l:a1.eval b=.bool γ)(d:MX W m K K)(e:qZ c)(h:K.length+1<maxLen)
  (g:∀a,bT m W a->MX a m (K++[c]) (K++[c])->wpList prog o1 Q r1 (a1.put o2.dst undef) a):wpList prog o1 Q (o2::r1) a1 W:=by
 refine wpList_plain f λa b=> ?_;have a:MX W m K (K++[c]):=d.mono (λ_ a=>a) (λ_ a=>L.mem_append_left _ a);obtain⟨d,h,e,o,f⟩:=a.store e sI (sU h);unfold Oper.wp;simp only[execOp,k,i,n,l];simp[h,Result.andThen];exact b _ _ (sU (g d e ((o _ _ sI a).join f)))
structure StC(L:LS):Prop extends StB L where
 tk:∀t∈L.h,t.w.length<=1000/\t.r.length<=1000
 ci:∀c∈fe L.fs,qZ c
theorem uL(a:iS)(b:LS)(Q:ε)(l:lv Q a b)(g:StC b):aQ 81 #[.agg (ei a)] Q (BA Q):=by
 delta aQ;go_in
 go_upto_region 1 with fail;refine cT (λR a9=> ?_);obtain⟨g2,a6⟩:=M Q.heap.size;rw[<-a6];have c:=cY a9;have d:=yY a9 a6;have h:=λf=>aj (d.1 R rF) f;clear a9 a6;have r:=h 0;have C:=h 1;have d6:=h 14;have d7:=h 15;have d8:=h 16;have d9:=h 17;have e0:=h 18;have e1:=h 19;have e2:=h 20;have e3:=h 21;have e4:=h 22;simp only[ei,rE] at r C d6 d7 d8 d9 e0 e1 e2 e3 e4;go_wp2_with fail;refine sg (Cj b.h a.eY a.l a.e0 a.e1 a.e2 a.e3 a.s0 a.s1 a.s2 a.s3 _ R (l.fr c).hh (λf7=>by have:=bK f7;omega) (λ_=>g.tk)) ?_;rintro e g4 ⟨f0,f4⟩;have y:=f0;rcases f4 with⟨rfl,-⟩|⟨⟨g3,rfl,f9⟩,-⟩
 .have e5:=λb4(m:Fr j R b4)=>Wv (d.1 b4 m)
  go_wp2_with (refine aU Y 66 (.tmp 3) (.tmp 16) Y Y Y (bM Y) Y gy oC ?_;intro V f2 a4);go_ret;exact⟨⟨_,Y⟩,((c.step y).alloc _).keep a4 (λf e=>by subst e;have:=c.size;have:=y.size;omega)⟩
 have g0:∃a2 s o,g3=.slice a2 s o:=by
  obtain⟨i9,e,f8⟩:=f9;obtain⟨a2,o,e9,-⟩:=f8.slice;simp only[ku,kI,iY,gT] at e;exact⟨a2,_,o,e.trans e9⟩
 obtain⟨g9,i2,h3,rfl⟩:=g0;go_wp2_with (refine aU Y 66 (.tmp 3) (.tmp 16) Y Y Y (bM Y) Y gy oC ?_;intro V f2 a4;refine stop ?_);have w:=((y.alloc _).keep a4 (λf e=>by subst e;have:=y.size;omega));have b2:=(c.step w);refine aZ.go ?_;obtain⟨i7,b8⟩:=M g4.heap.size;rw[<-b8];clear b8;have e5:=Wv (d.1 V w);have D:=iU (d.1 V w);by_cases i5:a.pk<0
 .go_wp2
  go_ret;exact⟨⟨_,Y⟩,b2⟩
 by_cases i6:2147483647<a.pk
 .go_wp2
  go_ret;exact⟨⟨_,Y⟩,b2⟩
 have h9:=@run_makeMap prog;go_upto_region 5 with fail;refine cT (λU P=> ?_);obtain⟨u,a8⟩:=M V.heap.size;try rw[<-a8]
 have c4:(MX U u [] []):=(by rw[P];exact MX.made a8);have c5:(R.heap.size<=u):=(oB w.size);have c6:N (u<U.heap.size):=Z (by rw[P];simp;omega);have W:=(w.step (cY P));clear P a8;have D:=iU (d.1 U W);go_wp2_with fail;refine sg (eQ b.fs _ U (l.fr (c.step W)).fs g.fs) ?_;rintro e g5 ⟨j0,g7,rfl,F,b6⟩;obtain⟨p,K⟩:=M (fe b.fs);rw[<-K] at F;have c1:(∀o∈p,qZ o):=(by rw[K];exact g.ci);have c0:(p.length<=fV):=(by rw[K];simpa[fe] using g.fs);obtain⟨s,a5⟩:=M p.length;obtain⟨h0,h4,rfl,h5,h6⟩:=F.shape a5.symm;have HN:=Z a5;have c2:=(W.step b6);have b9:(s<=1000000000000):=(by have:=c0;unfold fV at this;omega);have i3:=b9;clear K a5;go_wp2_with fail;go_loopg [7,35] s (λgk s7 s35 wr=>∃f:E,f+gk=s/\s35=I f/\MX wr u (p.take f) (p.take f)/\bT u g5 wr)
 .exact⟨0,du,Y,sU (c4.keep b6),rF⟩
 case round=>
  obtain⟨f,h7,rfl,f6,X⟩:=hrel;have c7:=(F.aJ EN X (λb1 f5 e=>by subst e;have:=(aW F.row f5).1;have:=c6.1;omega) (λ_ _ a=>a.elim));have t:=(c2.keep X (λb1 e=>e▸c5));by_cases h8:f<s
  .obtain⟨o,G⟩:=gE p f fU
   obtain⟨g8,h1,i4,h2,b5,-,-,b7⟩:=c7.read;simp only[cM] at b5;obtain⟨rfl,-,rfl⟩:=b5;obtain rfl:=b7.addr G;obtain⟨c9,d0,d1⟩:=b7.ch G;have a0:=(c1 o (bQ G));have c3:((p.take f).length+1<maxLen):=(by rw[cV];unfold maxLen;omega);obtain⟨B,z,A⟩:=o;have⟨i0,i1⟩:=dy f s;simp only at c9 d0 d1;go_upto_region 8 with fail;refine cT (λj1 b0=> ?_);obtain⟨i8,a7⟩:=M wr.heap.size;(try rw[<-a7]);have a3:=cY b0;have c8:=dL b0 a7;have a1:=(f6.keep a3);clear b0 a7;obtain⟨r,C,D,-⟩:=mD c8.1;obtain⟨n,i⟩:=M ((p.take f).contains (⟨B,z,A⟩:Ch));have b3:=Z i;clear i;cases n with
   |true=>
    go_wp2_with (refine uI Y (.tmp 39) (.tmp 40) Y Y a1 (c:=⟨B,z,A⟩) Y a0 ?_;rw[<-b3.1]);go_ret;exact⟨⟨_,Y⟩,c.step (t.step a3)⟩
   |false=>
    go_wp2_with (first|(refine uI Y (.tmp 39) (.tmp 40) Y Y a1 (c:=⟨B,z,A⟩) Y a0 ?_;rw[<-b3.1])|(refine Gh Y (.tmp 42) (.tmp 43) (.const (.bool γ)) Y Y (c:=⟨B,z,A⟩) Y Y a1 a0 c3 ?_;intro j2 f1 g1;refine stop ?_));refine aZ.go ?_;go_wp2;go_roundg (gk-1)
    .exact⟨f+1,O,by go_num,by rw[(bJ G)];exact g1,((X.step a3).trans f1 (U:=λb1=>b1=u) (λ_ _ a=>a) (λ_ _ a=>a))⟩
    omega
  have r:=aj (d.1 wr t) 0;have e6:=aj (d.1 wr t) 7;have e7:=aj (d.1 wr t) 8;simp only[ei,rE] at r e6 e7;go_wp2_with fail;refine sg (Ce b.h a.sd a.si _ wr (l.fr (c.step t)).hh) ?_;rintro e v ⟨rfl,m⟩;have k:=(t.step m);obtain⟨n,i⟩:=M (Gn b.h a.sd a.si);rw[<-i];clear i;cases n
  .go_wp2
   go_ret;exact⟨⟨_,Y⟩,c.step k⟩
  have r:=aj (d.1 v k) 0;have e8:=aj (d.1 v k) 9;have d2:=aj (d.1 v k) 10;have d3:=aj (d.1 v k) 11;have d4:=aj (d.1 v k) 12;simp only[ei,rE] at r e8 d2 d3 d4;go_wp2_with fail;refine sg (xY b.h a.wd a.cut b.wp b.wl _ _ _ v (l.fr (c.step k)).hh (l.fr (c.step k)).wp (l.fr (c.step k)).wl g.wp g.wl g.wr) ?_;rintro e x ⟨rfl,m⟩;have FB:=(k.step m);obtain⟨n,i⟩:=M (OG b.h a.wd b.wp b.wl);rw[<-i];clear i;cases n
  .go_wp2
   go_ret;exact⟨⟨_,Y⟩,c.step FB⟩
  have r:=aj (d.1 x FB) 0;have C:=aj (d.1 x FB) 1;have D:=aj (d.1 x FB) 2;have d5:=aj (d.1 x FB) 13;simp only[ei,rE] at r C D d5;go_wp2_with fail;refine sg (wT b.h a.eY b.fs b.path _ _ _ x (l.fr (c.step FB)).hh (l.fr (c.step FB)).fs (l.fr (c.step FB)).pa g.fs g.pa g.dn g.iv) ?_;rintro e wc ⟨rfl,m⟩;have FC:=(FB.step m);obtain⟨n,i⟩:=M (iQ b.h a.eY b.fs b.path);rw[<-i];clear i;cases n
  .go_wp2
   go_ret;exact⟨⟨_,Y⟩,c.step FC⟩
  go_wp2_with (first|(go_at_call 125;refine(GP a b wc (l.fr (c.step FC)) g.toStB).mono ?_;rintro e j3 ⟨⟨n,rfl⟩,m⟩)|(refine BigFrame.wpList_want (by first|rfl|go_simp) λg6 f3=>wp_load_row 66 (.tmp 1) Y g2 Y 66 (ei a) (0,0) _ (d.1 wc FC) underlying66 Y gy (f3 _ _ ?_)));go_ret;exact⟨⟨_,Y⟩,c.step (FC.step m)⟩
theorem RH{b:Hs}(d:bm b=γ):∀a∈b,a.w.length<=16/\a.r.length<=16:=λa c=>by
 obtain⟨e,c⟩:=L.mem_iff_getElem?.1 c
 have:=pW d c;simp only[tR,bA] at this;have c:=qd J this.1.1;have a:=nK b e a.r (-1) J this.1.2;omega
theorem uO{e:α->L T}{l:L α}{n:E}(a:∀b∈l,(e b).length<=n):(l.flatMap e).length<=l.length*n:=by
 induction l with
 |nil=>simp
 |cons c l b=>
  have c:=a c (jg ..);have a:=b (λc b=>a c (jh _ b));rw[kX,cA,bW,nC];omega
theorem qT{c:Hs}{a:RS}(b:vg c i1 m a)(c:m<=200000):StC ⟨a.h,a.fs,a.wp,a.wl,a.path,a.ord,a.tree⟩/\RB a/\(zP a).length<10000000000000:=by
 have d:=(Es b.fs).1;have e:=bK d;have f:=RH d;have c:=b.fs.len;have c:=b.pa.sz;have c:=Bu a.path;have e:a.h.length<=32/\∀c∈a.h,c.w.length<=16/\c.r.length<=16:=by rw[b.eh];exact⟨e,f⟩
 have h:∀c∈a.fs,c.cy.length<=71:=b.fs.cy;have f:∀c∈a.path,c.dn.length<=m:=λc c=>by have:=th c;omega
 have i:∀g∈a.path,∀i∈g.dn,i.cy.length<=71:=λi c k g=>b.pa.cy i c k g;have g:∀g∈a.tree,g.cy.length<=71:=b.tcy;have k:=b.tl;have hw:=b.wd;have k:=b.ord;refine⟨⟨⟨by simp only;omega,by simp only;unfold fV;omega,by simp only;have:=hw.wp;omega,by simp only;have:=hw.wl;omega,λl k=>by have:=hw.row l k;omega,by simp only;unfold fV;omega,λk c=>by have:=f k c;omega,λk c=>Av d (b.pa.Vs k c),by simp only;omega,by simp only;unfold fV;omega,λl k=>g l k⟩,λl k=>by have:=e.2 l k;omega,λl n=> ?_⟩,⟨⟨O,λo k=>by have:=e.2 o k;omega⟩,⟨O,λk o=>by have:=h k o;omega⟩,oB hw.wp,⟨oB hw.wl,λo k=>by have:=hw.row o k;omega⟩,⟨O,λk c=>⟨oB (f k c),λp o=>by have:=i k c p o;omega⟩⟩,O,⟨O,λo k=>by have:=g o k;omega⟩⟩,?_⟩
 .exact Av d (vY b.fs.rep l n)
 have k:∀d:Nd,d.cy.length<=71->(Bw d).length<=75:=λk d=>by simp[Bw,yV,fh];omega
 have d:=uO (e:=Cc) (l:=a.h) (n:=60) (λd l=>by
  have:=e.2 d l
  have:=uO (e:=Nh) (l:=d.r) (n:=2) (λd _=>by simp[Nh]);simp only[Cc,fh,eL,bW,cA];omega)
 have d:=uO (e:=Gb) (l:=a.fs) (n:=80) (λd e=>by have:=h d e;simp[Gb,yV,fh];omega);have d:=uO (e:=fh) (l:=a.wl) (n:=50) (λe d=>by have:=hw.row e d;simp[fh];omega);have c:=uO (e:=Hl) (l:=a.path) (n:=20000000) (λd c=>by
  have e:=f d c
  have:=uO (e:=Bw) (l:=d.dn) (n:=75) (λe f=>k e (i d c e f));simp only[Hl,yV,eB,mJ,eL,bW,cA,fq];omega)
 have c:=uO (e:=Bw) (l:=a.tree) (n:=75) (λc d=>k c (g c d));have a:=uO (e:=eB) (l:=a.gone) (n:=1) (λ_ _=>by simp[eB]);have a:=b.fit.gone;have a:=b.fit.each;have a:=b.fit.wK
 have:=hw.wp
 have:=hw.wl;simp only[zP,eHs,eL,fh,eB,mJ,bW,cA,fq];omega
abbrev Pk:Type:=T×T
def rt(a:Pk):κ:=ZT a.1 a.2
def uY:L μ->L Pk
 |a::b::c=>((a.toNat:T),(b.toNat:T))::uY c
 |_=>[]
theorem vK:∀b:L μ,(uY b).length=b.length / 2
 |[]=>rfl
 |[_]=>by simp[uY]
 |a::c::b=>by simp[uY,vK b];omega
def gG(a:L μ):T:=if a.length % 2=1 then 16 else if 4000<a.length then 4 else if(uY a).all rt then 0 else 2
def om(a:L μ):L Pk:=if a.length % 2=1 then[] else if 4000<a.length then[] else if(uY a).all rt then uY a else[]
def pkc(a:Pk):L ζ:=[I a.1,I a.2]
def CPk:ε->L ζ->Pk->Prop:=Pl pkc
instance:SC CPk:=⟨λ_=>False,Pl.aJ _ _⟩
theorem Wj:dU (λ_=>False) CPk:=Pl.aJ pkc _
abbrev RP(b:ε)(a:ζ)(c:L Pk):Prop:=Sl 96 2 CPk b a c
theorem acI:dK prog 89 96 2 16:=dK.of (z:=.agg #[aI,aI]) underlying89 kR Y J
theorem Sa(a:u.length % 2=1):gG u=16:=by simp[gG,a]
theorem TN(a:u.length % 2=1):om u=[]:=by simp[om,a]
theorem NW(a:u.length % 2=0)(b:4000<u.length):gG u=4:=by simp[gG,a,b]
theorem Mo(a:4000<u.length):om u=[]:=by simp[om,a]
theorem Ww(b:u.length % 2=0)(c:¬4000<u.length)(d:E)(a:Pk)(e:(uY u)[d]? =S a)(d:rt a=δ):gG u=2:=by
 have:(uY u).all rt=δ:=lG.2 ⟨a,bQ e,by simp[d]⟩;simp[gG,b,c,this]
theorem VR(b:E)(a:Pk)(c:(uY u)[b]? =S a)(b:rt a=δ):om u=[]:=by
 have:(uY u).all rt=δ:=lG.2 ⟨a,bQ c,by simp[b]⟩;simp[om,this]
theorem Xy(a:u.length % 2=0)(b:¬4000<u.length)(c:(uY u).all rt=γ):gG u=0:=by simp[gG,a,b,c]
theorem Wp(a:u.length % 2=0)(b:¬4000<u.length)(c:(uY u).all rt=γ):om u=uY u:=by simp[om,a,b,c]
theorem Kb:∀(b:L μ)(a:E)(c d:μ),b[2*a]? =S c->b[2*a+1]? =S d->(uY b)[a]? =S ((c.toNat:T),(d.toNat:T))
 |[],c,a,b,h,_=>by simp at h
 |[_],c,a,b,_,h=>by simp at h
 |x::y::r,0,a,b,h1,h2=>by simp at h1 h2;simp[uY,h1,h2]
 |x::y::r,c+1,a,b,h1,h2=>by
  have:=Kb r c a b (by simpa[E.mul_add] using h1) (by simpa[E.mul_add] using h2);simpa[uY] using this
theorem iF(a:ν):a.data.toList.length=a.size:=by cases a;rfl
theorem BL(b:ν)(a:E)(c:a<b.size):b.data.toList[a]? =S b[a]:=by
 rw[cF (by rw[iF];exact c)];rfl
theorem yl(a:ν)(b:E):(a.extract b a.size).data.toList=a.data.toList.drop b:=by
 have:=iF a;simp only[ν.data_extract,θ.toList_extract,L.extract_eq_take_drop];rw[dq sI]
theorem Mn{a:L Pk}{b:Pk}(e:a[m]? =S b)(c:(a.take m).all rt=γ)(d:rt b=γ):(a.take (m+1)).all rt=γ:=by
 rw[bJ e,lZ,c];simp[d]
theorem XW(a:ν)(d:ε)(g:a.size<=maxLen)(f:a.size % 2=1):
  aQ 23 #[.string a] d λe b=>∃c,e=.returned (.tuple #[c,I (gG a.data.toList)])/\RP b c (om a.data.toList)/\Fr j d b:=by
 have b:a.data.toList.length % 2=1:=by rw[iF];exact f
 rw[Sa b,TN b];unfold maxLen at g;have a:((a.size:T) % 2==1)=γ:=sO
 delta aQ;go_in
 go_wp2;go_ret2;exact⟨_,Y,dJ,rF⟩
theorem Pf(a:ν)(d:ε)(h:a.size<=maxLen)(g:a.size % 2=0)(f:4000<a.size):
  aQ 23 #[.string a] d λe b=>∃c,e=.returned (.tuple #[c,I (gG a.data.toList)])/\RP b c (om a.data.toList)/\Fr j d b:=by
 have c:a.data.toList.length % 2=0:=by rw[iF];exact g
 have b:4000<a.data.toList.length:=by rw[iF];exact f
 rw[NW c b,Mo b];unfold maxLen at h;have a:((a.size:T) % 2==1)=δ:=sO
 delta aQ;go_in
 go_wp2;go_ret2;exact⟨_,Y,dJ,rF⟩
theorem UA(f:ν)(l:ε)(z:f.size % 2=0)(z:¬4000<f.size):
  aQ 23 #[.string f] l λc a=>∃b,c=.returned (.tuple #[b,I (gG f.data.toList)])/\RP a b (om f.data.toList)/\Fr j l a:=by
 obtain⟨b,a⟩:=M f.data.toList;rw[<-a];have z:b.length=f.size:=by rw[a,iF]
 have o:b.length % 2=0:=O;have p:¬4000<b.length:=O;obtain⟨g,A⟩:∃c,f.size=2*c:=⟨f.size / 2,O⟩;have HL:=Z a;have u:=(z.trans A);have z:g<=2000:=O;have z:((f.size:T) % 2==1)=δ:=sO;clear a
 delta aQ;go_in
 go_wp2_with fail;go_loopg [0,4] g (λgk s0 s4 wr=>∃(a:E)(c:ν),a+gk=g/\s0=.string c/\c.data.toList=b.drop (2*a)/\((uY b).take a).all rt=γ/\(∃c,cC l.heap.size 96 2 CPk wr s4 ((uY b).take a) c)/\Fr j l wr)
 .exact⟨0,f,du,Y,HL.1.symm,Y,⟨[],qG⟩,rF⟩
 case round=>
  obtain⟨c,a,h,rfl,d,e,⟨B,r⟩,m⟩:=hrel;have w:N (((uY b).take c).length=c):=Z (by have:=u;rw[cV,vK];omega);obtain⟨C,D,rfl,-,-⟩:=r.shape w.1;have⟨HK,t,HT⟩:=dt h e d;have f:c<=g:=O;have v:a.size=b.length-2*c:=by rw[<-iF,d,ik]
  have s:=u;clear h e d;by_cases f:c<g
  .have f:(0:T)<a.size:=O
   have f:(1:T)<a.size:=O;have f:(2:T)<=a.size:=O;have f:0<a.size:=O;have l:1<a.size:=O;have i:=BL a 0 f;have n:=BL a 1 l;obtain⟨f,h⟩:=M (((a[0].toNat:T),(a[1].toNat:T)):Pk);have k:N ((uY b)[c]? =S f):=Z (by
    rw[h];rw[HT.1,qt] at i n;exact Kb b c _ _ (sU i) n)
   obtain⟨d,e⟩:=f;simp only[gW] at h;have f:=h.1.symm;have f:=h.2.symm;have G:a.toList.isEmpty=δ:=by rw[lO];cases x:a.data.toList with
    |nil=>have:=iF a;rw[x] at this;simp at this;omega
    |cons _ _=>rfl
   clear i n h v s;have f:wrap64 d=d:=by
    have:=a[0].toNat_lt;unfold wrap64;omega
   have F:wrap64 e=e:=by
    have:=a[1].toNat_lt;unfold wrap64;omega
   cases h:rt (d,e) with
   |true=>
    have v:=Z h;clear h;go_wp2_with fail;go_region;obtain⟨l,f⟩:=M ((wr.alloc (.cells #[I d,I e] 96)).drew);have i:N (aY l wr.heap.size #[I d,I e] 96):=Z (f▸eR (w:=wr) Y _);have s:Fr j wr l:=(f▸((Fr.refl j wr).alloc _).drew);simp only[<-f];clear f;have x:=bx i.1;have y:=dh i.1;go_wp2_with fail;refine sg (EO d e _) ?_;rintro f l ⟨rfl,n⟩;rw[show ZT d e=γ from v.1];have f:=Z (n.hs i.1);have l:=bx f.1;have f:=dh f.1;have f:=(s.step n);have l:=(m.step f);clear n x y i s;go_wp2_with (at_builtin;refine stop ?_);refine aZ.go (bH Y (.tmp 29) (.tmp 31) Y acI c w.1 Y ((r.f f).f cZ) Wj id ((d,e):Pk) Y Y ?p3 (λ_ _=>Y) O mL (by have:=l.size;simp;omega) ?p7)
    case p3=>exact eF.block (cs:=#[I d,I e]) (bM Y) oC
    case p7=>
     intro s u w i f _ _;rw[<-bJ k.1] at i;have n:=((l.alloc _).keep f.1 (λs l=>f.2 s l));clear f;go_wp2;go_roundg (gk-1)
     .exact⟨c+1,a.extract 2 a.size,oB HK.1,Y,by rw[yl,HT.1,L.drop_drop];congr 1,Mn k.1 t.1 v.1,⟨_,i⟩,n⟩
     have:=HK.1;omega
   |false=>
    go_wp2_with fail;go_region;obtain⟨l,f⟩:=M ((wr.alloc (.cells #[I d,I e] 96)).drew);have i:(aY l wr.heap.size #[I d,I e] 96):=(f▸eR (w:=wr) Y _);have n:Fr j wr l:=(f▸((Fr.refl j wr).alloc _).drew);simp only[<-f];clear f;have f:=bx i;have f:=dh i;go_wp2_with fail;refine sg (EO d e _) ?_;rintro f i ⟨rfl,s⟩;rw[show ZT d e=δ from h];go_wp2;go_ret2;rw[(Ww o p c _ k.1 h),(VR c _ k.1 h)];exact⟨_,Y,dJ,(m.step (n.step s))⟩
  have f:c=g:=O;have f:(uY b).length=g:=by rw[vK];omega
  have e:((uY b).take c=uY b):=(dq O);have d:((uY b).all rt=γ):=(by have:=t.1;rwa[e] at this);have b:a.size=0:=O;have i:a.toList.isEmpty=γ:=by
   rw[lO];cases h:a.data.toList with
   |nil=>rfl
   |cons _ _=>have:=iF a;rw[h] at this;simp at this;omega
  go_wp2;go_ret2;rw[(Xy o p d),(Wp o p d)];exact⟨_,Y,(by have:=r;rw[e] at this;exact this.read),m⟩
theorem Am(a:ν)(b:ε)(d:a.size<=maxLen):
  aQ 23 #[.string a] b λf c=>∃e,f=.returned (.tuple #[e,I (gG a.data.toList)])/\RP c e (om a.data.toList)/\Fr j b c:=by
 by_cases c:a.size % 2=1
 .exact XW a b d c
 by_cases c:4000<a.size
 .exact Pf a b d O c
 exact UA a b O c
namespace Pak
def YA(a:μ):κ:=decide (128<=a.toNat)
theorem sQ{a:μ}:YA a=γ↔128<=a.toNat:=by simp[YA]
def jL(a:E):L μ:=
 if b:a<128 then[μ.ofNat a] else μ.ofNat (128+a % 128)::jL (a / 128)
termination_by a
decreasing_by omega
theorem jB(a:m<128):jL m=[μ.ofNat m]:=by rw[jL,dif_pos a]
theorem oS(a:¬m<128):jL m=μ.ofNat (128+m % 128)::jL (m / 128):=by rw[jL,dif_neg a]
theorem CZ:∀(a b:E),b<128 ^ (a+1)->(jL b).length<=a+1
 |0,a,h=>by rw[jB (sU h)];simp
 |c+1,b,h=>by
  by_cases a:b<128
  .rw[jB a];simp
  rw[oS a]
  have:=CZ c (b / 128) (by rw[E.pow_succ] at h;omega);simp;omega
theorem qp{n:E}(a:n<=2147483648):(jL n).length<=5:=CZ 4 n O
theorem Ze(a:E):jL a≠[]:=by
 by_cases a:a<128
 .rw[jB a];simp
 rw[oS a];simp
def v7:L μ->E
 |[]=>0
 |c::a=>c.toNat % 128+128*v7 a
theorem XI(a:L μ)(b:μ):v7 (a++[b])=v7 a+(b.toNat % 128)*128 ^ a.length:=by
 induction a with
 |nil=>simp[v7]
 |cons d c a=>
  simp only[im,v7,a,bW,E.pow_succ];rw[E.mul_add,<-E.mul_assoc,lK 128 (b.toNat % 128),E.mul_assoc,lK 128 (128 ^ c.length)];omega
theorem acN(a:L μ):v7 a<128 ^ a.length:=by
 induction a with
 |nil=>simp[v7]
 |cons a c b=>simp only[v7,bW,E.pow_succ];omega
structure Form(hs:L μ)(c:μ):Prop where
 hi:∀x∈hs,128<=x.toNat
 lo:c.toNat<128
 nz:hs≠[]->c.toNat≠0
theorem MK(b:E):∃c a,jL b=c++[a]/\Form c a/\v7 (c++[a])=b/\(1<=b->1<=a.toNat):=by
 induction b using E.strongRecOn with
 |_ a g=>
  by_cases c:a<128
  .have d:(μ.ofNat a).toNat=a:=sO
   refine⟨[],μ.ofNat a,by rw[jB c];rfl,⟨sI,by rw[d];exact c,λe=>absurd Y e⟩,?_,by rw[d];exact id⟩;simp[v7];omega
  obtain⟨i,b,g,d,h,e⟩:=g (a / 128) O;have f:(μ.ofNat (128+a % 128)).toNat=128+a % 128:=sO;refine⟨μ.ofNat (128+a % 128)::i,b,by rw[oS c,g];rfl,⟨?_,d.lo,λ_=>by have:=e O;omega⟩,?_,λ_=>e O⟩
  .intro l a
   rcases cK.1 a with rfl|k
   .rw[f];omega
   exact d.hi l k
  simp only[im,v7,h,f];omega
theorem Pe{hs:L μ}{c:μ}(a:1<=c.toNat)(a:c.toNat<128):1<=v7 (hs++[c]):=by
 induction hs with
 |nil=>simp[v7];omega
 |cons a d b=>simp only[im,v7];omega
theorem Bd{a:μ}(b:Form u a):jL (v7 (u++[a]))=u++[a]:=by
 induction u with
 |nil=>
  have:a.toNat % 128+128*0=a.toNat:=oB b.lo;simp only[eW,v7,this];rw[jB b.lo];simp
 |cons c d f=>
  have e:=b.hi c (jg ..);have e:=c.toNat_lt;have e:=b.nz sI;have g:=Pe (hs:=d) (c:=a) O b.lo
  have:=f ⟨λg f=>b.hi g (jh _ f),b.lo,λ_=>e⟩;simp only[im,v7];rw[oS O,show(c.toNat % 128+128*v7 (d++[a])) / 128=v7 (d++[a]) by omega,show 128+(c.toNat % 128+128*v7 (d++[a])) % 128=c.toNat by omega,this];simp
def qQ(a:L μ):E:=(a.takeWhile YA).length
def sD(a:L μ)(b:E):T:=
 if 5<=qQ a then 2 else if qQ a=a.length then 16 else if(0<qQ a/\a[qQ a]? =S 0)\/b<v7 (a.take (qQ a+1)) then 2 else 0
def JC(a:L μ)(b:E):T:=if sD a b=0 then(v7 (a.take (qQ a+1)):E) else 0
def Io(a:L μ)(b:E):L μ:=if sD a b=0 then a.drop (qQ a+1) else[]
def Hi(d:L μ)(c:E):Prop:=∀b a,b<c->d[b]? =S a->128<=a.toNat
theorem Hi.step{b:μ}(e:Hi u m)(f:u[m]? =S b)(g:128<=b.toNat):Hi u (m+1):=λc h b a=>by
 by_cases d:c=m
 .subst d
  rw[f] at a;obtain rfl:=cI a;exact g
 exact e c h O a
theorem Rh(a:L μ):qQ a<=a.length:=by
 induction a with
 |nil=>simp[qQ]
 |cons a c b=>
  unfold qQ at b |-;rw[kB];split
  .simp;exact b
  simp
theorem Uj{a:L μ}{k:E}(b:Hi a k)(c:k<=a.length):k<=qQ a:=by
 induction a generalizing k with
 |nil=>simp at c;omega
 |cons d a g=>
  cases k with
  |zero=>exact nG
  |succ k=>
   have:=g (k:=k) (λh e i f=>b (h+1) e O (sU f)) (by simp at c;omega);unfold qQ at this |-;rw[kB,aS (sQ.2 (b 0 d O Y))];simp;exact this
theorem Qp{b:L μ}{k:E}(e:Hi b k)(f:∀a,b[k]? =S a->a.toNat<128)(g:k<=b.length):qQ b=k:=by
 induction b generalizing k with
 |nil=>simp[qQ];simp at g;omega
 |cons d b h=>
  cases k with
  |zero=>
   have l:=f d Y;unfold qQ;rw[kB,aR (by rw[sQ];omega)];rfl
  |succ k=>
   have:=h (k:=k) (λi a m c=>e (i+1) a O (sU c)) (λa c=>f a (sU c)) (by simp at g;omega);unfold qQ at this |-;rw[kB,aS (sQ.2 (e 0 d O Y))];simp[this]
theorem abW(c:L μ):Hi c (qQ c):=by
 induction c with
 |nil=>intro b d _ f;simp at f
 |cons i c h=>
  intro b d a e;unfold qQ at a;rw[kB] at a;split at a
  .rename_i g
   cases b with
   |zero=>obtain rfl:=cI e;exact sQ.1 g
   |succ b=>exact h b d (by unfold qQ;simp at a;omega) (sU e)
  simp at a
theorem aak(c:L μ):∀b,c[qQ c]? =S b->b.toNat<128:=by
 induction c with
 |nil=>intro b e;simp at e
 |cons g c d=>
  intro b a;unfold qQ at a d;rw[kB] at a;split at a
  .exact d b (sU a)
  rename_i f;simp at a;subst a;rw[sQ] at f;omega
theorem Ys(c:E)(a:Hi u 5)(b:5<=u.length):sD u c=2:=by
 unfold sD;rw[aS (Uj a b)]
theorem Sk{l:L μ}(b:E)(a:Hi l l.length)(c:l.length<5):sD l b=16:=by
 have:qQ l=l.length:=E.le_antisymm (Rh l) (Uj a eG);unfold sD;rw[aR O,aS this]
theorem KY{a:μ}(d:E)(e:Hi u m)(h:m<5)(b:u[m]? =S a)(g:a.toNat<128)(f:(0<m/\a.toNat=0)\/d<v7 (u.take (m+1))):sD u d=2:=by
 have a:=(cj.1 b).1;unfold sD;rw[(Qp e (λa c=>by rw[b] at c;obtain rfl:=cI c;exact g) O),aR O,aR O,aS];rcases f with⟨a,c⟩|a
 .exact .inl ⟨a,by rw[b];congr 1;exact pE.1 (sU c)⟩
 exact .inr a
theorem Zt{l:L μ}{k:E}{c:μ}(a:E)(g:Hi l k)(i:k<5)(b:l[k]? =S c)(h:c.toNat<128)(f:¬((0<k/\c.toNat=0)\/a<v7 (l.take (k+1)))):
  sD l a=0/\JC l a=(v7 (l.take (k+1)):E)/\Io l a=l.drop (k+1):=by
 have i:=(cj.1 b).1;have d:=Qp g (λg e=>by rw[b] at e;obtain rfl:=cI e;exact h) O;have a:sD l a=0:=by
  unfold sD;rw[d,aR O,aR O,aR];rintro(⟨a,e⟩|a)
  .rw[b] at e
   have:=cH μ.toNat (cI e);exact f (.inl ⟨a,sU this⟩)
  exact f (.inr a)
 unfold JC Io;rw[a,d];simp
theorem Jl{l:L μ}{most:E}(a:sD l most≠0):JC l most=0/\Io l most=[]:=by simp[JC,Io,a]
theorem KC(a:sD u m=0):∃e:E,JC u m=e/\e<=m/\u=jL e++Io u m:=by
 have i:JC u m=(v7 (u.take (qQ u+1)):E):=by simp[JC,a]
 have k:Io u m=u.drop (qQ u+1):=by simp[Io,a]
 unfold sD at a;split at a
 .cases a
 split at a
 .cases a
 rename_i t n;split at a
 .cases a
 rename_i g;have o:=E.lt_of_le_of_ne (Rh u) n;have d:=cF o;have f:u.take (qQ u+1)=u.take (qQ u)++[u[qQ u]]:=by rw[L.take_add_one,d];rfl
 have hF:Form (u.take (qQ u)) u[qQ u]:=⟨λv r=>by
   obtain⟨s,l,rfl⟩:=L.mem_iff_getElem.1 r;simp only[cV] at l;exact abW u s _ O (by rw[L.getElem_take];exact cF O),aak u _ d,λp h=>by
   refine g (.inl ⟨?_,?_⟩)
   .rcases jc (qQ u) with b|b
    .exact absurd (by rw[b];rfl) p
    exact b
   rw[d];congr 1;exact pE.1 (sU h)⟩
 refine⟨_,i,?_,?_⟩
 .rcases dP m (v7 (u.take (qQ u+1))) with c|c
  .exact absurd (.inr c) g
  exact c
 rw[k,f,Bd hF,<-f,rT]
theorem aab(c:∀a∈u,128<=a.toNat):Hi (u++u1) u.length:=λe b d a=>by
 rw[jf d] at a;exact c b (bQ a)
theorem UT(a c:E)(b:L μ)(h:a<=2147483648)(d:a<=c):sD (jL a++b) c=0/\JC (jL a++b) c=a/\Io (jL a++b) c=b:=by
 obtain⟨a,d,f,e,g,_⟩:=MK a;have h:=qp h;rw[f] at h;simp at h;have h:(a++[d]++b).take (a.length+1)=a++[d]:=by
  rw[pF sI];exact dq sI
 have:=Zt (l:=a++[d]++b) (k:=a.length) (c:=d) c (by rw[dm];exact aab e.hi) O sI e.lo (by
  rw[h,g];rintro(⟨b,c⟩|b)
  .exact e.nz (λd=>by rw[d] at b;simp at b) c
  omega)
 rw[h,g] at this;rw[f];refine⟨this.1,this.2.1,?_⟩;rw[this.2.2,dm,show a.length+1=a.length+1 from Y,<-L.drop_drop,L.drop_left];rfl
def Ik(a:T):κ:=decide (-1<=a/\a<=2147483647)
def oJ(a:L T):L μ:=a.flatMap λa=>jL (a+1).toNat
theorem Um(b:e.all Ik=γ):(oJ e).length<=5*e.length:=by
 induction e with
 |nil=>simp[oJ]
 |cons a e c=>
  simp only[lM,bA] at b;have d: -1<=a/\a<=2147483647:=by simpa[Ik] using b.1
  have b:=c b.2;have b:=qp (n:=(a+1).toNat) O;have:oJ (a::e)=jL (a+1).toNat++oJ e:=by simp[oJ]
  rw[this];simp;omega
def mg(a:L T):T:=if 100000<a.length then 4 else if a.all Ik then 0 else 1
def mH(a:L T):L μ:=if mg a=0 then jL a.length++oJ a else[]
theorem zV(a:100000<e.length):mg e=4/\mH e=[]:=by
 have:mg e=4:=by simp[mg,a]
 simp[mH,this]
theorem Kk(b:¬100000<e.length)(c:E)(a:T)(d:e[c]? =S a)(c:Ik a=δ):mg e=1/\mH e=[]:=by
 have a:e.all Ik=δ:=lG.2 ⟨a,bQ d,by simp[c]⟩;have:mg e=1:=by simp[mg,b,a]
 simp[mH,this]
theorem VL(a:¬100000<e.length)(b:e.all Ik=γ):mg e=0/\mH e=jL e.length++oJ e:=by
 have:mg e=0:=by simp[mg,a,b]
 simp[mH,this]
theorem Ae(a:mg e=0):e.length<=100000/\e.all Ik=γ/\mH e=jL e.length++oJ e:=by
 have b:mH e=jL e.length++oJ e:=by simp[mH,a]
 unfold mg at a;split at a
 .cases a
 split at a
 .exact⟨O,by assumption,b⟩
 cases a
def yH:E:=2147483648
def Ke:E->L μ->T
 |0,l=>if l=[] then 0 else 2
 |k+1,l=>if sD l yH=0 then Ke k (Io l yH) else sD l yH
def Nn:E->L μ->L T
 |0,_=>[]
 |k+1,l=>(JC l yH-1)::Nn k (Io l yH)
def gG(a:L μ):T:=if sD a 100000=0 then Ke (JC a 100000).toNat (Io a 100000) else sD a 100000
def yP(a:L μ):L T:=if gG a=0 then Nn (JC a 100000).toNat (Io a 100000) else[]
theorem DW(a:gG u≠0):yP u=[]:=by simp[yP,a]
theorem zR(b:T)(a:L T):oJ (b::a)=jL (b+1).toNat++oJ a:=by simp[oJ]
theorem aaT(a:Ik i1=γ):(i1+1).toNat<=2147483648/\(((i1+1).toNat:E):T)-1=i1:=by
 have: -1<=i1/\i1<=2147483647:=by simpa[Ik] using a
 omega
theorem Qh:∀(a:L T)(b:L μ),a.all Ik=γ->Ke a.length (oJ a++b)=(if b=[] then 0 else 2)/\Nn a.length (oJ a++b)=a
 |[],a,_=>by simp[Ke,Nn,oJ]
 |x::c,b,a=>by
  simp only[lM,bA] at a;obtain⟨d,g⟩:=aaT a.1;obtain⟨d,e,f⟩:=UT (x+1).toNat yH (oJ c++b) d (by unfold yH;omega);rw[zR,dm];simp only[bW,Ke,Nn,d,e,f,eX,(Qh c b a.2),g,and_self]
theorem get_put(b:mg e=0)(a:L μ):gG (mH e++a)=(if a=[] then 0 else 2)/\yP (mH e++a)=(if a=[] then e else[]):=by
 obtain⟨b,f,g⟩:=Ae b;obtain⟨b,c,d⟩:=UT e.length 100000 (oJ e++a) O b;have f:=Qh e a f;have b:gG (mH e++a)=(if a=[] then 0 else 2):=by
  unfold gG;rw[g,dm,b,c,d,aS Y,gu];exact f.1
 refine⟨b,?_⟩;by_cases a:a=[]
 .rw[aS a] at b |-
  unfold yP;rw[aS b,g,dm,c,d,gu];exact f.2
 rw[aR a] at b |-;exact DW (by rw[b];decide)
end Pak
section
open Go.Conc Go.RowKit
def Gq(a:Pk):ζ:=.agg #[I a.1,I a.2]
def QC(w:ε)(b a c:E)(xs:L Pk):Prop:=
 w.heap[b]? =S (.cells #[.chan (S a)] 138 (0,0))/\∃d b,w.heap[a]? =S (.chan c (xs.map Gq).toArray δ d b δ)
theorem Uh(a:E)(b c:ζ):commResult #[scase a b c] .select ((0:E):T) undef δ=.tuple #[goInt 0,.bool δ]:=by
 simp[commResult,scase,L.zipIdx_cons]
theorem Da(a:E)(b c:ζ):commResult #[scase a b c] .select (-1) undef δ=.tuple #[goInt (-1),.bool δ]:=by
 simp[commResult,scase,L.zipIdx_cons]
theorem RU(c:E)(b d:ζ)(a:κ):commResult #[rcase c d] .select ((0:E):T) b a=.tuple #[goInt 0,.bool a,b]:=by
 simp[commResult,rcase,L.zipIdx_cons]
theorem DQ(b:E)(a:ζ):commResult #[rcase b a] .select (-1) undef δ=.tuple #[goInt (-1),.bool δ,a]:=by
 simp[commResult,rcase,L.zipIdx_cons]
theorem Fr.setChan{S:E->Prop}(a:Fr S W V)(b:E)(i:b<W.heap.size->S b)(f:E)(e:θ ζ)(g:κ)(m l:E)(n:κ):Fr S W (V.setChan b f e g m l n):=
 ⟨a.os,a.tape,a.output,by simpa[ε.setChan] using a.size,λk c d=>by
  simp only[ε.setChan];rw[ew (λh=>d (by subst h;exact i c))];exact a.block k c d⟩
theorem QC.ne{w:ε}{xs:L Pk}(c:QC w m q n1 xs):m≠q:=λb=>by
 obtain⟨a,e,d,c⟩:=c;rw[b,c] at a;cases a
theorem QC.set{w:ε}{xs ys:L Pk}(c:QC w m q n1 xs)(b a:E):QC (w.setChan q n1 (ys.map Gq).toArray δ b a δ) m q n1 ys:=by
 have e:=c.ne;obtain⟨c,s0,f,d⟩:=c;refine⟨?_,b,a,heap_setChan w q n1 _ δ b a δ (ba d)⟩;simp only[ε.setChan];rw[ew (λa=>e a.symm)];exact c
theorem QC.fr{S:E->Prop}{w a:ε}{c:L Pk}(d:QC w m q n1 c)(b:Fr S w a)(f:¬S m)(e:¬S q):QC a m q n1 c:=by
 obtain⟨a,g,d,c⟩:=d;exact⟨b.aB a f,g,d,b.aB c e⟩
theorem Oe(e b f:E)(a:Pk)(d:L Pk)(c:ε)(l:QC c e b f d)(m:d.length<f):
  aQ 48 #[aP e 0,.agg #[I a.1,I a.2]] c λh g=>h=.returned (.bool γ)/\QC g e b f (d++[a])/\bT b c g:=by
 obtain⟨i,h,g,k⟩:=l;have l:=λl=>bx (aC i l);refine calls_of_loneTo λl=> ?_;have e:Frame.enter prog 48 #[aP e 0,.agg #[I a.1,I a.2]] .normal=(base 48).at ⟨#[aP e 0,.agg #[I a.1,I a.2],undef,undef,undef,undef,undef,undef,undef,undef,undef,undef,undef,undef,undef],[]⟩ [.code (Tryz.f48.body.getD .skip)]:=by
  simp[Frame.enter,Frame.at,func48,base,Tryz.f48]
 rw[e];refine LoneTo.goes (n:=60) ?_;simp only[Tryz.f48,jx];repeat(first|s_c stepG_seq|s_c stepG_region_end|s_reg|s_op|s_cond δ|s_c stepG_skip)
 s_stop
 refine LoneTo.step (step_lone_sel_send_room (k:=0) (c:=b) (v:=Gq a) (z:=.agg #[aI,aI]) (cap:=f) (buf:=(d.map Gq).toArray) (s:=h) (r:=g) (tm:=δ)
  (stepG_comm (cases:=#[scase b (Gq a) (.agg #[aI,aI])]) (blocking:=δ) (shape:=.select) (w':=c.alloc (.cells #[I a.1,I a.2] 96)) Y Y J (by simp[go_sem,execOp,scase,Gq,Act.eval]))
  rfl (λe f l f=> ?_) (aC k _) (sU m)) ?_
 .rcases e with _|e
  .exact absurd Y l
  simp at f
 rw[Frame.finish_at,Uh]
 walk_nrm
 refine LoneTo.goes (n:=60) ?_;repeat(first|s_c stepG_seq|s_c stepG_region_end|s_reg|s_op|s_c stepG_block|s_cond γ|s_c stepG_skip|s_c stepG_ret')
 s_stop
 refine LoneTo.done ⟨.returned (.bool γ),_,Y,⟨Y,?_,?_⟩,Y,Y,Y,Y,_,func48,by simp[results,Tryz.f48,Frame.at]⟩
 .have:=QC.set (w:=c.alloc (.cells #[I a.1,I a.2] 96)) (xs:=d) (ys:=d++[a]) ⟨aC i _,h,g,aC k _⟩ (h+1) g
  simpa using this
 exact Fr.setChan (S:=λa=>a=b) ((Fr.refl _ c).alloc _) b (λ_=>Y) _ _ _ _ _ _
theorem OA(b d f:E)(a:Pk)(g:L Pk)(c:ε)(h:QC c b d f g)(k:f<=g.length):
  dr 48 #[aP b 0,.agg #[I a.1,I a.2]] c (.bool δ):=by
 obtain⟨f,h,g,i⟩:=h;have f:=λe=>bx (aC f e);refine calls_of_loneTo λe=> ?_;have b:Frame.enter prog 48 #[aP b 0,.agg #[I a.1,I a.2]] .normal=(base 48).at ⟨#[aP b 0,.agg #[I a.1,I a.2],undef,undef,undef,undef,undef,undef,undef,undef,undef,undef,undef,undef,undef],[]⟩ [.code (Tryz.f48.body.getD .skip)]:=by
  simp[Frame.enter,Frame.at,func48,base,Tryz.f48]
 rw[b];refine LoneTo.goes (n:=60) ?_;simp only[Tryz.f48,jx];repeat(first|s_c stepG_seq|s_c stepG_region_end|s_reg|s_op|s_cond δ|s_c stepG_skip)
 s_stop
 refine LoneTo.step (step_lone_sel_default
  (stepG_comm (cases:=#[scase d (Gq a) (.agg #[aI,aI])]) (blocking:=δ) (shape:=.select) (w':=c.alloc (.cells #[I a.1,I a.2] 96)) Y Y J (by simp[go_sem,execOp,scase,Gq,Act.eval]))
  (λa e=> ?_)) ?_
 .simp only[L.mem_toArray,rB] at e
  subst e;exact noWay_send (aC i _) (sU k)
 rw[Frame.finish_at,Da]
 walk_nrm
 refine LoneTo.goes (n:=60) ?_;repeat(first|s_c stepG_seq|s_c stepG_region_end|s_reg|s_op|s_c stepG_block|s_cond δ|s_c stepG_skip|s_c stepG_ret')
 s_stop
 refine LoneTo.done ⟨.returned (.bool δ),_,Y,⟨Y,?_⟩,Y,Y,Y,Y,_,func48,by simp[results,Tryz.f48,Frame.at]⟩;exact(Fr.refl _ c).alloc _
theorem PF(a c g:E)(b:ε)(e:QC b a c g []):
  dr 26 #[aP a 0] b (.tuple #[.agg #[aI,aI],.bool δ]):=by
 obtain⟨e,h,g,f⟩:=e;have e:=λd=>bx (aC e d);refine calls_of_loneTo λd=> ?_;have a:Frame.enter prog 26 #[aP a 0] .normal=(base 26).at ⟨#[aP a 0,undef,undef,undef,undef,undef,undef,undef,undef,undef,undef,undef,undef,undef,undef,undef,undef,undef],[]⟩ [.code (Tryz.f26.body.getD .skip)]:=by
  simp[Frame.enter,Frame.at,func26,base,Tryz.f26]
 rw[a];refine LoneTo.goes (n:=60) ?_;simp only[Tryz.f26,jx];repeat(first|s_c stepG_seq|s_c stepG_region_end|s_reg|s_op|s_cond δ|s_c stepG_skip)
 s_stop
 refine LoneTo.step (step_lone_sel_default
  (stepG_comm (cases:=#[rcase c (.agg #[aI,aI])]) (blocking:=δ) (shape:=.select) (w':=b.alloc (.cells #[aI,aI] 96)) Y Y J (by simp[go_sem,execOp,rcase,Act.eval]))
  (λa d=> ?_)) ?_
 .simp only[L.mem_toArray,rB] at d
  subst d;exact noWay_recv (aC f _)
 rw[Frame.finish_at,DQ]
 walk_nrm
 refine LoneTo.goes (n:=60) ?_;repeat(first|s_c stepG_seq|s_c stepG_region_end|s_reg|s_op|s_c stepG_block|s_cond δ|s_c stepG_skip|s_c stepG_ret')
 s_stop
 refine LoneTo.done ⟨.returned (.tuple #[.agg #[aI,aI],.bool δ]),_,Y,⟨Y,?_⟩,Y,Y,Y,Y,_,func26,by simp[results,results26,Frame.at,go_sem]⟩;exact(Fr.refl _ b).alloc _
theorem QT(g c i:E)(a:Pk)(d:L Pk)(b:ε)(m:QC b g c i (a::d)):
  aQ 26 #[aP g 0] b λf e=>f=.returned (.tuple #[.agg #[I a.1,I a.2],.bool γ])/\QC e g c i d/\bT c b e:=by
 obtain⟨l,k,h,f⟩:=m;have r:=λe=>bx (aC l e);refine calls_of_loneTo λe=> ?_;have m:Frame.enter prog 26 #[aP g 0] .normal=(base 26).at ⟨#[aP g 0,undef,undef,undef,undef,undef,undef,undef,undef,undef,undef,undef,undef,undef,undef,undef,undef,undef],[]⟩ [.code (Tryz.f26.body.getD .skip)]:=by
  simp[Frame.enter,Frame.at,func26,base,Tryz.f26]
 rw[m];refine LoneTo.goes (n:=60) ?_;simp only[Tryz.f26,jx];repeat(first|s_c stepG_seq|s_c stepG_region_end|s_reg|s_op|s_cond δ|s_c stepG_skip)
 s_stop
 refine LoneTo.step (step_lone_sel_recv_buf (k:=0) (c:=c) (z:=.agg #[aI,aI]) (cap:=i) (buf:=((a::d).map Gq).toArray) (closed:=δ) (s:=k) (r:=h) (tm:=δ)
  (stepG_comm (cases:=#[rcase c (.agg #[aI,aI])]) (blocking:=δ) (shape:=.select) (w':=b.alloc (.cells #[aI,aI] 96)) Y Y J (by simp[go_sem,execOp,rcase,Act.eval]))
  rfl (λm e t n=> ?_) (aC f _) sI) ?_
 .rcases m with _|m
  .exact absurd Y t
  simp at n
 have n:((a::d).map Gq).toArray.getD 0 undef=.agg #[I a.1,I a.2]:=Y;have m:(((a::d).map Gq).toArray.extract 1 ((a::d).map Gq).toArray.size)=(d.map Gq).toArray:=by simp[θ.ext_iff]
 rw[Frame.finish_at,RU,n,m];have t:=QC.ne (w:=b) (xs:=a::d) ⟨l,k,h,f⟩;have f:=ba f;have f:=ba l;obtain⟨e,f⟩:=M ((b.alloc (.cells #[aI,aI] 96)).setChan c i (d.map Gq).toArray δ k (h+1) δ:ε);have g:e.heap[g]? =some (.cells #[.chan (some c)] 138 (0,0)):=by
  rw[f];simp only[ε.setChan];rw[ew (λg=>t g.symm)];exact aC l _
 have i:e.heap[c]? =some (.chan i (d.map Gq).toArray δ k (h+1) δ):=by rw[f];exact heap_setChan _ c i _ δ k (h+1) δ sO
 have d:e.heap[b.heap.size]? =some (.cells #[aI,aI] 96 (0,0)):=by
  rw[f];simp only[ε.setChan];rw[ew O];exact bM Y
 have hF:bT c b e:=by rw[f];exact Fr.setChan (S:=λl=>l=c) ((Fr.refl _ b).alloc _) c (λ_=>Y) _ _ _ _ _ _
 have c:=bx d;have c:=dh d;have c:=aG d 0;have c:=aG d 1;rw[<-f];have⟨o,p,c⟩:=dt g i d;have l:=ba d;clear f g i d r n m
 walk_nrm
 refine LoneTo.goes (n:=60) ?_;repeat(first|s_c stepG_seq|s_c stepG_region_end|s_reg|s_op|s_c stepG_block|s_cond γ|s_c stepG_skip|s_c stepG_ret')
 s_stop
 have c:(((e.setCell ⟨b.heap.size,0,η⟩ (I a.1)).setCell ⟨b.heap.size,1,η⟩ (I a.2)).alloc (.cells #[I a.1,I a.2] 96)).heap[b.heap.size]? =some (.cells #[I a.1,I a.2] 96 (0,0)):=aC (aD (aD c.1 0 _) 1 _) _;have r:=aj c 0;have s:=aj c 1;refine LoneTo.done ⟨.returned (.tuple #[.agg #[I a.1,I a.2],.bool γ]),_,Y,⟨Y,?_,?_⟩,Y,Y,Y,Y,_,func26,by simp[results,results26,Frame.at,go_sem,r,s]⟩
 .exact QC.fr (w:=e) ⟨o.1,k,h+1,p.1⟩ (S:=λa=>a=b.heap.size) ((((Fr.refl _ e).aK 0 _).aK 1 _).alloc _) O O
 exact((hF.cN _ eG _).cN _ eG _).alloc _
theorem Xz:∃a,prog.info? 96=S a/\a.bytes=16:=by
 have a:(prog.info? 96).map (·.bytes)=S 16:=kR;obtain⟨c,b,a⟩:=vA.1 a;exact⟨c,b,a⟩
theorem mkc(a:E)(b:a<=256)(b:ε):(Instr.makeChan 136 (I a)).run prog b=.ok (.chan (S b.heap.size)) (b.alloc (.chan a #[] δ 0 0 δ)):=by
 obtain⟨e,d,c⟩:=Xz;simpa using run_makeChan (P:=prog) (w:=b) underlying136 d .i64 a O (by rw[c];omega)
theorem abJ(b:E)(a:ε)(c:1<=b)(d:b<=256):aQ 24 #[I b] a λe c=>e=.returned (.tuple #[aP (a.heap.size+1) 0,aI])/\QC c (a.heap.size+1) a.heap.size b []/\Fr j a c:=by
 have b:=λc=>mkc b d c
 delta aQ;go_in
 go_wp2;go_ret2;refine⟨Y,⟨bM sI,0,0,aC (bM Y) _⟩,((Fr.refl j a).alloc _).alloc _⟩
end
namespace Pak
open Go.RowKit
def ic(a:L T):L ζ:=a.map (ζ.int .i64)
theorem AU(b:L T):∀a∈ic b,a.oneCell'=γ:=by
 intro b a;simp only[ic,dE] at a;obtain⟨c,_,rfl⟩:=a;rfl
theorem qV(a b:L T):ic (a++b)=ic a++ic b:=by simp[ic]
theorem Wz(a:L T):(a.map cW).flatten=ic a:=by
 induction a with
 |nil=>rfl
 |cons b c a=>simp[ic,cW] at a |-;exact a
theorem He(c:q=e.length)(b:W.ownsRow m 3 1 x q (ic e)):Sl 3 1 CI W x e:=by
 subst c;exact cC.read (L:=e.map cW) ⟨by rw[Wz];exact b,sI,λd c f a b=>by
  simp[b] at a;subst a;exact⟨Y,Y⟩⟩
theorem Kn:dK prog 310 5 1 1:=dK.of underlying310 (z:=.int .u8 0) kR Y J
theorem abe(a:μ):bits .and .u8 (a.toNat:T) 127=((a.toNat % 128:E):T):=by
 have a:=(bits_nat .u8 8 J wraps_u8 a.toNat 127 (oB a.toNat_lt) J).1;rw[nat_mask7] at a;exact a
theorem LH(a:T)(b:0<=a)(b:a<2 ^ 62):IntKind.i64.wrap a=a:=by rw[IntKind.wrap_i64];omega
theorem aal(a c b:E)(d:a<5)(f:c<128 ^ a)(d:b<128):bits .or .i64 (c:T) ((b*128 ^ a:E):T)=((c+b*128 ^ a:E):T):=by
 have d:128 ^ a=2 ^ (7*a):=by rw[show(128:E)=2 ^ 7 from Y,<-E.pow_mul]
 have e:128 ^ a<=128 ^ 4:=lj J O;have e:b*128 ^ a<=127*128 ^ 4:=E.mul_le_mul O e;have e:=(bits_nat .i64 62 J LH c (b*128 ^ a) O O).2;rw[e,E.or_comm,nat_join (7*a) (b*128 ^ a) c (by rw[d];exact E.mul_mod_left _ _) (by rw[<-d];exact f),E.add_comm]
theorem Yq(a b:E)(c:a<5)(c:b<128):wrap64 ((b:T)*2 ^ (7*a))=((b*128 ^ a:E):T):=by
 have c:((2:T) ^ (7*a))=((128 ^ a:E):T):=by rw[show(128:E)=2 ^ 7 from Y,<-E.pow_mul];simp
 have d:b*128 ^ a<=127*128 ^ 4:=E.mul_le_mul O (lj J O);rw[c];have:(b:T)*((128 ^ a:E):T)=((b*128 ^ a:E):T):=sI;rw[this];unfold wrap64;omega
def NX(b:ν)(a:E)(f:ε)(e:Ending)(d:ε):Prop:=
 ∃c:ν,e=.returned (.tuple #[I (JC b.data.toList a),.string c,I (sD b.data.toList a)])/\c.data.toList=Io b.data.toList a/\Fr j f d
theorem NX.err(a:sD S2.data.toList m=i1)(c:i1≠0)(b:Fr j W V):NX S2 m W (.returned (.tuple #[aI,.string ⟨#[]⟩,I i1])) V:=by
 have:=Jl (l:=S2.data.toList) (most:=m) (by rw[a];exact c);exact⟨⟨#[]⟩,by rw[this.1,a],by rw[this.2],b⟩
theorem ES(b:ν)(d:E)(o:T)(b0:o=d)(i:ε):
  aQ 111 #[.string b,I o] i (NX b d i):=by
 have l:=iF b
 delta aQ;go_in
 go_wp2_with fail;go_loopg [7,8] 5 (λgk s7 X wr=>∃(a:E),a+gk=5/\X=I a/\s7=I (v7 (b.data.toList.take a):E)/\Hi b.data.toList a/\a<=b.size/\i=wr)
 .exact⟨0,Y,Y,Y,λb3 c a6=>by omega,nG,Y⟩
 case round=>
  obtain⟨a,a7,rfl,rfl,g,B,rfl⟩:=hrel;have a9:a<=5:=O;have D:v7 (b.data.toList.take a)<128 ^ a:=by
   have:=acN (b.data.toList.take a);rwa[cV,l,rP B] at this
  obtain⟨G,v⟩:=M (v7 (b.data.toList.take a));rw[<-v] at D |-;have HN:=Z v;clear v;by_cases k:a<5
  .have P:(a:T)<5:=O
   by_cases U:a<b.size
   .have b1:(0:T)<=(a:T):=jD
    have b2:(a:T)<b.size:=O;have W:((a:T)==(b.size:T))=δ:=sO;have h:=BL b a U;obtain⟨c,s⟩:=M (b[a]:μ);rw[<-s] at h;have a3:=s.symm;have a0:=abe c;obtain⟨n,r⟩:=M (c.toNat % 128);rw[<-r] at a0;have z:n<128:=O;have a1:=Yq a n k z;have K:=aal a G n k D z;obtain⟨a2,w⟩:=M (n*128 ^ a);rw[<-w] at a1 K;obtain⟨f,x⟩:=M (G+a2);rw[<-x] at K;have m:(v7 (b.data.toList.take (a+1))=f):=(by
     rw[bJ h,XI,<-HN.1,cV,l,rP B,<-r,<-w,x])
    clear s r w x;by_cases a4:128<=(c.toNat:T)
    .go_wp2
     go_roundg (gk-1)
     .exact⟨a+1,O,by go_num,by rw[m],(g.step h O),O,Y⟩
     omega
    have u:c.toNat<128:=O;by_cases F:(0<a/\c.toNat=0)
    .obtain⟨t,Q⟩:=F
     have a8:(0:T)<(a:T):=O;have A:((c.toNat:T)==0)=γ:=sO;go_wp2;refine aO (v:=.tuple #[aI,.string ⟨#[]⟩,I 2]) (by simp[results,results111,go_sem]) Y ?_;exact NX.err (KY d g k h u (.inl ⟨t,Q⟩)) J rF
    by_cases C:d<f
    .have V:o<(f:T):=O
     have e:=(KY d g k h u (.inr (by rw[m];exact C)));by_cases t:(0:T)<(a:T)
     .have A:((c.toNat:T)==0)=δ:=sO
      go_wp2;refine aO (v:=.tuple #[aI,.string ⟨#[]⟩,I 2]) (by simp[results,results111,go_sem]) Y ?_;exact NX.err e J rF
     go_wp2;refine aO (v:=.tuple #[aI,.string ⟨#[]⟩,I 2]) (by simp[results,results111,go_sem]) Y ?_;exact NX.err e J rF
    have V:¬o<(f:T):=O;have e:=Zt d g k h u (by rw[m];rintro(p|p);exact F p;exact C p);rw[m] at e;have a5:IntKind.i64.wrap ((a:T)+1)=(a:T)+1:=kH _ O;have b4:(0:T)<=(a:T)+1:=O;have b5:(a:T)+1<=b.size:=O;have b6:((a:T)+1).toNat=a+1:=O;have y:∀q:E,NX b d i (.returned (.tuple #[I f,.string (b.extract (a+1) b.size),aI])) (i.drewN q):=λq=>
     ⟨_,by rw[e.1,e.2.1],by rw[yl,e.2.2],(Fr.refl j i).drewN q⟩
    by_cases t:(0:T)<(a:T)
    .have A:((c.toNat:T)==0)=δ:=sO
     go_wp2_with fail;go_quiet (fail);go_wp2;exact aO (v:=.tuple #[I f,.string (b.extract (a+1) b.size),aI]) (by simp[results,results111,go_sem]) Y (y _)
    go_wp2_with fail;go_quiet (fail);go_wp2;exact aO (v:=.tuple #[I f,.string (b.extract (a+1) b.size),aI]) (by simp[results,results111,go_sem]) Y (y _)
   have R:a=b.size:=O;have W:((a:T)==(b.size:T))=γ:=sO;go_wp2;refine aO (v:=.tuple #[aI,.string ⟨#[]⟩,I 16]) (by simp[results,results111,go_sem]) Y ?_;exact NX.err (Sk (l:=b.data.toList) d (by rw[l,<-R];exact g) (by rw[l];omega)) J rF
  obtain rfl:a=5:=O;have P:¬((5:E):T)<5:=J;go_wp2;refine aO (v:=.tuple #[aI,.string ⟨#[]⟩,I 2]) (by simp[results,results111,go_sem]) Y ?_;exact NX.err (Ys d g (by rw[l];omega)) J rF
end Pak
namespace Pak
open Go.RowKit
def GT(b:ν)(e:ε)(d:Ending)(a:ε):Prop:=
 ∃c,d=.returned (.tuple #[c,I (gG b.data.toList)])/\Sl 3 1 CI a c (yP b.data.toList)/\Fr j e a
theorem GT.err(a:gG S2.data.toList=i1)(c:i1≠0)(b:Fr j W V):GT S2 W (.returned (.tuple #[aV,I i1])) V:=
 ⟨_,by rw[a],by rw[DW (by rw[a];exact c)];exact dJ,b⟩
theorem GT.ok(b:gG S2.data.toList=0)(c:yP S2.data.toList=e)(d:Sl 3 1 CI V x e)(a:Fr j W V):GT S2 W (.returned (.tuple #[x,aI])) V:=
 ⟨_,by rw[b],by rw[c];exact d,a⟩
theorem AG(a:S2.data.toList=[]):S2.toList.isEmpty=γ:=by rw[lO,a];rfl
theorem JG{T:ν}(a:T.data.toList≠[]):T.toList.isEmpty=δ:=by
 rw[lO];cases b:T.data.toList with
 |nil=>exact absurd b a
 |cons _ _=>rfl
theorem Am(a:ν)(g:ε):aQ 77 #[.string a] g (GT a g):=by
 have x:(gG a.data.toList=if sD a.data.toList 100000=0 then Ke (JC a.data.toList 100000).toNat (Io a.data.toList 100000) else sD a.data.toList 100000):=Y
 have P:(yP a.data.toList=if gG a.data.toList=0 then Nn (JC a.data.toList 100000).toNat (Io a.data.toList 100000) else[]):=Y
 delta aQ;go_in
 go_wp2_with fail;refine sg (ES a 100000 100000 J g) ?_;rintro y V ⟨e,rfl,t,w⟩;have y:=Z t;by_cases c:sD a.data.toList 100000=0
 .obtain⟨b,t,V,-⟩:=KC c
  have r:(gG a.data.toList=Ke b e.data.toList):=(by rw[x,aS c,t,gu,y.1]);have K:(yP a.data.toList=if gG a.data.toList=0 then Nn b e.data.toList else[]):=(by rw[P,t,gu,y.1])
  rw[c,t];go_wp2_with fail;go_loopg [0,6,20] b (λgk s0 s6 v wr=>∃(d:E)(f:ν)(h:L T),d+gk=b/\v=I d/\s0=.string f/\h.length=d/\h++Nn gk f.data.toList=Nn b e.data.toList/\Ke gk f.data.toList=Ke b e.data.toList/\wr.ownsRow g.heap.size 3 1 s6 d (ic h)/\Fr j g wr)
  .exact⟨0,e,[],du,Y,Y,Y,Y,Y,iL _ _ _ _,w⟩
  case round=>
   obtain⟨i,h,m,W,rfl,rfl,F,C,d,u,o⟩:=hrel;obtain⟨R,U,rfl,-,-⟩:=bB u;have l:=Z d;have t:i<=b:=O;clear d;by_cases t:i<b
   .obtain⟨n,k⟩:∃d,gk=d+1:=⟨gk-1,O⟩
    go_wp2_with fail;refine sg (ES h yH 2147483648 J wr) ?_;rintro t y ⟨s,rfl,D,B⟩;have p:=(o.step B);have z:=(B.owns u (λ_ _ d=>d));by_cases d:sD h.data.toList yH=0
    .obtain⟨f,y,t,-⟩:=KC d
     unfold yH at t;have G:(Ke n s.data.toList=Ke b e.data.toList):=(by
      have t:=l.1;rw[k] at t;simp only[Ke,d,eX] at t;rw[D];exact t)
     have HL2:((m++[(f:T)-1])++Nn n s.data.toList=Nn b e.data.toList):=(by
      have e:=C;rw[k] at e;simp only[Nn,y] at e;rw[D,dm];exact e)
     rw[d,y];have e:(f:T)<=2147483648:=O;go_wp2_with (at_builtin;refine stop ?_);refine aZ.go (eD Y (.tmp 31) (.tmp 34) Y oG Y (base:=g.heap.size) (n:=i) (xs:=ic m) ?p1 (m:=1) (news:=ic [(f:T)-1]) Y Y ?p3 ?p4 ?p5 ?p6 ?p7)
     case p1=>exact z.alloc _
     case p3=>exact eF.block (cs:=#[I ((f:T)-1)]) (bM Y) (AU [(f:T)-1])
     case p4=>omega
     case p5=>simp only[maxLen];omega
     case p6=>have:=p.size;simp;omega
     case p7=>
      intro e g A Q _;rw[<-qV] at A;go_wp2;go_roundg (gk-1)
      .have e:gk-1=n:=O
       rw[e];exact⟨i+1,s,m++[(f:T)-1],oB k,by go_num,Y,by simp[F],HL2,G,A,((p.alloc (.cells #[I ((f:T)-1)] 3)).grown Q (λv e f=>by have:=(z.lt v e).1;omega))⟩
      omega
    have f:N (gG a.data.toList=sD h.data.toList yH):=Z (by
     have e:=l.1;rw[k] at e;simp only[Ke,d,iG] at e;rw[r];exact e.symm)
    rw[(Jl d).1];obtain⟨e,g⟩:=M (sD h.data.toList yH);rw[<-g] at d f |-;have p1:(e==0)=δ:=sU d;have e:(e !=0)=γ:=sU d;clear g;go_wp2;go_ret2;exact GT.err f.1 d p
   have b:i=b:=O;have d:gk=0:=O;by_cases b:h.data.toList=[]
   .have f:gG a.data.toList=0:=by
     have e:=l.1;rw[d,b] at e;rw[r,<-e];rfl
    have e:(gG a.data.toList=0/\yP a.data.toList=m):=⟨f,by
     have e:=C;rw[d] at e;rw[K,aS f,<-e];simp[Nn]⟩
    have f:=AG b;go_wp2;go_ret2;exact GT.ok e.1 e.2 (He F.symm u) o
   have d:(gG a.data.toList=2):=(by
    have e:=l.1;rw[d] at e;rw[r,<-e];simp[Ke,b])
   have b:=JG b;go_wp2;go_ret2;exact GT.err d J o
 have b:N (gG a.data.toList=sD a.data.toList 100000):=Z (by rw[x,aR c]);rw[(Jl c).1];obtain⟨a,d⟩:=M (sD a.data.toList 100000);rw[<-d] at c b |-;have p1:(a==0)=δ:=sU c;have a:(a !=0)=γ:=sU c;clear d;go_wp2;go_ret2;exact GT.err b.1 c w
end Pak
theorem Th(c q:Addr)(a:ε):CallsD prog 78 #[.pointer (S c),.pointer (S q)] .returning a λd b c=>d=.returned (.tuple #[])/\b=.returning/\c=a:=by
 refine callsD_of_wpS func78 Y λb a a=> ?_;apply wpS_seq;apply wpS_region;simp[wpOpsS,go_sem,recoverD,a,ntmps78,Exit.thenS];refine wpS_cond (t:=δ) (by simp[Act.eval,θ.replicate]) ?_;simp only[kv,iG];refine wpS_of_wp (wp_skip ?_);cases b
 simp_all [bodyPostS,results,results78]
def stz:iS:=⟨η,η,η,η,η,η,η,0,0,0,0,0,0,0,0,0,0,0,0,0,0,0,0,0,0,0,0,0,0,0,0,0,0,0,0,0,0,δ,δ,δ,δ,δ⟩
def GR(e:RS)(f:ε)(d:Ending)(b:ε):Prop:=∃a c,d=.returned (.tuple #[.agg (ei a),I c])/\(c=0->∃c,dB a c=e/\lv b a c)/\Fr j f b
theorem abu(e:X.length=4):∃a b c d,X=[a,b,c,d]:=by
 match X,e with
 |[a,b,c,d],_=>exact⟨a,b,c,d,Y⟩
theorem UU{q:E}{a:RS}(f:a.Fit)(g:RQ W q (zP a) V)(e:RB a):aQ 79 #[aP q 0] V (SR W V q a):=by
 obtain⟨b,c,d⟩:=f;obtain⟨u,w,n,t,B,C,G,f,P,K,y,v,m,D,z,A,a,x,F⟩:=a;obtain⟨o,p,r,s,rfl⟩:=abu b;obtain⟨h,i,k,l,rfl⟩:=abu c;obtain⟨s0,s1,s2,s3,rfl⟩:=abu d;exact Mu _ _ _ _ _ _ _ _ _ _ _ _ _ _ _ _ _ _ _ _ _ _ _ _ _ _ _ _ g e
theorem lv.acD{d:LS}{q:E}{e:θ ζ}(c:lv W x3 d)(a:bT q W V)(b:aY W q e 29):lv V x3 d:=
 ⟨c.hh.aJ a (λh g f e d=>e.ne ⟨_,_,d▸b⟩ (by rcases f with rfl|rfl|rfl<;>decide) Y),c.fs.past CF.aJ a b J (by unfold fS;decide),c.wp.past iA a b J id,c.wl.past CR.aJ a b J (by unfold fS;decide),c.pa.past MC.aJ a b J (by unfold AF;decide),c.od.past iA a b J id,c.tr.past NC.aJ a b J (by unfold fS;decide)⟩
theorem uU{b:θ ζ}{c q:E}{a:θ ζ}(e:b[2]?.getD undef=aP c 0)(f:b[3]?.getD undef=aP q 0)(d:aY W c a 66)(g:a.size=28)(c:aY W q #[I i1] 29):
  (results Tryz.f49 b).run prog W=.ok (.tuple #[.agg a,I i1]) W:=by
 have a:=aj c 0;simp at a;have b:Tryz.f49.results=#[.cell 2 66,.cell 3 29]:=Y;have a:(loadVar 29 (H q 0)).run prog W=.ok (I i1) W:=by simp[go_sem,a]
 simp[results,b,e,f,asAddr,fQ d Y underlying66 (by rw[g];exact gy),a,Result.andThen]
theorem TU(n:ν)(b:RS)(d7:b.Fit)(d5:RB b)(d6:StC ⟨b.h,b.fs,b.wp,b.wl,b.path,b.ord,b.tree⟩)(K:n.data.toList=Pak.mH (zP b))(G:Pak.mg (zP b)=0)(k:ε):aQ 49 #[.string n] k (GR b k):=by
 have w:=Pak.get_put G [];rw[lh,<-K] at w;have a0:(Pak.gG n.data.toList=0/\Pak.yP n.data.toList=zP b):=w;have HI:=Z gy;go_enter_defers func49,ntmps49
 go_upto_region 1 with fail;refine cT (λK w=> ?_);obtain⟨f,G⟩:=M k.heap.size;obtain⟨q,a4⟩:=M (f+1);rw[<-G,<-a4];have b0:(aY K f Vv 66):=(by rw[w];exact aC (bM G) _);have b3:(aY K q #[aI] 29):=(by rw[w];exact bM sO);have b7:=lq w;have d:N (k.heap.size<=f/\k.heap.size<=q/\f≠q):=Z O;clear w G a4;go_wp2_with fail;refine sg (Pak.Am n K) ?_;rintro a z ⟨e4,rfl,d8,c⟩;rw[a0.1];have d9:Sl 3 1 CI z e4 (zP b):=by rw[<-a0.2];exact d8
 obtain⟨c8,d0,e3,d2,rfl,a1,c2,c7⟩:=d9;obtain⟨G,n⟩:=M ((zP b).length);rw[<-n] at a1 |-;have w:=Z n;have Q:=(c.hs b0);have m:=(c.hs b3);have W:=(b7.step c);have d3:=bx m;have e6:=aG m 0;clear n;go_upto_region 6 with fail;refine cT (λn x=> ?_);obtain⟨A,s⟩:=M (z.setCell (H q 0) aI);rw[<-s] at x;obtain⟨h,i⟩:=M z.heap.size;rw[<-i];have v:bT q z A:=by rw[s];exact rF.aK _ _
 have a7:h=A.heap.size:=by rw[i,s];simp[ε.setCell]
 have o:=cY x;have c5:RQ A h (zP b) n:=⟨⟨c8,G,d2,d0,e3,by rw[x];exact bM a7,w.1,a1,c2,c7.aJ da v (λz w n b a=>b.ne ⟨_,_,a▸m⟩ (n.elim (λa=>by subst a;decide) (λl=>l.elim)) Y)⟩,O,o⟩;have b1:=Z (o.hs (v.aB Q d.1.2.2));have b4:=Z (o.hs (by rw[s];simpa using aD m 0 aI));have b8:=((W.keep v (λy a=>a▸d.1.2.1)).step o);have LR:(k.heap.size<=h/\f≠h/\q≠h/\A.heap.size<=f\/k.heap.size<=h/\f≠h/\q≠h):=(.inr (by have:=W.size;have:=ba Q;have:=ba m;omega));have u:=Z (LR.elim (λb=>⟨b.1,b.2.1,b.2.2.1⟩) id);clear x s i v a7 o d3 e6;go_wp2_with fail;refine sg (UU d7 c5 d5) ?_;rintro a b ⟨l,F,rfl,i,HM,c6,c⟩;have⟨R,b5⟩:=bD (c.obj b1.1 u.1.2.1) (c.obj b4.1 u.1.2.2);have b9:=(b8.keep c (λy a=>by unfold onQ at a;subst a;exact u.1.1));have c1:=Z i;have b2:StC F:=(by have:=d6;rw[<-i] at this;exact this);clear i c;go_wp2_with (refine aU Y 66 (.tmp 2) (.tmp 20) Y Y Y R.1 Y HI.1 (kj l) ?_;intro b a3 p;refine stop ?_);have⟨U,b6⟩:=bD a3 (p.aB b5.1 (λa=>d.1.2.2 a.symm));have c0:=(b9.keep p (λy a=>a▸d.1.1));have a2:=(HM.own p R.1);obtain⟨b,k,i,h,m,a5,a6,e0,e1,e2⟩:=c6.row;have a8:=a6;subst a8;have d1:=bx (p.aB a5 (λa=>u.1.2.1 a.symm));clear a3 p a5 a6 e0 e1 e2;refine aZ.go ?_;go_wp2_with (go_at_call 80;refine(vy _).mono ?_;rintro a b ⟨rfl,rfl⟩;refine stop ?_);refine aZ.go ?_;clear d1;go_wp2_with (first|(refine bU Y 66 (.tmp 2) Y Y U.1 underlying66 Y HI.1 ?_)|(go_at_call 81;refine stop ?_));refine sg (uL l F _ a2 b2) ?_;rintro a b ⟨⟨c9,rfl⟩,c⟩;have⟨t,V⟩:=bD (c.hs U.1) (c.hs b6.1);have X:=(c0.step c);have c3:=(a2.fr c);clear c;cases c9
 .go_wp2_with (refine aU Y 66 (.tmp 2) (.tmp 31) Y Y Y t.1 Y HI.1 oC ?_;intro P r g;refine stop ?_)
  refine aZ.go ?_;have e:=g.aB V.1 (λa=>d.1.2.2 a.symm);have d4:=bx e;have e7:=aG e 0;have B:=Z (bi r (H q 0) d.1.2.2 (I 19));have C:N ((P.setCell (H q 0) (I 19)).heap[q]? =S (.cells #[I 19] 29 (0,0))):=Z (sU (aD e 0 (I 19)));have D:=((X.keep g (λy a=>a▸d.1.1)).cN (H q 0) d.1.2.1 (I 19));clear r g e;go_wp2;refine nJ (f:=78) (args:=#[aP f 0,aP q 0]) sI (by simp[go_sem]) ?_;refine(Th _ _ _).mono ?_;rintro a a9 e5 ⟨rfl,rfl,rfl⟩;simp only[Leaves,settle];exact⟨_,uU Y Y B.1 Y C.1,stz,19,Y,(λa=>by cases a),D⟩
 go_wp2_with (first|(refine bU Y 66 (.tmp 2) Y Y t.1 underlying66 Y HI.1 ?_)|(refine aU Y 66 (.tmp 2) (.tmp 32) Y Y Y t.1 Y HI.1 (kj l) ?_;intro P r g;refine stop ?_));refine aZ.go ?_;have e:=g.aB V.1 (λa=>d.1.2.2 a.symm);have d4:=bx e;have e7:=aG e 0;have B:=Z (bi r (H q 0) d.1.2.2 aI);have C:N ((P.setCell (H q 0) aI).heap[q]? =S (.cells #[aI] 29 (0,0))):=Z (sU (aD e 0 aI));have D:=((X.keep g (λy a=>a▸d.1.1)).cN (H q 0) d.1.2.1 aI);have c4:=((c3.own g t.1).acD (rF.aK 0 aI) e);clear r g e;go_wp2;refine nJ (f:=78) (args:=#[aP f 0,aP q 0]) sI (by simp[go_sem]) ?_;refine(Th _ _ _).mono ?_;rintro a a9 e5 ⟨rfl,rfl,rfl⟩;simp only[Leaves,settle];exact⟨_,uU Y Y B.1 Y C.1,l,0,Y,(λ_=>⟨F,c1.1,c4⟩),D⟩
structure WS(w0:ε)(p:E)(L:List T)(w:ε):Prop where
 row:∃a c M,aY w p #[.slice a L.length c] 272/\cC w0.heap.size 3 1 CI w (.slice a L.length c) L M
 lo:w0.heap.size<=p
 fr:Fr j w0 w
def Wr(d:E)(b c:ε):Prop:=Fr (λa=>a=d\/fE 3 b a) b c
theorem WS.j{c b w':ε}(d:WS c m e b)(a:Fr j b w'):WS c m e w':=by
 obtain⟨⟨c,d,b,f,g⟩,h,i⟩:=d;exact⟨⟨c,d,b,a.hs f,g.fr da a⟩,h,i.step a⟩
theorem Wr.of(a:Fr j W V):Wr m W V:=a.mono (λ_ _ a=>a.elim)
theorem Wr.trans(c:Wr m W V)(a:Wr m V U):Wr m W U:=Fr.trans c a (λ_ _ a=>a) (λb g a=>by
 rcases a with a|⟨e,f,d⟩
 .exact .inl a
 by_cases a:b=m\/fE 3 W b
 .exact a
 rw[c.block b g a] at d;exact absurd (.inr ⟨e,f,d⟩) a)
theorem Wr.obj{a:θ ζ}(c:Wr m W V)(b:W.heap[q]? =S (.cells a n1 f1))(d:q≠m)(e:n1≠3):V.heap[q]? =S (.cells a n1 f1):=
 c.aB b (λa=>a.elim d (λa=>a.ne ⟨_,_,b⟩ (λa=>e a.symm) Y))
def WO(f:ε)(b:E)(c:L T)(e:ε)(d:Ending)(a:ε):Prop:=d=.returned (.tuple #[])/\WS f b c a/\Wr b e a
theorem Sl.lit{a n:E}{cs:θ ζ}{l:L T}(c:W.heap[a]? =S (.cells cs 3 f1))(f:cs.toList=l.map (ζ.int .i64))(i:n=l.length)(h:n<=maxLen):Sl 3 1 CI W (.slice (S (H a 0)) n n) l:=by
 subst i;refine⟨_,a,0,_,Y,eG,h,.inr ⟨Y,_,_,c⟩,λk e g=>⟨[I e],Y,Y,λd a b=> ?_⟩⟩;cases d with
 |zero=>
  rw[aj c];have:cs.toList[k]? =S (I e):=by rw[f];simp[g]
  simp at b;subst b;simpa using this
 |succ d=>simp at b
theorem Dg(a:WS W m e V)(c:q=p1.length)(i:eF V A (p1.map cW).flatten)(d:e.length+p1.length<=10000000000000):
  aQ 126 #[aP m 0,.slice A q n1] V (WO W m (e++p1) V):=by
 obtain⟨⟨a,f,p,b,h⟩,l,n⟩:=a;generalize f:e.length=a at b h d;rw[<-c] at d;have⟨g,HM,HN⟩:=dt b f c;have r:=bx b;clear b f c
 delta aQ;go_in
 go_wp2_with (at_builtin;refine stop ?_);have b:(a+q)*8<=140737488355328:=O;have c:a+q<=maxLen:=mL;refine aZ.go (jI Y (.tmp 8) (.tmp 9) Y oG (λ_=>Y) a q HM.1 HN.1.symm Y h Y i b c (by have:=n.size;exact this) ?_);intro b c d i f o s;have g:=f.1.aB g.1 (λk=>(aW h.row k).2.ne ⟨_,_,g.1⟩ J Y);have o:=bx g;have o:=aG g 0;have k:N (WS W m (e++p1) (d.setCell (H m 0) (.slice b (a+q) c))/\Wr m V (d.setCell (H m 0) (.slice b (a+q) c))):=Z (by
  have o:Fr (λo=>o=m\/fE 3 V o) V d:=f.1.mono (λs _ o=>.inr (aW h.row o).2);have h:Fr (λh=>h=m\/fE 3 V h) V (d.setCell (H m 0) (.slice b (a+q) c)):=o.setCell _ (λ_=>.inl Y) _;refine⟨⟨⟨b,c,p++p1.map cW,?_,?_⟩,l,?_⟩,h⟩
  .rw[cA,HM.1,<-HN.1];simpa using (aD g 0 (.slice b (a+q) c))
  .rw[cA,HM.1,<-HN.1]
   exact i.aJ da (rF.aK 0 _:bT m d _) (λc b a=>(aW i.row b).2.ne ⟨_,_,a▸g⟩ J Y) (λ_ _ a=>a.elim)
  exact((n.keep f.1 (λb a=>f.2 b a)).setCell _ (λ(a:m<W.heap.size)=>absurd l O) _))
 clear r g i f;go_wp2;go_end0
 exact⟨Y,k.1.1,k.1.2⟩
theorem mZ{a l:L T}(b:WS W m a V)(d:Sl 3 1 CI V x l)(c:a.length+l.length<=10000000000000):
  aQ 126 #[aP m 0,x] V (WO W m (a++l) V):=by
 obtain⟨f,g,i,h,rfl,-,-,e⟩:=d;exact Dg b Y (e.src (λ_=>Y) (by simp[cW,ζ.oneCell'])) c
theorem sR(a:L T)(b:a.length<=1000):a.length<=maxLen:=bX b J
theorem Ec(g:WS W m e V)(c:Sl 3 1 CI W x p1)(b:e.length+p1.length<10000000000000):
  aQ 127 #[aP m 0,x] V (WO W m (e++fh p1) V):=by
 have HL:=c;obtain⟨d,a⟩:=M p1.length;obtain⟨l,n,p,o,rfl,-,-,-⟩:=c;rw[<-a] at HL |-;have HN:=Z a;clear a
 delta aQ;go_in
 go_wp2_with fail;refine sg (mZ (g.j cZ) (Sl.lit (l:=[(d:T)]) (bM Y) Y Y (sR [(d:T)] sI)) (by have:=b;simp;omega)) ?_;rintro c d ⟨rfl,a,h⟩;go_wp2_with fail;refine sg (mZ a (HL.fr da a.fr) (by have:=b;have:=HN.1;simp;omega)) ?_;rintro a k ⟨rfl,s2,i⟩;have f:WO W m (e++fh p1) V (.returned (.tuple #[])) k:=⟨Y,by unfold fh;rw[dm] at s2;rw[<-HN.1];exact s2,((Wr.of cZ).trans h).trans i⟩;go_wp2;go_end0
 exact f
theorem Mc{a:κ}(c:WS W m e V)(d:e.length<10000000000000):
  aQ 129 #[aP m 0,.bool a] V (WO W m (e++eB a) V):=by
 cases a
 .delta aQ;go_in
  go_wp2_with (go_at_call 126;refine(mZ (l:=[0]) (c.j cZ) (Sl.lit (bM Y) Y Y (sR [(0:T)] sI)) (by have:=d;simp;omega)).mono ?_;rintro a f ⟨rfl,s1,b⟩);go_end0
  exact⟨Y,s1,(Wr.of cZ).trans b⟩
 delta aQ;go_in
 go_wp2_with (go_at_call 126;refine(mZ (l:=[1]) (c.j cZ) (Sl.lit (bM Y) Y Y (sR [(1:T)] sI)) (by have:=d;simp;omega)).mono ?_;rintro a c ⟨rfl,s1,b⟩);go_end0
 exact⟨Y,s1,(Wr.of cZ).trans b⟩
theorem uK{c:Ch}(f:WS W m e V)(g:e.length+3<=10000000000000):
  aQ 128 #[aP m 0,.agg #[I c.k,I c.a,I c.b]] V (WO W m (e++yV c) V):=by
 obtain⟨d,a,b⟩:=c
 delta aQ;go_in
 go_wp2_with (go_at_call 126;refine(mZ (l:=[d,a,b]) (f.j (cZ.alloc _)) (Sl.lit (bM sI) Y Y (sR [d,a,b] sI)) (by have:=g;simp;omega)).mono ?_;rintro a b ⟨rfl,s1,h⟩);go_end0
 exact⟨Y,s1,(Wr.of (cZ.alloc _)).trans h⟩
theorem Zf(a:α->L T)(b:X[m]? =S x1):(X.take (m+1)).flatMap a=(X.take m).flatMap a++a x1:=by
 rw[bJ b];simp
theorem abp(a:α->L T)(b:L α)(c:E):((b.take c).flatMap a).length<=(b.flatMap a).length:=by
 have a:b.flatMap a=(b.take c).flatMap a++(b.drop c).flatMap a:=by rw[<-ny,rT]
 rw[a,cA];omega
def wk(c:α->L T)(b:L T)(a:L α)(d:E):L T:=(b++[(a.length:T)])++(a.take d).flatMap c
theorem wk0(c:α->L T)(a:L T)(b:L α):a++[(b.length:T)]=wk c a b 0:=by simp[wk]
theorem AB{a:α->L T}(b:L T)(c:X[m]? =S x1):wk a b X (m+1)=wk a b X m++a x1:=by simp[wk,Zf a c]
theorem aam(b:α->L T)(a:L T)(c:X.length<=m):wk b a X m=a++eL b X:=by simp[wk,eL,dq c]
theorem abS(a:α->L T)(c:L T)(b:L α)(d:E):(wk a c b d).length<=(c++eL a b).length:=by
 have:=abp a b d;simp only[wk,eL,cA,bW,fq];omega
theorem MY(v:WS W m e V)(z:Sl 146 4 NC W x N1)(w:(e++mJ N1).length<10000000000000):
  aQ 130 #[aP m 0,x] V (WO W m (e++mJ N1) V):=by
 obtain⟨b,a⟩:=M N1.length;obtain⟨F,G,X,P,rfl,Q,A,g⟩:=z;have f:(∀c,(wk Bw e N1 c).length<10000000000000):=(λc=>E.lt_of_le_of_lt (abS Bw e N1 c) w);rw[<-a];have HN:=Z a;have w:b<=9223372036854775807:=by unfold maxLen at A;omega
 clear a
 delta aQ;go_in
 go_wp2_with fail;refine sg (mZ (l:=[(b:T)]) (v.j cZ) (Sl.lit (bM Y) Y Y (sR [(b:T)] sI)) (by have:=f 0;rw[<-wk0,cA] at this;simp at this;simp;omega)) ?_;rintro v w ⟨rfl,n,B⟩;rw[HN.1,wk0 Bw e N1] at n;go_wp2_with fail;go_loopg [13] b (λgk v wr=>∃a:E,a+gk=b/\v=I a/\WS W m (wk Bw e N1 a) wr/\Wr m V wr)
 .exact⟨0,du,Y,n,((Wr.of cZ).trans B)⟩
 case round=>
  obtain⟨a,HK,rfl,d,l⟩:=hrel;have n:a<=b:=O;by_cases n:a<b
  .obtain⟨D,c⟩:=gE N1 a fU
   obtain rfl:=g.addr c;obtain⟨p,n,v,w,u,y⟩:=(g.f d.fr).nd c;obtain⟨s,-,-,-,r,CY⟩:=g.nd c;obtain rfl:p=s:=by
    have g:=d.fr.aF r id;rw[u] at g;exact cI g
   (obtain⟨o,R,K,rfl⟩:∃g i h,p=.slice g i h:=by obtain⟨k,t,U,C,rfl,-⟩:=y;exact⟨_,_,_,Y⟩);have⟨b,g⟩:=dy a b;go_wp2_with fail;refine aZ.nm (λb b=> ?_);have h:=dL b Y;have i:=cY b;have k:N (wr.heap.size≠m):=Z (by obtain⟨o,p,n,g,-⟩:=d.row;have:=ba g;omega);obtain⟨q,g⟩:=M wr.heap.size;rw[<-g] at h k |-;clear b g;refine sg (uK (c:=D.c) (d.j i) (by have:=f (a+1);rw[AB e c] at this;simp[Bw,yV] at this;omega)) ?_;rintro b g ⟨rfl,t,o⟩;have b:=iT (o.obj h.1 k.1 J);go_wp2_with fail;refine sg (Ec t CY (by have:=f (a+1);rw[AB e c] at this;simp[Bw,yV,fh] at this;simp[yV];omega)) ?_;rintro b f ⟨rfl,s4,C⟩;go_wp2;go_roundg (gk-1)
   .exact⟨a+1,O,by go_num,(by rw[AB e c];unfold Bw;rw[<-dm];exact s4),(((l.trans (Wr.of i)).trans o).trans C)⟩
   omega
  have c:(wk Bw e N1 a=e++mJ N1):=(aam Bw e fU);go_wp2;go_end0
  exact⟨Y,c▸d,l⟩
section
def PW(f:ε)(d:E)(b c:L T)(e:ε):Prop:=b.length<10000000000000/\∃a,a++c=b/\WS f d a e
def PO(g:ε)(b:E)(d c:L T)(f:ε)(e:Ending)(a:ε):Prop:=e=.returned (.tuple #[])/\PW g b d c a/\Wr b f a
variable {w0 w w':ε} {p:E} {T R l:L Int}
theorem PW.keep(a:PW w0 p T R w)(b:Fr j w w'):PW w0 p T R w':=by
 obtain⟨e,a,c,d⟩:=a;exact⟨e,a,c,d.j b⟩
theorem PW.fr(a:PW w0 p T R w):Fr j w0 w:=by
 obtain⟨-,b,-,a⟩:=a;exact a.fr
theorem PW.ne(a:PW w0 p T R w){q:E}(b:q=w.heap.size):q≠p:=by
 obtain⟨-,b,-,⟨d,e,c,a,-⟩,-⟩:=a
 have:=ba a;omega
theorem PW.go{b:L Int}{d:θ ζ}{c:E}(e:PW w0 p T (b++R) w)(f:∀a,WS w0 p a w->(a++b).length<10000000000000->aQ c d w (WO w0 p (a++b) w)):aQ c d w (PO w0 p T R w):=by
 obtain⟨e,b,a,c⟩:=e;rw[<-dm] at a;refine(f b c (by have:=cH L.length a;simp only[cA] at this |-;omega)).mono ?_;rintro f w' ⟨b,c,d⟩;exact⟨b,⟨e,_,a,c⟩,d⟩
theorem aaQ{b c:E}{a:ι Addr}(l:L Int)(d:PW w0 p T (l++R) w)(e:b=l.length)(f:eF w a (l.map cW).flatten):aQ 126 #[aP p 0,.slice a b c] w (PO w0 p T R w):=
 d.go (λc a b=>Dg a e f (by simp at b;omega))
theorem eF.lit{b:ε}{c:E}{cs:θ ζ}{f:TypeId}{e:E×E}{l:L Int}(d:b.heap[c]? =S (.cells cs f e))(a:cs.toList=l.map (ζ.int .i64)):eF b (S (H c 0)) (l.map cW).flatten:=by
 have:(l.map cW).flatten=cs.toList:=by
  rw[a];clear d a;induction l with
  |nil=>rfl
  |cons c l b=>simp[cW,b]
 rw[this];exact eF.block d (by rw[a];simp[ζ.oneCell'])
theorem yc{c d a:E}{b:θ ζ}{i:TypeId}{e:E×E}(l:L Int)(f:PW w0 p T (l++R) w)(h:c=l.length)(g:w.heap[a]? =S (.cells b i e))(e:b.toList=l.map (ζ.int .i64)):aQ 126 #[aP p 0,.slice (S (H a 0)) c d] w (PO w0 p T R w):=
 aaQ l f h (eF.lit g e)
theorem Ru{a:ζ}(b:PW w0 p T (fh l++R) w)(c:Sl 3 1 CI w0 a l):aQ 127 #[aP p 0,a] w (PO w0 p T R w):=
 b.go (λd a b=>Ec a c (by simp[fh] at b;omega))
theorem zY{b:κ}(a:PW w0 p T (eB b++R) w):aQ 129 #[aP p 0,.bool b] w (PO w0 p T R w):=
 a.go (λd a c=>Mc a (by simp at c;omega))
theorem Kv{c:Ch}(a:PW w0 p T (yV c++R) w):aQ 128 #[aP p 0,.agg #[I c.k,I c.a,I c.b]] w (PO w0 p T R w):=
 a.go (λd a b=>uK a (by simp[yV] at b;omega))
theorem ZI{l:L Nd}{a:ζ}(b:PW w0 p T (mJ l++R) w)(c:Sl 146 4 NC w0 a l):aQ 130 #[aP p 0,a] w (PO w0 p T R w):=
 b.go (λd a b=>MY a c b)
end
namespace Pak
open Go.RowKit Go.Shelf
attribute [local go_sem] mB
def encI(a:E):L T:=(jL a).map λa=>(a.toNat:T)
theorem GK(a:m<128):encI m=[(m:T)]:=by
 unfold encI;rw[jB a];simp;omega
theorem PX(a:¬m<128):encI m=(((m % 128:E):T)+128)::encI (m / 128):=by
 unfold encI;rw[oS a];simp;omega
theorem acZ(a:E)(b:a<128):bits .or .u8 (a:T) 128=(a:T)+128:=by
 have b:=(bits_nat .u8 8 J wraps_u8 a 128 O J).2;rw[E.or_comm,nat_join 7 128 a J O] at b;have a:bits .or .u8 (a:T) 128=((128+a:E):T):=b;rw[a];omega
def ada(a:E)(b:ε):E:=match b.cell? (H a 0) with|some (.int _ a)=>a.toNat|_=>0
theorem xT(b:T)(a:ε):aQ 174 #[I b] a λd c=>d=.returned (.func (.func 212) #[] #[aP a.heap.size 0])/\a.alloc (.cells #[I b] 3)=c:=by
 delta aQ;go_in
 go_wp2;go_ret;exact⟨Y,Y⟩
theorem Gi(s r c e:E)(o:e<=2147483648)(d:L T->ε->Prop)
  (w:∀a b(f g:T),d a b->aY b c #[I f] 3->d a (b.setCell (H c 0) (I g)))
  (m:∀f(a h:T) b,d f b->aY b c #[I h] 3->0<=a->a<256->f.length<=5->YieldAt Fence.wide (s-1) prog r #[.int .u8 a] b λi g=>i=.returned (.bool γ)/\d (f++[a]) g/\aY g c #[I h] 3)
  (b:ε)(v:aY b c #[I e] 3)(u:d [] b):
  CallsIn Fence.wide s prog 212 #[.func (.yield r) #[] #[],aP c 0] b λb a=>(∃f,b=.returned f)/\d (encI e) a:=by
 refine callsIn_of_wp func212 Y trivial ?_ Y;simp only[ntmps212,ko,bW,fq,E.reduceAdd,E.reduceSub,lL,lz,lE,lF,eW,im];gi_wp2;gi_loopw [3] (λ_ wr=>∃(b:L T)(a:E),d b wr/\aY wr c #[I a] 3/\b++encI a=encI e/\a<=2147483648)
  (λ_ wr=>ada c wr)
 .exact⟨[],e,u,v,Y,o⟩
 case round=>
  obtain⟨g,a,n,b,i,c⟩:=hrel;have c:=bx b;have c:=aG b 0;have h:=Z b;have p:g.length<=5:=by
   have c:=cH L.length i;have d:=qp o;simp[encI] at c;omega
  clear b;by_cases l:a<128
  .have b:¬(128:T)<=(a:T):=O
   (have hw:IntKind.u8.wrap (a:T)=a:=by unfold IntKind.wrap;simp[IntKind.bits,IntKind.signed];omega);obtain⟨e,r,b,d,o,c⟩:=m g a a wr n h.1 O O p;gi_wp2;refine⟨λb=>by simp[Fence.wide] at b,c.mono ?_⟩;rintro c b ⟨rfl,f,k⟩;gi_wp2;(go_end0);refine⟨⟨_,Y⟩,?_⟩
   have:=f;rw[<-(GK l),i] at this;exact this
  have b:(128:T)<=(a:T):=O;obtain⟨q,d⟩:=M (a / 128);obtain⟨b,c⟩:=M (a % 128);have e:(a:T) / 128=(q:T):=O;have e:(a:T).tmod 128=(b:T):=by rw[T.tmod_eq_emod_of_nonneg O];exact by omega
  have hw:IntKind.u8.wrap (b:T)=b:=by unfold IntKind.wrap;simp[IntKind.bits,IntKind.signed];omega
  have e:=acZ b O;obtain⟨k,b⟩:=M ((b:T)+128:T);rw[<-b] at e;obtain⟨o,r,m,n,p,e⟩:=m g k a wr n h.1 O O p;have t:(encI a=k::encI q):=(by rw[PX l,<-c,<-d,<-b]);clear d c b;gi_wp2;refine⟨λb=>by simp[Fence.wide] at b,e.mono ?_⟩;rintro c b ⟨rfl,x,f⟩;have b:=bx f;have b:=aG f 0;have b:=(aD f 0 (I q));gi_wp2;go_roundw
  case rel=>exact⟨g++[k],q,(w _ _ a q x f),b,by rw[dm,sV,<-t];exact i,O⟩
  case measure=>
   have a:=aj b 0;have b:=aj h.1 0
   have:=O;simp at a b;simp[ada,a,b];omega
def mark(a:E):Deferred:={target:=.collected a,args:=#[]}
def acO(d:L T->ε->Prop)(e:L T)(b:E)(c:ε):Exit->Act->ε->Prop
 |.normal,_,a=>KeepsOthers c a/\a.heap[b]? =c.heap[b]? /\d e a
 |_,_,_=>False
theorem Aa{B:Operand}{u:θ Tmp}{assign body:Code}(t b:E)(a8:t<=2147483648)
  (a6:a1.eval B=.func (.func 212) #[] #[aP b 0])(b0:u.size=1)(C:aY W b #[I t] 3)
  (f:L T->ε->Prop)(n:OwnFrom W.heap.size f)
  (U:∀c a(i m:T),f c a->aY a b #[I i] 3->f c (a.setCell (H b 0) (I m)))(R:f [] W)(z:T->Act)
  (a0:∀(x:E)(d:T)(a:ε)(y:Act->ε->Prop),y (z d) a->
   assign.wpIn (Fence.wide.inRound x) 7 prog (Exit.then y (λ_ _ _=>False)) {tmps:=(u.zip #[ζ.int .u8 d]).foldl (λP(b3,m)=>P.setIfInBounds b3 m) a1.tmps,defers:=[]} a)
  (a3:∀(x:E)(c:L T)(d i:T)(a:ε),f c a->aY a b #[I i] 3->0<=d->d<256->c.length<=5->
   body.wpIn (Fence.wide.inRound x) 7 prog (acO f (c++[d]) b a) (z d) a)
  (a4:∀(v:E)(a:ε),W.heap.size<=v->f (encI t) a->a.heap[v]? =S (.deferred (S []))->Q .normal {a1 with defers:=mark v::a1.defers} a):
  (Code.rangeFunc B u assign body).wp prog Q a1 W:=by
 refine(gS (n:=9)).1 (wpIn_rangeFunc ?_);intro fn a5;have c1:=ba C;obtain⟨k,h⟩:∃k:LoopState->ι Code->Loop,k=λb5 b4=>{state:=b5,pending:=b4,fn,tmps:=a1.tmps,params:=u,assign,body,defers:=W.heap.size}:=⟨_,Y⟩;obtain⟨g,o⟩:∃g,(W.alloc (.deferred (S []))).alloc (.loop (k .ready η))=g:=⟨_,Y⟩;have X:g.heap[W.heap.size+1]? =S (.loop (k .ready η)):=by
  rw[<-o];have:=ε.alloc_heap_new (W.alloc (.deferred (S []))) (.loop (k .ready η));rwa[fL] at this
 have V:g.heap[W.heap.size]? =S (.deferred (S [])):=by
  rw[<-o];exact(Below.heap_alloc _ _ _ sI).trans (ε.alloc_heap_new W _)
 refine⟨W.heap.size+1,[{target:=.collected W.heap.size,args:=#[]}],g,{target:=.fn (.func 212) #[aP b 0],args:=#[.func (.yield (W.heap.size+1)) #[] #[]]},g,212,
  #[.func (.yield (W.heap.size+1)) #[] #[]]++#[aP b 0],g,?_,?_,?_,?_,λ_=>by decide,?_⟩
 .rw[<-o,h];exact run_enterLoop_outer _ _ _ _ _
 .simp only[resolve,a6]
  simp[go_sem]
 .intro c0 c2;trivial
 .simp[invoke,go_sem]
 refine(Gi 8 (W.heap.size+1) b t a8
  (λc a=>f c a/\a.heap[W.heap.size+1]? =S (.loop (k .ready η))/\a.heap[W.heap.size]? =S (.deferred (S [])))
  ?_ ?_ g (by rw[<-o];exact aC (aC C _) _) ⟨(by rw[<-o];exact n.alloc _ (n.alloc _ R)),X,V⟩).mono ?_
 .intro c a i m ⟨p,e,r⟩ w
  refine⟨U c a i m p w,(Below.heap_setCell _ _ _ _ (by show W.heap.size+1≠b;omega)).trans e,(Below.heap_setCell _ _ _ _ (by show W.heap.size≠b;omega)).trans r⟩
 ·
  rintro c d i a ⟨p,e,r⟩ w b1 b2 a9;have K:=run_yield (P:=prog) (args:=#[ζ.int .u8 d]) e (by rw[h];exact b0.symm);rw[h] at K;refine⟨fn,_,assign,body,K,roundIn_of_wpIn a5 (a0 _ d a _ ⟨_,run_beginRound e (by rw[h]),?_⟩)⟩;have D:(a.putObj (W.heap.size+1) (.loop {k .ready η with state:=.busy})).heap[b]? =S (.cells #[I i] 3 (0,0)):=(ε.putObj_heap_other O).trans w;refine wpIn_mono (a3 _ c d i _ (n.putObj _ p O e Y) D b1 b2 a9) ?_;rintro A b8 b7 l;cases A with
  |normal=>
   obtain⟨F,a2,a7⟩:=l;have s:=F.same _ _ (ε.putObj_heap_same ((fJ.1 e).1)) Y;have G:=run_endRound (P:=prog) η s;rw[h] at G s;refine⟨_,_,G,Y,⟨n.putObj _ a7 O s Y,?_,?_⟩,?_⟩
   .rw[h];exact ε.putObj_heap_same (fJ.1 s).1
   .exact(ε.putObj_heap_other O).trans (F.same _ _ ((ε.putObj_heap_other O).trans r) Y)
   exact(ε.putObj_heap_other O).trans (a2.trans D)
  |ret=>exact l.elim
  |exit id=>exact l.elim
  |goto P=>exact l.elim
  |panic b9=>exact l.elim
  |outgrown=>exact l.elim
 rintro A b6 ⟨⟨m,rfl⟩,p,e,r⟩;exact⟨η,_,by have:=run_endLoop (P:=prog) e (by rw[h];simp);rw[h] at this;exact this,a4 _ _ eG (n.putObj _ p O e Y) ((ε.putObj_heap_other O).trans r)⟩
theorem eP{e:Func}{g:θ ζ}{d:Ending->ε->Prop}{v:ζ}{w0:ε}:∀(a:L E)(b:ε),a.Nodup->(∀c∈a,w0.heap.size<=c/\b.heap[c]? =S (.deferred (S [])))->Fr j w0 b->
  (∀c,(results e g).run prog c=.ok v c)->(∀c,Fr j w0 c->d (.returned v) c)->LeavesInM Fence.wide 9 prog e g d (a.map mark) .returning b
 |[],a,_,_,c,d,b=>⟨v,d a,b a c⟩
 |b::h,e,d,f,a,l,k=>by
  obtain⟨e,i⟩:=f b (jg ..);have c:=mu.1 d;refine⟨sI,.inl ⟨b,_,Y,run_takeDeferred i,?_⟩⟩;refine eP h _ c.2 (λd e=> ?_) ?_ l k
  .obtain⟨f,g⟩:=f d (jh _ e)
   exact⟨f,(ε.putObj_heap_other (λ(f:d=b)=>c.1 (f▸e))).trans g⟩
  exact⟨a.os,a.tape,a.output,sU a.size,λd b c=>(ε.putObj_heap_other O).trans (a.block d b c)⟩
theorem fC{e:FuncId}{a:Func}{d:Code}{b:θ ζ}{c:Ending->ε->Prop}(h:prog.funcs[e]? =S a)(g:a.body=S d)
  (f:d.wp prog (bodyPostM Fence.wide 9 prog a c) {tmps:=b++θ.replicate (a.ntmps-b.size) undef,defers:=[]} W):aQ e b W c:=
 (nH (n:=9)).1 (callsIn_of_wp_marks h g trivial (gS.2 f) Y)
end Pak
namespace Pak
open Go.RowKit Go.Shelf
attribute [local go_sem] mB
def PT(a:L T)(d:ε)(c:Ending)(b:ε):Prop:=c=.returned (.tuple #[.string ⟨(mH a).toArray⟩,I (mg a)])/\Fr j d b
theorem PT.many(a:100000<e.length)(b:Fr j W V):PT e W (.returned (.tuple #[.string ⟨#[]⟩,I 4])) V:=⟨by rw[(zV a).1,(zV a).2],b⟩
theorem PT.no(a:mg e=1/\mH e=[])(b:Fr j W V):PT e W (.returned (.tuple #[.string ⟨#[]⟩,I 1])) V:=⟨by rw[a.1,a.2],b⟩
theorem PT.ok(b:mg e=0)(c:S2=⟨(mH e).toArray⟩)(a:Fr j W V):PT e W (.returned (.tuple #[.string S2,aI])) V:=⟨by rw[b,c],a⟩
theorem WK(a:¬i1< -1)(a:¬2147483647<i1):Ik i1=γ:=cD ⟨O,O⟩
theorem Sq(a:i1< -1\/2147483647<i1):Ik i1=δ:=bV O
theorem sA{d:Fence}{P:Program}
  (y:o2.guard=η)(k l:Operand)(g:o2.op=Op.call {callee:=Callee.builtin Builtin.append,args:=#[k,l],argTypes:=#[t,t]})
  {f:TypeId}{c h base:E}(o:dK P t f c h){n:E}{xs:L ζ}(D:a1.eval k=x)(B:W.ownsRow base f c x n xs){m e:E}{news:L ζ}(G:a1.eval l=.slice A m e)(z:news.length=m*c)(F:eF W A news)(u:(n+m)*h<=140737488355328)(p:n+m<=maxLen)(v:base<=W.heap.size)
  (r:∀a b,b.ownsRow base f c a (n+m) (xs++news)->W.grownBy b x.ownBlock->(a.ownBlock=x.ownBlock\/∀i,a.ownBlock=S i->W.heap.size<=i)->wpListIn d q P o1 Q r1 (a1.put o2.dst a) b):
  wpListIn d q P o1 Q (o2::r1) a1 W:=by
 refine wpListIn_plain y λV s=> ?_;obtain⟨a,b,C,K,R,U⟩:=vU (ty:=o2.type) o B z F u p v (c:=e);unfold Oper.wpIn;refine⟨?_,?_⟩
 .simp[Oper.about,g,resolve,Target.leads,Sem.run_pure]
 rw[Oper.semAt_plain d _ _ (by rw[g];intro e w;cases w)];simp[execOp,g,resolve,invoke,builtin,D,G,C,Result.andThen];exact s _ _ (r a b K R U)
def bc(a:L T):L ζ:=a.map (ζ.int .u8)
theorem Qv(b:L T):∀a∈bc b,a.oneCell'=γ:=by
 intro b a;simp only[bc,dE] at a;obtain⟨c,_,rfl⟩:=a;rfl
theorem Pw(a b:L T):bc (a++b)=bc a++bc b:=by simp[bc]
structure PS(w:ε)(o:E)(Ds:L E)(W:ε)(bs:L T):Prop where
 row:∃v,W.heap[o]? =S (.cells #[v] 310 (0,0))/\W.ownsRow (o+1) 5 1 v bs.length (bc bs)
 lo:w.heap.size<=o
 fr:Fr j w W
 ms:∀D∈Ds,w.heap.size<=D/\W.heap[D]? =S (.deferred (S []))
theorem nh(c:W.ownsRow m t 1 x q Y1)(a:x.ownBlock=S n1):m<=n1/\∃b,W.heap[n1]? =S (.cells b t (0,0)):=by
 rcases c.2 with⟨rfl,h⟩|⟨b,f,g,rfl,d,e,k,i,l,n⟩
 .cases a
 obtain rfl:b=n1:=by simpa[ζ.ownBlock] using a
 exact⟨d,_,e⟩
theorem PS.eA{S:E->Prop}(c:PS W m B V e)(d:Fr S V U)(g:∀b,S b->W.heap.size<=b)
  (h:∀b,S b->b ∉ B/\∀f a,V.heap[b]? =some (.cells f a (0,0))->a≠310/\a≠5):PS W m B U e:=by
 obtain⟨l,f,i⟩:=c.row;have k:¬S m:=λa=>((h m a).2 _ _ f).1 Y;refine⟨⟨l,d.aB f k,d.owns i (λb k a=> ?_)⟩,c.lo,c.fr.trans d (λ_ _ a=>a) (λf l a=>by have:=g f a;omega),λf g=>⟨(c.ms f g).1,d.aB (c.ms f g).2 (λa=>(h f a).1 g)⟩⟩;obtain⟨_,d,c⟩:=nh i k;exact((h b a).2 _ _ c).2 Y
theorem PS.keep(b:PS W m B V e)(a:Fr j V U):PS W m B U e:=b.eA a (λ_ a=>a.elim) (λ_ a=>a.elim)
theorem bq{row:ι E}(a:W.grownBy V row):Fr (λb=>row=S b) W V:=
 ⟨a.os,a.tape,a.output,a.size,λd b c=>a.block d b (λa=>c a.symm)⟩
theorem PS.own(b:W.heap.size<=q)(f:∀a∈B,a<q):OwnFrom q (λ(b:L T) a=>PS W m B a (e++b)):=λk i h row g c b=>
 g.eA (bq c) (λc a=>by have:=(b c a).1;omega) (λc g=>by
  obtain⟨b,g,a,d⟩:=b c g;refine⟨λb=>by have:=f c b;omega,λb c b=> ?_⟩;rw[b] at a;obtain rfl:=cI a;simp[Obj.isCells] at d)
theorem PS.box(h:W.heap.size<=q):∀(b:L T) a(f g:T),PS W m B a (e++b)->a.heap[q]? =some (.cells #[.int .i64 f] 3 (0,0))->PS W m B (a.setCell ⟨q,0,η⟩ (.int .i64 g)) (e++b):=λk a f g c d=>
 c.eA (S:=λb=>b=q) ((Fr.refl (λb=>b=q) a).aK 0 _) (λb a=>a▸h) (λa i=>by
  subst i;refine⟨λa=> ?_,λf g b=> ?_⟩
  .have:=(c.ms _ a).2
   rw[d] at this;cases this
  rw[d] at b;simp only[fZ,Obj.cells.injEq] at b;obtain⟨-,rfl,-⟩:=b;exact⟨J,J⟩)
theorem PS.push(a:PS W m B V e)(c:V.heap[m]? =S (.cells #[x] 310 (0,0)))(h:V.ownsRow (m+1) 5 1 x e.length (bc e))
  (o:U.ownsRow (m+1) 5 1 v1 (e.length+1) (bc (e++[i1])))(n:(V.alloc (.cells #[.int .u8 i1] 5)).grownBy U x.ownBlock):
  PS W m B (U.setCell ⟨m,0,η⟩ v1) (e++[i1])/\KeepsOthers V (U.setCell ⟨m,0,η⟩ v1)/\∀(f:E)(b:Int),V.heap[f]? =S (Obj.cells #[I b] 3 (0,0))->(U.setCell ⟨m,0,η⟩ v1).heap[f]? =S (Obj.cells #[I b] 3 (0,0)):=by
 have d:∀b,x.ownBlock=S b->m+1<=b/\∃g,V.heap[b]? =S (.cells g 5 (0,0)):=λg b=>nh h b;have k:=((Fr.refl j V).alloc _).trans (bq n) (λ_ _ i1=>i1.elim) (λ_ _ i1=>i1);have p:¬x.ownBlock=S m:=λh=>by have:=(d m h).1;omega
 have h:Fr (λb=>x.ownBlock=S b\/b=m) V (U.setCell ⟨m,0,η⟩ v1):=(k.trans (T:=j) (U:=λb=>x.ownBlock=S b\/b=m) (Fr.refl j U) (λ_ _ i1=>.inl i1) (λ_ _ i1=>i1.elim)).setCell _ (λ_=>.inr Y) _;refine⟨⟨⟨v1,by have:=aD (k.aB c p) 0 v1;simpa using this,?_⟩,a.lo,?_,λb g=>⟨(a.ms b g).1,h.aB (a.ms b g).2 ?_⟩⟩,?_,λf k i=>h.aB i ?_⟩
 .rw[cA,eK]
  exact ownsRow_setCell_below o (by show m<m+1;omega) _
 .exact a.fr.trans h (λ_ _ i1=>i1) (λh k i1=>by
   have:=a.lo;rcases i1 with i1|i1
   .have:=(d h i1).1;omega
   omega)
 .rintro(i1|i1)
  .obtain⟨_,h,l⟩:=d b i1
   rw[(a.ms b g).2] at l;cases l
  subst i1;rw[(a.ms b g).2] at c;cases c
 .refine((KeepsOthers.alloc V _).trans (KeepsOthers.of_grownBy n (λb a a l=> ?_))).trans (KeepsOthers.setCell _ _ _)
  obtain⟨_,b,a⟩:=d b a;rw[aC a] at l;obtain rfl:=cI l;rfl
 rintro(i1|i1)
 .obtain⟨_,b,a⟩:=d f i1
  rw[i] at a;simp at a
 subst i1;rw[i] at c;simp at c
def TP(a:L T):L μ:=a.map λa=>μ.ofNat a.toNat
theorem Yv(d:e.length=q)(c:W.ownsRow m 5 1 x q (bc e)):(convert 310 9 x).run prog W=.ok (.string ⟨(TP e).toArray⟩) W:=by
 rcases c.2 with⟨rfl,g⟩|⟨b,a,f,rfl,h,k,l,i,n,o⟩
 .have:e=[]:=fH O
  subst this;exact run_convert_bytes_nil W 310 5 underlying310 underlying5 0 0 9 underlying9
 show _=Result.ok (ζ.string (strOfNums e)) W;refine run_convert_bytes_arg W 310 5 underlying310 underlying5 b 0 q a e d (λa d=> ?_) 9 underlying9
 have:=c.cells (g:=b) Y a (.int .u8 (e.getD a 0)) (by simp[bc,L.getD,show a<e.length by omega]);rw[eV] at this;exact this
def lW(a:L T):L T:=a.flatMap λa=>encI (a+1).toNat
theorem Ff(a:E):TP (encI a)=jL a:=by
 unfold TP encI;rw[L.map_map];conv=>rhs;rw[<-L.map_id (jL a)]
 refine pR λa _=> ?_;simp
theorem Lp(a b:L T):TP (a++b)=TP a++TP b:=by simp[TP]
theorem Cs(a:L T):TP (lW a)=oJ a:=by
 induction a with
 |nil=>rfl
 |cons b a c=>
  have a:lW (b::a)=encI (b+1).toNat++lW a:=by simp[lW]
  rw[a,Lp,Ff,c,zR]
theorem Ng(a:e[m]? =S i1):lW (e.take (m+1))=lW (e.take m)++encI (i1+1).toNat:=by
 rw[bJ a];simp[lW]
theorem Qe(a:e.all Ik=γ):(lW e).length<=5*e.length:=by
 have:=Um a;rw[<-Cs] at this;simpa[TP] using this
theorem RG(a:m<=2147483648):(encI m).length<=5:=by have:=qp a;simpa[encI] using this
theorem SU(c:ι Addr)(d:E)(a:L T)(b:ε)(e:100000<a.length):
  aQ 131 #[.slice c a.length d] b (PT a b):=by
 delta aQ;go_in
 go_wp2;go_ret2;exact PT.many e rF
theorem RI(s:ι Addr)(B D l:E)(a:L T)(g:ε)(R:fF 3 1 CI g s B D a)(b0:¬100000<a.length):
  aQ 131 #[.slice s a.length l] g (PT a g):=by
 have b2:a.length<=2147483648:=O;refine fC func131 Y ?_;simp only[ntmps131,ko,bW,fq,E.reduceAdd,E.reduceSub,lL,lz,lE,lF,eW,im];go_wp2_with fail;refine sg (xT _ _) ?_;rintro t K ⟨rfl,rfl⟩;have K:decide (100000<(a.length:T))=δ:=sO;go_wp2_with fail;obtain⟨d,Q⟩:=M g.heap.size;obtain⟨a8,K⟩:=M ((g.alloc (.cells #[aV] 310)).alloc (.cells #[I (a.length:T)] 3));rw[<-K,<-Q];have d6:a8.heap[d+1]? =S (.cells #[I (a.length:T)] 3 (0,0)):=by rw[K,Q];exact bM sI
 have a7:PS g d [] a8 []:=⟨⟨aV,by rw[K,Q];exact aC (bM Y) _,iL _ _ _ _⟩,O,by rw[K];exact((Fr.refl j g).alloc _).alloc _,sI⟩;have e1:=a7.fr.size;have a8:=Z Q;clear K Q;refine Aa a.length (d+1) b2 Y Y d6 (λp o=>PS g d [] o ([]++p)) (PS.own e1 sI) (PS.box (oB a8.1)) a7
  (λe=>{tmps:=#[.slice s a.length l,undef,.string {data:=#[]},aI,aP d 0,.int .u8 e,undef,undef,undef,.slice s a.length l,I a.length,.bool δ,.slice s a.length l,I a.length,
   .func (.func 212) #[] #[aP (d+1) 0],.int .u8 e,undef,undef,undef,undef,undef,undef,undef,undef,undef,undef,undef,undef,undef,undef,undef,undef,undef,undef,undef,undef,undef,undef,undef,undef,undef,undef,undef],defers:=[]}) ?assign ?body ?done
 case assign=>
  intro a0 e o d2 x;gi_wp2;exact x
 case body=>
  intro a0 p e A o h P e3 e4 d9;rw[eW] at h;obtain⟨c6,c,f⟩:=h.row;obtain⟨W,X,rfl,-,-⟩:=bB f;have a9:=bx c;have c7:=aG c 0;gi_wp2_with (gi_at_builtin;refine stop ?_);refine aZ.go (sA Y (.tmp 16) (.tmp 18) Y Kn Y (base:=d+1) (n:=p.length) (xs:=bc p) ?p1 (m:=1) (news:=bc [e]) Y Y ?p3 ?p4 ?p5 ?p6 ?p7)
  case p1=>exact f.alloc _
  case p3=>exact eF.block (cs:=#[.int .u8 e]) (bM Y) (Qv [e])
  case p4=>omega
  case p5=>simp only[maxLen];omega
  case p6=>have:=ba c;simp;omega
  case p7=>
   (intro e5 v z u _;obtain⟨d3,d5,rfl,-,-⟩:=bB z;rw[<-Pw] at z;have n:=h.push c f z u;have d7:d<v.heap.size:=by have:=u.size;have:=ba c;simp at*;omega);have d4:v.cell? (H d 0)=S (.slice W p.length X):=by
    have:=(bq u).aB (aC c _) (λt=>by have:=(nh f t).1;omega);exact aj this 0
   have e6:v.frozen? (H d 0)=δ:=by
    have:=(bq u).aB (aC c _) (λt=>by have:=(nh f t).1;omega);exact aG this 0
   gi_wp2;exact⟨n.2.1,by rw[n.2.2 _ _ P,P],n.1⟩
 case done=>
  intro i o G h x;have K:g.heap.size<=i:=O;have Q:PS g d [i] o (encI a.length++lW (a.take 0)):=⟨by have:=h.row;simpa[lW] using this,h.lo,h.fr,by simp;exact⟨K,x⟩⟩;have n:=Z Q;go_wp2_with fail;refine wp_loop_ghost (λgk a6 m=>∃(b:E)(k:L E)(c5 b3 b4 b5 b6 b7 b8 b9 c0 c1 c2 c3 c4 a5:ζ),b+gk=a.length/\a6={tmps:=#[ζ.slice s a.length l,undef,.string {data:=#[]},aI,aP d 0,undef,undef,c5,undef,ζ.slice s a.length l,I a.length,.bool δ,ζ.slice s a.length l,I a.length,.func (.func 212) #[] #[aP (d+1) 0],undef,undef,undef,undef,undef,ζ.slice s a.length l,I a.length,I b,b3,b4,b5,b6,b7,b8,b9,c0,c1,c2,c3,c4,undef,undef,undef,undef,undef,a5,undef,undef],defers:=k.map mark}/\
   (a.take b).all Ik=γ/\k.Nodup/\PS g d k m (encI a.length++lW (a.take b))) a.length ?_ ?_
  .exact⟨0,[i],undef,undef,undef,undef,undef,undef,undef,undef,undef,undef,undef,undef,undef,undef,du,Y,Y,sI,n.1⟩
  rintro gk a6 m ⟨b,k,c5,b3,b4,b5,b6,b7,b8,b9,c0,c1,c2,c3,c4,a5,s,rfl,a3,d8,e0⟩;have⟨HN,PW⟩:=bD d8 e0;have s:b<=a.length:=O;by_cases s:b<a.length
  .obtain⟨e,C⟩:=gE a b s
   obtain rfl:=R.addr C;have s:=(R.f PW.1.fr).int C;have s:(0:T)<=(b:T):=jD;have s:(b:T)<(a.length:T):=O;by_cases K:e< -1
   .go_wp2
    refine eP (v:=.tuple #[.string {data:=#[]},I 1]) (w0:=g) k m HN.1 PW.1.ms PW.1.fr (λ_=>by simp[results,results131,go_sem]) (λm F=>PT.no (Kk b0 b e C (Sq (.inl K))) F)
   by_cases s:2147483647<e
   .go_wp2
    refine eP (v:=.tuple #[.string {data:=#[]},I 1]) (w0:=g) k m HN.1 PW.1.ms PW.1.fr (λ_=>by simp[results,results131,go_sem]) (λm F=>PT.no (Kk b0 b e C (Sq (.inr s))) F)
   obtain⟨A,Q⟩:=M ((e+1).toNat);have a6:e+1=(A:T):=O;have a6:IntKind.i64.wrap (e+1)=e+1:=kH _ O;have e2:A<=2147483648:=O;have c9:((a.take (b+1)).all Ik=γ):=(by rw[bJ C,lZ,a3];simp[(WK K s)]);have d0:N (lW (a.take (b+1))=lW (a.take b)++encI A):=Z (by rw[Q];exact Ng C);have s:(encI a.length++lW (a.take b)).length<=600000:=by
    have c:=Qe a3;have f:=RG b2;rw[cV] at c;rw[cA];omega
   clear Q;go_wp2_with fail;refine sg (xT _ _) ?_;rintro t v ⟨rfl,rfl⟩;go_wp2_with fail;(obtain⟨s,K⟩:=M m.heap.size;obtain⟨Q,C⟩:=M (m.alloc (.cells #[I A] 3));rw[<-C,<-K];have a6:PS g d k Q ((encI a.length++lW (a.take b))++[]):=by rw[lh];exact PW.1.keep (by rw[C];exact(Fr.refl j m).alloc _));(have a7:=(dL C K).1;have a8:Q.heap.size=s+1:=by rw[C,K];simp);(have Q:g.heap.size<=s:=oB PW.1.fr.size;have b1:∀i∈k,i<s:=λi G=>by have:=ba (PW.1.ms i G).2;omega);clear C K;refine Aa A s e2 Y Y a7 (λp o=>PS g d k o ((encI a.length++lW (a.take b))++p)) (PS.own O (λi G=>by have:=b1 i G;omega)) (PS.box Q) a6
    (λr=>{tmps:=#[.slice (S (H B D)) a.length l,undef,.string {data:=#[]},aI,aP d 0,undef,undef,I e,.int .u8 r,.slice (S (H B D)) a.length l,I a.length,.bool δ,.slice (S (H B D)) a.length l,I a.length,
     .func (.func 212) #[] #[aP (d+1) 0],undef,undef,undef,undef,undef,.slice (S (H B D)) a.length l,I a.length,I b,.bool γ,aP B (D+b),I e,I e,.bool δ,.bool δ,I e,.bool δ,.bool δ,I e,I A,
     .func (.func 212) #[] #[aP s 0],.int .u8 r,undef,undef,undef,undef,a5,undef,undef],defers:=[]}) ?assign ?body ?done
   case assign=>
    intro a0 r o d2 x;gi_wp2;exact x
   case body=>
    (intro a0 p r e o h P e3 e4 d9;obtain⟨w,y⟩:=M (encI a.length++lW (a.take b)++p);have e:w.length<=600005:=by rw[y,cA];omega);have HL:=Z y;rw[<-y] at h;clear y;obtain⟨c6,c,f⟩:=h.row;obtain⟨W,X,rfl,-,-⟩:=bB f;have a9:=bx c;have c7:=aG c 0;gi_wp2_with (gi_at_builtin;refine stop ?_);refine aZ.go (sA Y (.tmp 36) (.tmp 38) Y Kn Y (base:=d+1) (n:=w.length) (xs:=bc w) ?p1 (m:=1) (news:=bc [r]) Y Y ?p3 ?p4 ?p5 ?p6 ?p7)
    case p1=>exact f.alloc _
    case p3=>exact eF.block (cs:=#[.int .u8 r]) (bM Y) (Qv [r])
    case p4=>omega
    case p5=>simp only[maxLen];omega
    case p6=>have:=ba c;simp;omega
    case p7=>
     (intro e5 v z u _;obtain⟨d3,d5,rfl,-,-⟩:=bB z;rw[<-Pw] at z;have n:=h.push c f z u;have d7:d<v.heap.size:=by have:=u.size;have:=ba c;simp at*;omega);have d4:v.cell? (H d 0)=S (.slice W w.length X):=by
      have:=(bq u).aB (aC c _) (λt=>by have:=(nh f t).1;omega);exact aj this 0
     have e6:v.frozen? (H d 0)=δ:=by
      have:=(bq u).aB (aC c _) (λt=>by have:=(nh f t).1;omega);exact aG this 0
     gi_wp2;exact⟨n.2.1,by rw[n.2.2 _ _ P,P],by have R:=n.1;have e:w++[r]=encI a.length++lW (a.take b)++(p++[r]):=(by rw[HL.1];simp);rw[e] at R;exact R⟩
   case done=>
    intro i o G h x;have d1:=(mu.2 ⟨λe=>by have:=b1 i e;omega,HN.1⟩);have n:(PS g d (i::k) o (encI a.length++lW (a.take (b+1)))):=(by
     rw[d0.1,<-dm];exact⟨h.row,h.lo,h.fr,λc8 a2=>by
      rcases cK.1 a2 with rfl|a2
      .exact⟨O,x⟩
      exact h.ms c8 a2⟩)
    go_wp2_with fail;refine⟨gk-1,O,b+1,i::k,_,_,_,_,_,_,_,_,_,_,_,_,_,_,O,Y,c9,d1,n⟩
  have a4:b=a.length:=O;have V:N (mg a=0/\TP (encI a.length++lW (a.take b))=mH a):=Z (by
   have c:=a3;rw[a4,oz] at c;have f:=VL O c;refine⟨f.1,?_⟩;rw[f.2,a4,oz,Lp,Ff,Cs])
  obtain⟨w,y⟩:=M (encI a.length++lW (a.take b));have U:=PW.1;have a1:=V.1;rw[<-y] at U a1;obtain⟨c6,c,f⟩:=U.row;obtain⟨W,X,rfl,-,-⟩:=bB f;have a9:=bx c;have c7:=aG c 0;have a:=Yv Y f;have⟨V,PW⟩:=bD a1 U;clear c f a4 y U a1;go_wp2;refine eP (v:=.tuple #[.string {data:=(TP w).toArray},aI]) (w0:=g) k m HN.1 PW.1.ms PW.1.fr (λ_=>by simp[results,results131,go_sem]) (λm F=>PT.ok V.1.1 (by rw[V.1.2]) F)
theorem Bt(e:ζ)(a:L T)(b:ε)(g:Sl 3 1 CI b e a):aQ 131 #[e] b (PT a b):=by
 obtain⟨c,f,i,d,rfl,k,l,h⟩:=g;by_cases e:100000<a.length
 .exact SU c d a b e
 exact RI c f i d a b h e
end Pak
theorem aco{q c:E}{b:θ ζ}(d:aY W q b t)(f:b[c]? =S (I i1))(g:b[c+1]? =S (I i2))(h:b[c+2]? =S (I i3))(i:b[c+3]? =S (I i4)):
  eF W (S (H q c)) ([i1,i2,i3,i4].map cW).flatten:=by
 refine⟨.inr ⟨_,Y,λe b a=> ?_⟩,by simp[cW,ζ.oneCell']⟩;rw[eV]
 match e,a with
 |0,a=>simp[cW] at a;subst a;exact(aj d _).trans f
 |1,a=>simp[cW] at a;subst a;exact(aj d _).trans g
 |2,a=>simp[cW] at a;subst a;exact(aj d _).trans h
 |3,a=>simp[cW] at a;subst a;exact(aj d _).trans i
 |e+4,a=>simp[cW] at a
theorem PW.fin(d:PW W m e [] V):∃a c b,aY V m #[.slice a c b] 272/\Sl 3 1 CI V (.slice a c b) e:=by
 obtain⟨i,d,a,⟨b,c,h,f,g⟩,-,-⟩:=d;rw[lh] at a;subst a;exact⟨b,_,c,f,g.read⟩
theorem Bt(a d p)(b0:lv p a d)(b9:StC d)(b8:(zP (dB a d)).length<10000000000000):
  aQ 82 #[.agg (ei a)] p λe b7=>∃b a1,e=.returned (.tuple #[.string b,I a1])/\(a1=0->Pak.mg (zP (dB a d))=0/\b.data.toList=Pak.mH (zP (dB a d)))/\Fr j p b7:=by
 have HT:=Z b8
 delta aQ;go_in
 go_upto_region 1 with fail;refine Zv p ?_;intro b8 a1 f8 b7;have a2:=cY a1;have b5:=yY a1 b7;clear a1 b7;go_wp2_with (first|(refine bU Y 66 (.tmp 1) Y Y (b5.1 b8 rF) underlying66 Y gy ?_)|(go_at_call 81;refine stop ?_));refine sg (uL a d b8 (b0.fr a2) b9) ?_;rintro e k ⟨⟨e9,rfl⟩,b6⟩;have a5:=(a2.step b6);have i:(∀a1,Fr j k a1->aY a1 f8 (ei a) 66):=(λa1 a2=>b5.1 a1 (b6.step a2));cases e9
 .go_wp2
  go_ret2;exact⟨_,_,Y,(λe=>by cases e),a5⟩
 have C:=(b0.fr a5);obtain⟨n,a1⟩:=M (zP (dB a d));rw[<-a1] at HT;have e8:=Z a1;go_upto_region 4 with fail;refine Zv k ?_;intro a2 b5 o b6;have b0:N (PW k o n (zP (dB a d)) a2):=Z ⟨HT.1,[],a1.symm,⟨η,0,[],by rw[b5];exact bM b6,qG⟩,O,by rw[b5];exact cZ⟩;clear b5 b6;obtain⟨b6,G,b8,b7,e9,c8,HN,b9,d5⟩:=Bc i (i:=0) Y (show Sl 77 3 CT k (.slice a.ah a.hN a.ch) d.h from by obtain⟨f8,e,b5⟩:=C.hh;simp at e;rw[e];exact b5);obtain⟨b5,D,b7,b6,b9,ra,a6,b8,d4⟩:=Bc i (i:=2) Y C.fs;obtain⟨b5,K,b7,b6,b9,c9,LN,b8,d6⟩:=Bc i (i:=12) Y C.wl;obtain⟨b5,P,b7,b6,b9,d0,a7,b8,SM⟩:=Bc i (i:=13) Y C.pa;obtain⟨RE,b9⟩:=M (a.l::([a.e0,a.e1,a.e2,a.e3]++([a.s0,a.s1,a.s2,a.s3]++(a.pk::a.sa::a.vu::(fh d.ord++mJ d.tree)))));obtain⟨a9,b8⟩:=M (eL Hl d.path++RE);obtain⟨d2,b7⟩:=M (a.sd::a.si::a.wd::(eB a.cut++(fh d.wp++(eL fh d.wl++a9))));obtain⟨RB,b6⟩:=M (eB a.g0++(eB a.g1++(eB a.g2++(eB a.g3++d2))));obtain⟨Q,b5⟩:=M (a.eY::(eL Gb d.fs++RB));have b0:(PW k o n (eHs d.h++Q) a2):=(by rw[b5,b6,b7,b8,b9];have:=b0.1;simpa[zP,dB] using this);have⟨e3,e4,e5,e6,e7⟩:=va b5 b6 b7 b8 b9;clear b5 b6 b7 b8 b9;have b5:(PW k o n ([(G:T)]++((d.h.drop 0).flatMap Cc++Q)) a2):=(by rw[HN.1];exact b0);clear a1;have f2:=c8.1 a2 b5.fr;go_wp2_with fail;refine sg (yc [(G:T)] (b5.keep cZ) Y (bM Y) sI) ?_;rintro e f9 ⟨rfl,b,f⟩;have d3:=Z b;have f2:=c8.1 f9 d3.1.fr;go_wp2_with fail;go_loopg [33] G (λgk b wr=>∃c:E,c+gk=G/\b=I c/\PW k o n ((d.h.drop c).flatMap Cc++Q) wr)
 .exact⟨0,du,Y,d3.1⟩
 case round=>
  obtain⟨c,V,rfl,m⟩:=hrel;have⟨HK,l⟩:=bD V m;have c2:c<=G:=O;by_cases c3:c<G
  .obtain⟨h,s⟩:=gE d.h c fU
   obtain rfl:=d5.1.addr s;obtain⟨a2,a1,r,u,z,hw,f7⟩:=d5.1.tn s;replace r:=l.1.fr.aF r id;replace u:=l.1.fr.aF u id;replace z:=l.1.fr.aF z id;have g:N (PW k o n ([h.s]++(fh h.w++([(h.r.length:T)]++(h.r.flatMap Nh++((d.h.drop (c+1)).flatMap Cc++Q))))) wr):=Z (by rw[<-WX,<-CG Cc s];exact l.1);obtain⟨b1,c5,b2,-,-,rfl,-,-,-⟩:=DI hw;obtain⟨g8,W,h0,g9,h3,rfl,a8,h2,SR⟩:=DI f7;rw[<-a8.1] at g;have⟨c0,c1⟩:=dy c G;obtain⟨e0,t⟩:=M wr.heap.size;have y:=(g.1.ne t);go_upto_region 8 with fail;refine cT (λa0 v=> ?_);rw[<-t];have A:=dL v t;have X:=(g.1.keep (w':=a0) (by rw[v];exact cZ));clear v t;have d7:=bx A.1;go_wp2_with fail;refine sg (yc [h.s] (X.keep cZ) Y (bM Y) sI) ?_;rintro e e2 ⟨rfl,b,f⟩;have x:=(Wr.obj f ((aC A.1 _)) y J);have d8:=dh x;go_wp2_with fail;refine sg (Ru b hw) ?_;rintro e wc ⟨rfl,b,f⟩;have d1:=(Wr.obj f (x) y J);have d9:=iU d1;go_wp2_with fail;refine sg (yc [(W:T)] (b.keep cZ) Y (bM Y) sI) ?_;rintro e c6 ⟨rfl,b,f⟩;have G:=iU (Wr.obj f ((aC d1 _)) y J);go_wp2_with fail;obtain⟨f6,rfl⟩:=M gk;go_loopg [55] W (λgk b wr=>∃w:E,w+gk=W/\b=I w/\PW k o n ((h.r.drop w).flatMap Nh++((d.h.drop (c+1)).flatMap Cc++Q)) wr)
   .exact⟨0,du,Y,b⟩
   case round=>
    obtain⟨w,h1,rfl,m⟩:=hrel;have G:w<=W:=O;by_cases G:w<W
    .obtain⟨a4,c4⟩:=gE h.r w (oB a8.1)
     obtain rfl:=SR.1.addr c4;obtain⟨r,u⟩:=SR.1.tk c4;replace r:=m.fr.aF r id;replace u:=m.fr.aF u id;have g:(PW k o n ([a4.k,a4.f]++((h.r.drop (w+1)).flatMap Nh++((d.h.drop (c+1)).flatMap Cc++Q))) wr):=(by have:=m;rw[CG Nh c4] at this;exact this);have⟨G,Q⟩:=dy w W;go_wp2_with fail;refine sg (yc [a4.k,a4.f] (g.keep (cZ.alloc _)) Y (bM sI) sI) ?_;rintro e G ⟨rfl,b,f⟩;go_wp2;go_roundg (gk-1)
     .exact⟨w+1,O,by go_num,b⟩
     omega
    have G:h.r.length<=w:=oB a8.1;go_wp2;go_roundg (f6-1)
    .exact⟨c+1,oB HK.1,by go_num,(by have:=m;rw[xX Nh G] at this;exact this)⟩
    have:=HK.1;omega
  have F:d.h.length<=c:=oB HN.1;have g:N (PW k o n ([a.eY,(D:T)]++((d.fs.drop 0).flatMap Gb++RB)) wr):=Z (by have:=l.1;rw[xX Cc F] at this;rw[e3.1] at this;rw[a6.1];exact this);have r:=dh (i wr g.1.fr);have u:=ra.1 wr g.1.fr;go_wp2_with fail;refine sg (yc [a.eY,(D:T)] (g.1.keep cZ) Y (bM Y) sI) ?_;rintro e g0 ⟨rfl,b,f⟩;have u:=ra.1 g0 b.fr;go_wp2_with fail;go_wp2;go_loopg [79] D (λgk b wr=>∃c:E,c+gk=D/\b=I c/\PW k o n ((d.fs.drop c).flatMap Gb++RB) wr)
  .exact⟨0,du,Y,b⟩
  case round=>
   obtain⟨c,V,rfl,m⟩:=hrel;have⟨HK,l⟩:=bD V m;have c2:c<=D:=O;by_cases c3:c<D
   .obtain⟨h,s⟩:=gE d.fs c (oB a6.1)
    obtain rfl:=d4.1.addr s;obtain⟨e1,r,u,z,R,U,b3,b4,B⟩:=d4.1.fc s;replace r:=l.1.fr.aF r id;replace u:=l.1.fr.aF u id;replace z:=l.1.fr.aF z id;replace R:=l.1.fr.aF R id;replace U:=l.1.fr.aF U id;replace b3:=l.1.fr.aF b3 id;replace b4:=l.1.fr.aF b4 id;have g:(PW k o n (yV h.c++([h.kind,h.i,h.j]++(fh h.cy++((d.fs.drop (c+1)).flatMap Gb++RB)))) wr):=(by rw[<-Ll,<-CG Gb s];exact l.1);obtain⟨b1,c5,b2,-,-,rfl,-,-,-⟩:=DI B;have⟨c0,c1⟩:=dy c D;obtain⟨e0,t⟩:=M wr.heap.size;have y:=(g.ne t);go_upto_region 21 with fail;refine cT (λa0 v=> ?_);rw[<-t];have A:=dL v t;have X:=(g.keep (w':=a0) (by rw[v];exact cZ));clear v t;obtain⟨d7,d8,d9,-⟩:=mD A.1;go_wp2_with fail;refine sg (Kv (c:=h.c) X) ?_;rintro e e2 ⟨rfl,b,f⟩;have x:=(Wr.obj f (A.1) y J);have f0:=iT x;have f1:=xW x;have w:=BY x;go_wp2_with fail;refine sg (yc [h.kind,h.i,h.j] (b.keep cZ) Y (bM Y) sI) ?_;rintro e wc ⟨rfl,b,f⟩;have w:=Bl (Wr.obj f ((aC x _)) y J);go_wp2_with fail;refine sg (Ru b B) ?_;rintro e c6 ⟨rfl,b,f⟩;go_wp2;go_roundg (gk-1)
    .exact⟨c+1,oB HK.1,by go_num,b⟩
    have:=HK.1;omega
   (have F:d.fs.length<=c:=oB a6.1;have g:N (PW k o n (eB a.g0++(eB a.g1++(eB a.g2++(eB a.g3++d2)))) wr):=Z (by have:=l.1;rw[xX Gb F] at this;rw[e4.1] at this;exact this);have w:∀p:ε,(Instr.index 56 (.agg #[.bool a.g0,.bool a.g1,.bool a.g2,.bool a.g3]) aI).run prog p=.ok (.bool a.g0) p:=λ_=>by kernel_rfl);(have w:∀p:ε,(Instr.index 56 (.agg #[.bool a.g0,.bool a.g1,.bool a.g2,.bool a.g3]) (I 1)).run prog p=.ok (.bool a.g1) p:=λ_=>by kernel_rfl);(have w:∀p:ε,(Instr.index 56 (.agg #[.bool a.g0,.bool a.g1,.bool a.g2,.bool a.g3]) (I 2)).run prog p=.ok (.bool a.g2) p:=λ_=>by kernel_rfl);(have w:∀p:ε,(Instr.index 56 (.agg #[.bool a.g0,.bool a.g1,.bool a.g2,.bool a.g3]) (I 3)).run prog p=.ok (.bool a.g3) p:=λ_=>by kernel_rfl);have z:=iT (i wr g.1.fr);have R:=xW (i wr g.1.fr);have U:=BY (i wr g.1.fr);have b3:=Bl (i wr g.1.fr);go_wp2_with fail;refine eE 5 ?_;rw[bN];go_wp2_with fail;refine sg (zY (b:=a.g0) g.1) ?_;rintro e p ⟨rfl,b,f⟩;go_wp2;rw[bN];go_wp2_with fail;refine sg (zY (b:=a.g1) b) ?_;rintro e p ⟨rfl,b,f⟩;go_wp2;rw[bN];go_wp2_with fail;refine sg (zY (b:=a.g2) b) ?_;rintro e p ⟨rfl,b,f⟩;go_wp2;rw[bN];go_wp2_with fail;refine sg (zY (b:=a.g3) b) ?_;rintro e a3 ⟨rfl,b,f⟩;go_wp2_with fail;have p:(PW k o n ([a.sd,a.si,a.wd]++(eB a.cut++(fh d.wp++([(K:T)]++((d.wl.drop 0).flatMap fh++a9))))) a3):=(by have:=b;rw[e5.1] at this;rw[LN.1];exact this);rw[bN];have b4:=Ep (i a3 p.fr);have w:=Tg (i a3 p.fr);have w:=oc9 (i a3 p.fr);go_wp2_with fail;refine sg (yc [a.sd,a.si,a.wd] (p.keep cZ) Y (bM Y) sI) ?_;rintro e g1 ⟨rfl,b,f⟩;have p:=IS (i g1 b.fr);go_wp2_with fail;refine sg (zY b) ?_;rintro e g2 ⟨rfl,b,f⟩;have p:=acP (i g2 b.fr);go_wp2_with fail;refine sg (Ru b C.wp) ?_;rintro e g3 ⟨rfl,b,f⟩;have f3:=c9.1 g3 b.fr;go_wp2_with fail;refine sg (yc [(K:T)] (b.keep cZ) Y (bM Y) sI) ?_;rintro e g4 ⟨rfl,b,f⟩;have f3:=c9.1 g4 b.fr;go_wp2_with fail;go_wp2;go_loopg [143] K (λgk b wr=>∃c:E,c+gk=K/\b=I c/\PW k o n ((d.wl.drop c).flatMap fh++a9) wr)
   .exact⟨0,du,Y,b⟩
   case round=>
    obtain⟨c,V,rfl,m⟩:=hrel;have⟨HK,l⟩:=bD V m;have c2:c<=K:=O;by_cases c3:c<K
    .obtain⟨h,s⟩:=gE d.wl c oLN
     obtain rfl:=d6.1.addr s;obtain⟨e1,r,B⟩:=d6.1.rw s;replace r:=l.1.fr.aF r id;obtain⟨b1,c5,b2,-,-,rfl,-,-,-⟩:=DI B;have⟨c0,c1⟩:=dy c K;go_wp2_with fail;refine sg (Ru (by rw[<-CG fh s];exact l.1) B) ?_;rintro e c6 ⟨rfl,b,f⟩;go_wp2;go_roundg (gk-1)
     .exact⟨c+1,oB HK.1,by go_num,b⟩
     have:=HK.1;omega
    have F:d.wl.length<=c:=oB LN.1;have g:N (PW k o n ([(P:T)]++((d.path.drop 0).flatMap Hl++RE)) wr):=Z (by have:=l.1;rw[xX fh F] at this;rw[e6.1] at this;rw[a7.1];exact this);have f4:=d0.1 wr g.1.fr;go_wp2_with fail;refine sg (yc [(P:T)] (g.1.keep cZ) Y (bM Y) sI) ?_;rintro e g5 ⟨rfl,b,f⟩;have f4:=d0.1 g5 b.fr;go_wp2_with fail;go_wp2;go_loopg [160] P (λgk b wr=>∃c:E,c+gk=P/\b=I c/\PW k o n ((d.path.drop c).flatMap Hl++RE) wr)
    .exact⟨0,du,Y,b⟩
    case round=>
     obtain⟨c,V,rfl,m⟩:=hrel;have c2:c<=P:=O;by_cases c3:c<P
     .obtain⟨h,s⟩:=gE d.path c (oB a7.1)
      obtain rfl:=SM.1.addr s;obtain⟨e1,r,u,z,R,U,B⟩:=SM.1.mk s;replace r:=m.fr.aF r id;replace u:=m.fr.aF u id;replace z:=m.fr.aF z id;replace R:=m.fr.aF R id;replace U:=m.fr.aF U id;have g:(PW k o n (yV h.c++(eB h.rt++(mJ h.dn++((d.path.drop (c+1)).flatMap Hl++RE)))) wr):=(by rw[<-Ld,<-CG Hl s];exact m);obtain⟨b1,c5,b2,-,-,rfl,-,-,-⟩:=DI B;have⟨c0,c1⟩:=dy c P;obtain⟨e0,t⟩:=M wr.heap.size;have y:=(g.ne t);go_upto_region 43 with fail;refine cT (λa0 v=> ?_);rw[<-t];have A:=dL v t;have X:=(g.keep (w':=a0) (by rw[v];exact cZ));clear v t;obtain⟨d7,d8,d9,-⟩:=mD A.1;go_wp2_with fail;refine sg (Kv (c:=h.c) X) ?_;rintro e e2 ⟨rfl,b,f⟩;have x:=(Wr.obj f (A.1) y J);have f0:=iT x;go_wp2_with fail;refine sg (zY b) ?_;rintro e wc ⟨rfl,b,f⟩;have f1:=xW (Wr.obj f (x) y J);go_wp2_with fail;refine sg (ZI b B) ?_;rintro e c6 ⟨rfl,b,f⟩;go_wp2;go_roundg (gk-1)
      .exact⟨c+1,O,by go_num,b⟩
      omega
     have F:d.path.length<=c:=oB a7.1;have g:(PW k o n ([a.l]++([a.e0,a.e1,a.e2,a.e3]++([a.s0,a.s1,a.s2,a.s3]++([a.pk,a.sa,a.vu]++(fh d.ord++(mJ d.tree++[])))))) wr):=(by have:=m;rw[xX Hl F] at this;rw[e7.1] at this;rw[lh];exact this);have c:=XR (i wr g.fr);go_wp2_with fail;refine sg (yc [a.l] (g.keep cZ) Y (bM Y) sI) ?_;rintro e c ⟨rfl,b,f⟩;go_wp2_with fail;refine sg (aaQ [a.e0,a.e1,a.e2,a.e3] b Y (aco (i _ b.fr) Y Y Y Y)) ?_;rintro e c ⟨rfl,b,f⟩;go_wp2_with fail;refine sg (aaQ [a.s0,a.s1,a.s2,a.s3] b Y (aco (i _ b.fr) Y Y Y Y)) ?_;rintro e c7 ⟨rfl,b,f⟩;have c:=Wv (i c7 b.fr);have c:=Sb (i c7 b.fr);have c:=ace (i c7 b.fr);go_wp2_with fail;refine sg (yc [a.pk,a.sa,a.vu] (b.keep cZ) Y (bM Y) sI) ?_;rintro e g6 ⟨rfl,b,f⟩;have a:=Ot (i g6 b.fr);go_wp2_with fail;refine sg (Ru b C.od) ?_;rintro e g7 ⟨rfl,b,f⟩;have a:=PD (i g7 b.fr);go_wp2_with fail;refine sg (ZI b C.tr) ?_;rintro e a ⟨rfl,b,f⟩;obtain⟨d,g,f,c,a⟩:=b.fin;have d:=bx c;go_wp2_with fail;refine sg (Pak.Bt _ _ _ a) ?_;rintro e a ⟨rfl,f5⟩;go_wp2;go_ret2;refine⟨_,_,Y,λa=> ?_,((a5.step b.fr).step f5)⟩;rw[<-e8.1];exact⟨a,Y⟩
abbrev Ks(b:iS)(a:ν):θ ζ:=(ei b).push (.string a)
theorem JO(a:iS)(b:ν)(c:(ei a).toList[m]? =S x):(Ks a b)[m]? =S x:=by
 obtain⟨c,b⟩:=cj.1 c;have a:m<(ei a).size:=sU c;rw[θ.getElem?_push_lt a];simpa using b
theorem Km(d b:iS)(c:ν):oW (Ks d c) 0 (ei b).toList=Ks b c:=by
 apply kF;intro a;have f:(ei b).toList.length=28:=Y;have c:(Ks d c).size=29:=Y;rw[nI _ _ _ _ O];by_cases c:a<28
 .rw[aS O,E.sub_zero]
  rw[θ.getElem?_push_lt (show a<(ei b).size from c)];simp
 rw[aR O];by_cases e:a=28
 .subst e;rfl
 rw[kC O,kC (by show 29<=a;omega)]
section
variable {ops:θ Oper} {rest:L Oper} {o:Oper} {a:Act} {w:ε} {Q:Exit->Act->ε->Prop} {r:E} {x y:iS} {S:ν}
theorem sB(e:o.guard=η)(b:Operand)(f:o.op=.load 66 b)(g:a.eval b=aP r 0)(d:aY w r (Ks x S) 68)(c:wpList prog ops Q rest (a.put o.dst (.agg (ei x))) w):wpList prog ops Q (o::rest) a w:=
 wpList_load_mid e 66 b f r 0 g (ei x).toList _ (λe f b=>by rw[de];exact(aj d e).trans (JO x S b)) underlying66 Y gy c
theorem qE(g:o.guard=η)(c d:Operand)(h:o.op=.store 66 c d)(i:a.eval c=aP r 0)(k:a.eval d=.agg (ei y))(e:aY w r (Ks x S) 68)
  (f:∀b,aY b r (Ks y S) 68->bT r w b->wpList prog ops Q rest (a.put o.dst undef) b):wpList prog ops Q (o::rest) a w:=by
 refine wpList_store_mid g 66 c d h r 0 (ei y) i k (pS e (by show 28<=29;omega)) gy (kj y) ?_;obtain⟨b,c⟩:=ig (ei y).toList 0 w _ e;rw[Km] at b;exact f _ b c
end
def kS(d:Hs)(f:T)(g e:E)(c:κ)(a:RS)(b:ε):Prop:=
 vg d f g a/\a.idle<1000000000/\if c then ∃d c,aY b e (Ks d c) 68/\c.data.toList=Pak.mH (zP a)/\Pak.mg (zP a)=0 else ∃c d,aY b e (Ks c ⟨#[]⟩) 68/\lv b c d/\dB c d=a
theorem Iu(a:Pak.mg e=0)(c:S2.data.toList=Pak.mH e):S2.toList.isEmpty=δ:=by
 rw[lO,c,(Pak.Ae a).2.2]
 have:=Pak.Ze e.length;cases b:Pak.jL e.length with
 |nil=>exact absurd b this
 |cons _ _=>rfl
theorem lv.Ug{d:LS}{q:E}{e:θ ζ}(c:lv W x3 d)(a:bT q W V)(b:aY W q e 68):lv V x3 d:=
 ⟨c.hh.aJ a (λh g f e d=>e.ne ⟨_,_,d▸b⟩ (by rcases f with rfl|rfl|rfl<;>decide) Y),c.fs.past CF.aJ a b J (by unfold fS;decide),c.wp.past iA a b J id,c.wl.past CR.aJ a b J (by unfold fS;decide),c.pa.past MC.aJ a b J (by unfold AF;decide),c.od.past iA a b J id,c.tr.past NC.aJ a b J (by unfold fS;decide)⟩
def acW(f:Hs)(g:T)(i c:E)(l e:κ)(h:RS)(k:ε)(d:Ending)(b:ε):Prop:=∃a,d=.returned (I a)/\((a=0->kS f g i c e h b)/\(l=δ->a=0))/\bT c k b
theorem xH{i:Hs}{h:κ}{e:RS}(v:kS i i1 m q h e W)(r:m<=200000):aQ 27 #[aP q 0] W (acW i i1 m q h δ e W):=by
 obtain⟨s,u,d⟩:=v;have HI:=s;have o:=u;cases h
 .simp only[kv,iG] at d
  obtain⟨f,g,b,HM,c⟩:=d;have p:=aj b 28
  delta aQ;go_in
  go_wp2;go_ret;exact⟨0,Y,⟨λ_=>⟨HI,o,f,g,b,HM,c⟩,λ_=>Y⟩,rF⟩
 simp only[eX] at d;obtain⟨f,s,b,h,a⟩:=d;have p:=aj b 28;have d:=Iu a h
 delta aQ;go_in
 go_wp2_with fail;refine sg (TU s e HI.fit (qT HI r).2.1 (qT HI r).1 h a W) ?_;rintro c d ⟨w,k,rfl,t,l⟩;have d:=(l.hs b);go_wp2_with (refine qE Y (.tmp 18) (.tmp 15) Y Y Y d ?_;intro b a h;refine stop ?_);have p:=aj a 28;have p:=aG a 28;have n:(bT q W (b.setCell (H q 28) (.string ⟨#[]⟩))/\(k=0->kS i i1 m q δ e (b.setCell (H q 28) (.string ⟨#[]⟩)))):=(by
  have e:bT q b (b.setCell (H q 28) (.string ⟨#[]⟩)):=rF.aK _ _;refine⟨((l.mono (λ_ _ f=>f.elim)).tr h).tr e,λb=> ?_⟩;obtain⟨g,f,i⟩:=t b;exact⟨HI,o,w,g,aD a 28 (.string ⟨#[]⟩),(i.Ug h d).Ug e a,f⟩)
 refine aZ.go ?_;go_wp2;go_ret;exact⟨k,Y,⟨n.2,λc=>by cases c⟩,n.1⟩
theorem Oo{l:Hs}{f:κ}{p:RS}(w:kS l i1 m q f p W)(x:m<=200000):aQ 50 #[aP q 0] W (acW l i1 m q γ γ p W):=by
 obtain⟨i,l,e⟩:=w;have HI:=i;have h:=l;cases f with
 |true=>
  simp only[eX] at e;obtain⟨b,d,a,n,o⟩:=e;have k:=aj a 28;have f:=Iu o n
  delta aQ;go_in
  go_wp2;go_ret;exact⟨0,Y,⟨λ_=>⟨HI,h,b,d,a,n,o⟩,λ_=>Y⟩,rF⟩
 |false=>
  simp only[kv,iG] at e;obtain⟨b,f,a,HM,c⟩:=e;have k:=aj a 28;have e:(StC f/\(zP (dB b f)).length<10000000000000):=(by have:=qT (c.symm▸i) x;exact⟨this.1,this.2.2⟩)
  delta aQ;go_in
  go_wp2_with (first|(refine sB Y (.tmp 12) Y Y a ?_)|(go_at_call 82;refine stop ?_));refine sg (Bt b f W HM e.1 e.2) ?_;rintro c e ⟨d,r,rfl,v,g⟩;have e:=(g.hs a);have k:=aj e 28;have a:=aG e 28;go_wp2_with (refine qE (y:=stz) Y (.tmp 22) (.tmp 20) Y Y Y (aD e 28 (.string d)) ?_;intro a u t);go_ret;refine⟨r,Y,⟨λs=>⟨HI,h,stz,d,u,?_⟩,λc=>by cases c⟩,((g.mono (λ_ _ b=>b.elim)).tr (rF.aK _ _)).tr t⟩;obtain⟨a,b⟩:=v s;rw[<-c];exact⟨b,a⟩
theorem Nr(d:iS)(a:ι Addr)(c b:E):(ei d).setIfInBounds 2 (.slice a c b)=ei {d with af:=a,fn:=c,cf:=b}:=Y
def adp(h:Hs)(f:iS)(e:E)(i:L Fc)(g:Fc)(c:ε)(b:Ending)(a:ε):Prop:=
 b=.returned (.tuple #[])/\bT e c a/\∃b d c,aY a e (ei {f with af:=b,fn:=d,cf:=c}) 66/\Sl 276 7 CF a (.slice b d c) (Vu h f.eY i g)
theorem Jj(g:Hs)(c:iS)(f:E)(n:L Fc)(a:Fc)(c9:ζ)(C:ε)(c2:aY C f (ei c) 66)(d8:eJ C (.agg #[.slice c.ah c.hN c.ch]) g)(Q:Sl 276 7 CF C (.slice c.af c.fn c.cf) n)(c6:n.length<=1000000000000)(o:Sl 3 1 CI C c9 a.cy):
  aQ 138 #[aP f 0,Qd a c9] C (adp g c f n a C):=by
 have b5:=o;have c3:n.length<=fV:=(by unfold fV;omega);have A:N (∀b,Fr j C b->aY b f (ei c) 66):=Fr.all c2;have G:N (c.fn=n.length/\c.fn<=c.cf/\c.cf<=maxLen):=Z (by obtain⟨k,c9,e5,l,h,d5,d6,-⟩:=Q;simp only[cM] at h;obtain⟨-,c9,e5⟩:=h;exact⟨c9,O,O⟩);obtain⟨a8,e4,e6,b0,rfl,-,-,-⟩:=o;obtain⟨⟨s,p,r⟩,v,w,x,B⟩:=a;obtain⟨a9,o⟩:=M B.length;simp only[Qd,<-o] at b5 |-;clear c2 o
 delta aQ;go_in
 go_upto_region 1 with fail;refine cT (λm c2=> ?_);obtain⟨D,o⟩:=M C.heap.size;rw[<-o];have y:=cY c2;have i:=yY c2 o;clear c2 o;have b4:N (∀b,Fr j m b->dr 179 #[.agg #[.slice c.ah c.hN c.ch],I c.eY,.slice c.af c.fn c.cf,.agg #[I s,I p,I r,I v,I w,I x,.slice a8 a9 b0]] b (.bool (oZ g c.eY n ⟨⟨s,p,r⟩,v,w,x,B⟩))):=
  Z (λb a=>pH g c.eY n ⟨⟨s,p,r⟩,v,w,x,B⟩ _ _ _ b (d8.fr (y.step a)) (Q.f (y.step a)) (b5.f (y.step a)) c3)
 obtain⟨d7,o⟩:=M (oZ g c.eY n ⟨⟨s,p,r⟩,v,w,x,B⟩);rw[<-o] at b4;have b7:=Z o;clear o;cases d7
 .have a7:N (Vu g c.eY n ⟨⟨s,p,r⟩,v,w,x,B⟩=n):=Z (by unfold Vu;rw[<-b7.1];rfl)
  have V:∀o:aX m,o.w.cell? (H f 0)=S (.slice c.ah c.hN c.ch):=aX.at_ (λb a=>aj (A.1 _ (y.step a)) 0);have W:∀o:aX m,o.w.cell? (H f 1)=S (I c.eY):=aX.at_ (λb a=>aj (A.1 _ (y.step a)) 1);have X:∀o:aX m,o.w.cell? (H f 2)=S (.slice c.af c.fn c.cf):=aX.at_ (λb a=>aj (A.1 _ (y.step a)) 2);have a0:∀o:aX m,o.w.cell? (H D 0)=S (I s):=aX.at_ (λb a=>aj (i.1 _ a) 0);have a1:∀o:aX m,o.w.cell? (H D 1)=S (I p):=aX.at_ (λb a=>aj (i.1 _ a) 1);have a2:∀o:aX m,o.w.cell? (H D 2)=S (I r):=aX.at_ (λb a=>aj (i.1 _ a) 2);have a3:∀o:aX m,o.w.cell? (H D 3)=S (I v):=aX.at_ (λb a=>aj (i.1 _ a) 3);have a4:∀o:aX m,o.w.cell? (H D 4)=S (I w):=aX.at_ (λb a=>aj (i.1 _ a) 4);have a5:∀o:aX m,o.w.cell? (H D 5)=S (I x):=aX.at_ (λb a=>aj (i.1 _ a) 5);have a6:∀o:aX m,o.w.cell? (H D 6)=S (.slice a8 a9 b0):=aX.at_ (λb a=>aj (i.1 _ a) 6);refine bj kR kR ?_;repeat(go_big_quiet_step ((first|(go_at_call 179;exact aX.call _ (b4.1 _ (aX.fr _))))))
  refine wpQuiet_nil ?_;intro e2 hw;have z:=(y.step (bI hw));clear hw V W X a0 a1 a2 a3 a4 a5 a6;go_wp2;go_end0
  exact⟨Y,z.mono (by simp[j]),_,_,_,A.1 _ z,by rw[a7.1];exact Q.f z⟩
 obtain⟨b2,o⟩:=M ((fe n).contains ⟨s,p,r⟩);have b6:=Z o;clear o;have V:=λb(a:Fr j m b)=>bx (A.1 _ (y.step a));have W:=λb(a:Fr j m b)=>dh (A.1 _ (y.step a));have X:=λb(a:Fr j m b)=>iU (A.1 _ (y.step a));have a0:=λb(a:Fr j m b)=>bx (i.1 _ a);have a1:=λb(a:Fr j m b)=>dh (i.1 _ a);have a2:=λb(a:Fr j m b)=>iU (i.1 _ a);have a3:=λb(a:Fr j m b)=>iT (i.1 _ a);have a4:=λb(a:Fr j m b)=>xW (i.1 _ a);have a5:=λb(a:Fr j m b)=>BY (i.1 _ a);have a6:=λb(a:Fr j m b)=>Bl (i.1 _ a);refine eU [[],[0],[0,1],[0,1,2],[],[4],[4,5],[4,5,6],[],[8],[8,9],[8,9,10],[],[0,1,2,3,4,5,6,7,8,9,10,11,12],[0,1,2,3,4,5,6,7,8,9,10,11,12,13],[0,1,2,3,4,5,6,7,8,9,10,11,12,13,14],[0,1,2,3,4,5,6,7,8,9,10,11,12,13,14,15],[0,1,2,3,4,5,6,7,8,9,10,11,12,13,14,15,16],[0,1,2,3,4,5,6,7,8,9,10,11,12,13,14,15,16,17],[0,1,2,3,4,5,6,7,8,9,10,11,12,13,14,15,16,17,18],[0,1,2,3,4,5,6,7,8,9,10,11,12,13,14],[0,1,2,3,4,5,6,7,8,9,10,11,12,13,14,20],[0,1,2,3,4,5,6,7,8,9,10,11,12,13,14,15,16,17,18,19,20,21],[0,1,2,3,4,5,6,7,8,9,10,11,12,13,14,15,16,17,18,19,20,21,22],[0,1,2,3,4,5,6,7,8,9,10,11,12,13,14,15,16,17,18,19,20,21,22,23]] [.eq 0 (aP f 0),.eq 1 (aP f 0),.eq 2 (aP f 0),.eq 3 (.agg #[.slice c.ah c.hN c.ch]),.eq 4 (aP f 0),.eq 5 (aP f 0),.eq 6 (aP f 1),.eq 7 (I c.eY),.eq 8 (aP f 0),.eq 9 (aP f 0),.eq 10 (aP f 2),.eq 11 (.slice c.af c.fn c.cf),.eq 12 (.agg #[I s,I p,I r,I v,I w,I x,.slice a8 a9 b0]),.eq 13 (.bool γ),.eq 14 (.bool γ),.eq 15 (aP f 0),.eq 16 (aP f 0),.eq 17 (aP f 2),.eq 18 (.slice c.af c.fn c.cf),.sl EN 19 144 3 c.fn (fe n),.eq 20 (aP D 0),.eq 21 (.agg #[I s,I p,I r]),.eq 22 (.bool b2),.eq 23 (.bool (!b2)),.eq 24 (.bool (!b2))] [[0],[1],[2],[3],[4],[5],[6],[7],[8],[9],[10],[11],[12],[13],[14],[15],[16],[17],[18],[19],[20],[21],[22],[23],[24]] kR kR Y (λ_ _ _ _ h g=>⟨h.symm.trans g.1,g.2⟩) (λe3=> ?_);refine⟨?_,?_,?_,?_,?_,?_,?_,?_,?_,?_,?_,?_,?_,?_,?_,?_,?_,?_,?_,?_,?_,?_,?_,?_,?_,?_⟩;any_goals(first|(intro b t d K e;simp only[rX,ξ] at d e |-;(try simp only[d] at e);go_simp;exact e _ _ rF Y)|fail)
 .intro b t d K e
  simp only[rX,ξ] at d e |-;try simp only[d] at e
  go_simp;go_at_call 179;refine(b4.1 b t).mono ?_;rintro h b8 ⟨rfl,a⟩;exact e _ _ a Y
 .intro b t d K e
  simp only[rX,ξ] at d e |-;try simp only[d] at e
  go_simp;go_at_call 121;refine(eQ n _ b (Q.f (y.step t)) c3).mono ?_;rintro h b8 ⟨U,d3,rfl,c0,a⟩;obtain⟨k,l,rfl,b3⟩:=c0.read.oH (m:=c.fn) (by rw[G.1.1];simp[fe]);exact e _ _ a ⟨_,_,Y,b3⟩
 .intro b t d K e
  have o:=d 1 J;have m:=d 19 J;simp only[rX,ξ] at o m d e |-;try simp only[d] at e
  obtain⟨k,l,o,-,-,D⟩:=m;simp only[o] at e;go_simp;go_at_call 180;refine(kP _ (fe n) ⟨s,p,r⟩ b D).mono ?_;rintro h b8 ⟨rfl,a⟩;exact e _ _ a (by rw[b6.1])
 intro b z d;have m:=d 24 J J;simp only[rX,ξ] at m;clear d;simp only[Act.put,rC];rw[m];clear m;cases b2 with
 |true=>
  have a7:N (Vu g c.eY n ⟨⟨s,p,r⟩,v,w,x,B⟩=n):=Z (by unfold Vu;rw[<-b7.1,<-b6.1];rfl);clear V W X a0 a1 a2 a3 a4 a5 a6;go_wp2;go_end0
  have b9:=y.step z;exact⟨Y,b9.mono (by simp[j]),_,_,_,A.1 _ b9,by rw[a7.1];exact Q.f b9⟩
 |false=>
  have a7:N (Vu g c.eY n ⟨⟨s,p,r⟩,v,w,x,B⟩=n++[⟨⟨s,p,r⟩,v,w,x,B⟩]):=Z (by unfold Vu;rw[<-b7.1,<-b6.1];rfl);clear V W X a0 a1 a2 a3 a4 a5 a6;have P:=(y.step z);have V:=λm(a:Fr j b m)=>bx (A.1 _ (P.step a));have W:=λm(a:Fr j b m)=>dh (A.1 _ (P.step a));have X:=λm(a:Fr j b m)=>iU (A.1 _ (P.step a));have a0:=λm(a:Fr j b m)=>bx (i.1 _ (z.step a));have a1:=λm(a:Fr j b m)=>dh (i.1 _ (z.step a));have a2:=λm(a:Fr j b m)=>iU (i.1 _ (z.step a));have a3:=λm(a:Fr j b m)=>iT (i.1 _ (z.step a));have a4:=λm(a:Fr j b m)=>xW (i.1 _ (z.step a));have a5:=λm(a:Fr j b m)=>BY (i.1 _ (z.step a));have a6:=λm(a:Fr j b m)=>Bl (i.1 _ (z.step a));obtain⟨e2,e1⟩:=M b;subst e1;go_wp2_with fail;refine gQ [11] [0,1,2,3,4,5,6,7,8,9,10,11] (λix=>[(f,66)]) ([(f,66)]) [[],[],[1],[1,2],[1,2,3],[1,2,3,4],[],[6],[1,2,3,4,5,6,7],[0],[0,9],[0,1,2,3,4,5,6,7,8,9,10]] [.eq 0 (aP f 0),.eq 1 (aP f 0),.eq 2 (aP f 0),.eq 3 (aP f 2),.eq 4 (.slice c.af c.fn c.cf),.eq 5 (.slice c.af c.fn c.fn),.eq 6 (.agg #[I s,I p,I r,I v,I w,I x,.slice a8 a9 b0]),.w1 7 (λU b=>∃F,U=.slice (S (H F 0)) 1 1/\aY b F #[I s,I p,I r,I v,I w,I x,.slice a8 a9 b0] 276),.w1 8 (λU b=>∃k u l,U=.slice k u l/\Sl 276 7 CF b (.slice k u l) (n++[⟨⟨s,p,r⟩,v,w,x,B⟩])),.eq 9 (aP f 0),.eq 10 (aP f 2),.w1 8 (λU b=>∃k u l,U=.slice k u l/\Sl 276 7 CF b (.slice k u l) (n++[⟨⟨s,p,r⟩,v,w,x,B⟩])/\aY b f (ei {c with af:=k,fn:=u,cf:=l}) 66)] [[0],[1],[2],[3],[4],[5],[6],[7],[8],[9],[10],[8]] kR kR kR Y (λ_ _ _ _ h g=>⟨h.symm.trans g.1,g.2⟩) sI ?hstab ?hstabM (λe3=> ?_)
  case hstab=>refine⟨?_,?_,?_,?_,?_,?_,?_,?_,?_,?_,?_,?_,trivial⟩<;>first|exact Lu|exact λ_ _ _ ⟨F,h,g⟩ a=>⟨F,h,a.hs g⟩|exact λ_ _ _ ⟨k,u,l,h,g⟩ a=>⟨k,u,l,h,g.f a⟩|exact λ_ _ _ ⟨k,u,l,h,g,b3⟩ a=>⟨k,u,l,h,g.f a,a.hs b3⟩
  case hstabM=>
   intro c8 c7;simp only[rB] at c7;subst c7;all_goals(refine⟨?_,?_,?_,?_,?_,?_,?_,?_,?_,?_,?_,?_,trivial⟩<;>first|exact wZ|exact λ_ _ _ _ _ ⟨F,h,g⟩ R=>⟨F,h,R.acw g sI⟩|exact λ_ _ _ _ _ ⟨k,u,l,h,g⟩ R=>⟨k,u,l,h,R.sl g CF.aJ (by simp[fS])⟩)
  refine⟨?_,?_,?_,?_,?_,?_,?_,?_,?_,?_,?_,?_,?_⟩;all_goals first|exact Ca|skip
  .intro b t d K e
   simp only[rX,ξ] at t d e |-;(try simp only[d] at e);go_simp;go_at_call 181;refine(abd _ _ _ b G.1.2.1 G.1.2.2).mono ?_;rintro h b8 ⟨rfl,rfl⟩;exact e _ _ rF Y
  .intro b t d K e
   simp only[rX,ξ] at t d e |-;(try simp only[d] at e);go_simp;exact e _ _ cZ ⟨_,Y,bM Y⟩
  .intro b t d K e
   have c5:=d 5 J;have g:=d 7 J;simp only[rX,ξ] at t c5 g d e |-;obtain⟨F,d4,i⟩:=g;obtain⟨g,h,d9⟩:=(eF.block i oC).1.resolve_left sI;obtain rfl:=cI h;have b1:=P.step t;rw[aS (by first|rfl|go_simp)];refine pK fX (.tmp 34) (.tmp 36) fX Sz c.fn G.1.1.symm c5 (Q.f b1).clip CF.aJ (⟨⟨s,p,r⟩,v,w,x,B⟩:Fc) d4 Y d9 oC (λd0 a=>⟨_,Y,b5.f (b1.step a)⟩) (gX c6 G.1.1) (by have:=c6;have:=G.1.1;simp only[maxLen];omega) ?_;intro g h d0 d3 c0 a d5 d6;exact e _ _ a ⟨_,_,_,Y,by have:=c0.read;simpa[G.1.1] using this⟩
  .intro b t d K e
   have a:=d 8 J;simp only[rX,ξ] at t a d e |-;(try simp only[d] at e);obtain⟨k,u,l,c4,e0⟩:=a;have a:=A.1 _ (P.step t);have g:=λc8=>aG a c8;simp only[c4] at e;go_simp;have c1:=aD a 2 (.slice k u l);rw[Nr] at c1;have R:TQ [(f,66)] b (b.setCell (H f 2) (.slice k u l)):=TQ.one sI a (rF.aK _ _) c1 Y;exact e undef _ R ⟨k,u,l,Y,R.sl e0 CF.aJ (by simp[fS]),c1⟩
  intro b t d;have a:=d 11 J J;simp only[rX,ξ] at a;clear d;simp only[Act.put,rC];obtain⟨k,u,l,c4,d1,d⟩:=a;have d2:=Z d;have b1:bT f C b:=((P).trans t.1 (λ_ _ c=>c.elim) (λb3 b ⟨c,a,_⟩=>by simpa using cH Prod.fst (cX.1 a)));clear t d V W X a0 a1 a2 a3 a4 a5 a6;go_wp2;go_end0
  exact⟨Y,b1,k,u,l,d2.1,by rw[a7.1];exact d1⟩
theorem vH(b e f g h s0 s1 s2 s3 c:T)(d:ε)(m:vq b e f g h s0 s1 s2 s3=γ):
  (aQ 83 #[pv b e f g h s0 s1 s2 s3,aI,I c] d λk i=>(∃a:T,k=.returned (I a)/\0<=a/\a<=max 0 c/\a<=max 0 b/\a<=max 0 e/\a=max 0 (min c (min b e)))/\Fr j d i)/\
  (aQ 83 #[pv b e f g h s0 s1 s2 s3,I 1,I c] d λk i=>(∃a:T,k=.returned (I a)/\0<=a/\a<=max 0 c/\a<=max 0 b/\a<=max 0 f/\a=max 0 (min c (min b f)))/\Fr j d i)/\
  (aQ 83 #[pv b e f g h s0 s1 s2 s3,I 2,I c] d λk i=>(∃a:T,k=.returned (I a)/\0<=a/\a<=max 0 c/\a<=max 0 b/\a<=max 0 g/\a=max 0 (min c (min b g)))/\Fr j d i)/\
  (aQ 83 #[pv b e f g h s0 s1 s2 s3,I 3,I c] d λk i=>(∃a:T,k=.returned (I a)/\0<=a/\a<=max 0 c/\a<=max 0 b/\a<=max 0 h/\a=max 0 (min c (min b h)))/\Fr j d i):=by
 refine⟨(λ(a:eZ 0)=> ?_) (.of 0),(λ(a:eZ 1)=> ?_) (.of 1),(λ(a:eZ 2)=> ?_) (.of 2),(λ(a:eZ 3)=> ?_) (.of 3)⟩;all_goals
  have p:=Z m;unfold pv
  delta aQ;go_in
  go_wp2_with fail;refine aZ.nm (λr i=> ?_);obtain⟨d,c⟩:=M d.heap.size;rw[<-c];have n:=cY i;have k:=yY i c;clear i c;refine sg (jF b e f g h s0 s1 s2 s3 r) ?_;rintro b l ⟨rfl,o⟩;rw[p.1];clear m;go_wp2_with fail;first|(have b:eZ 0:=a;refine aZ.go ((iN 0 l).mono ?_))|(have b:eZ 1:=a;refine aZ.go ((iN 1 l).mono ?_))|(have b:eZ 2:=a;refine aZ.go ((iN 2 l).mono ?_))|(have b:eZ 3:=a;refine aZ.go ((iN 3 l).mono ?_))
  rintro b c ⟨rfl,m⟩;have i:=(o.step m);first|(have b:eZ 0:=a;have b:(decide ((0:T)<=0)&&decide ((0:T)<4))=γ:=by decide)|(have c:eZ 1:=a;have b:(decide ((0:T)<=1)&&decide ((1:T)<4))=γ:=by decide)|(have c:eZ 2:=a;have b:(decide ((0:T)<=2)&&decide ((2:T)<4))=γ:=by decide)|(have c:eZ 3:=a;have b:(decide ((0:T)<=3)&&decide ((3:T)<4))=γ:=by decide)
  rw[b];clear m b;go_upto_region 3 with fail;have c:=aX.cell (aj (k.1 _ i) 0);first|(have b:eZ 0:=a;have b:=aX.cell (aj (k.1 _ i) 1))|(have d:eZ 1:=a;have b:=aX.cell (aj (k.1 _ i) 2))|(have d:eZ 2:=a;have b:=aX.cell (aj (k.1 _ i) 3))|(have a:eZ 3:=a;have b:=aX.cell (aj (k.1 _ i) 4))
  refine bj kR kR ?_;repeat(go_big_quiet_step (fail))
  refine wpQuiet_nil ?_;intro d a;have m:=(bI a);clear a c b;go_wp2;all_goals
   go_ret;refine⟨⟨_,Y,?_⟩,n.step (i.step m)⟩
   (try split at*)<;>omega
theorem Ea(c b e f g s0 s1 s2 s3 d:T)(h:ε)(l:vq c b e f g s0 s1 s2 s3=γ):aQ 83 #[pv c b e f g s0 s1 s2 s3,aI,I d] h λk i=>(∃a:T,k=.returned (I a)/\0<=a/\a<=max 0 d/\a<=max 0 c/\a<=max 0 b/\a=max 0 (min d (min c b)))/\Fr j h i:=(vH c b e f g s0 s1 s2 s3 d h l).1
theorem ET(c e b f g s0 s1 s2 s3 d:T)(h:ε)(l:vq c e b f g s0 s1 s2 s3=γ):aQ 83 #[pv c e b f g s0 s1 s2 s3,I 1,I d] h λk i=>(∃a:T,k=.returned (I a)/\0<=a/\a<=max 0 d/\a<=max 0 c/\a<=max 0 b/\a=max 0 (min d (min c b)))/\Fr j h i:=(vH c e b f g s0 s1 s2 s3 d h l).2.1
theorem EU(c e f b g s0 s1 s2 s3 d:T)(h:ε)(l:vq c e f b g s0 s1 s2 s3=γ):aQ 83 #[pv c e f b g s0 s1 s2 s3,I 2,I d] h λk i=>(∃a:T,k=.returned (I a)/\0<=a/\a<=max 0 d/\a<=max 0 c/\a<=max 0 b/\a=max 0 (min d (min c b)))/\Fr j h i:=(vH c e f b g s0 s1 s2 s3 d h l).2.2.1
theorem Ex(c e f g b s0 s1 s2 s3 d:T)(h:ε)(l:vq c e f g b s0 s1 s2 s3=γ):aQ 83 #[pv c e f g b s0 s1 s2 s3,I 3,I d] h λk i=>(∃a:T,k=.returned (I a)/\0<=a/\a<=max 0 d/\a<=max 0 c/\a<=max 0 b/\a=max 0 (min d (min c b)))/\Fr j h i:=(vH c e f g b s0 s1 s2 s3 d h l).2.2.2
theorem nN:db 0:=by unfold db uc;omega
theorem mN(a:db i1)(a:1<=i1):db (i1-1):=by unfold db uc at*;omega
def aad(a:ε)(q:E)(b c d e f g h v7 i:ζ):ε:=(((((((((a.setCell (H q 0) b).setCell (H q 1) c).setCell (H q 2) d).setCell (H q 3) e).setCell (H q 4) f).setCell (H q 5) g).setCell (H q 6) h).setCell (H q 7) v7).setCell (H q 8) i)
theorem mQ{q:E}{a b c d e f g h i:ζ}(k:aY W q #[a,b,c,d,e,f,g,h,i] t)(a b c d e f g v7 h:ζ):(aad W q a b c d e f g v7 h).heap[q]? =S (.cells #[a,b,c,d,e,f,g,v7,h] t (0,0)):=by
 have:=(aD (aD (aD (aD (aD (aD (aD (aD (aD k 0 a) 1 b) 2 c) 3 d) 4 e) 5 f) 6 g) 7 v7) 8 h);simpa[aad] using this
theorem pJ(a:ε)(q:E)(b c d e f g h v7 i:ζ):bT q a (aad a q b c d e f g h v7 i):=(((((((((rF.aK 0 _).aK 1 _).aK 2 _).aK 3 _).aK 4 _).aK 5 _).aK 6 _).aK 7 _).aK 8 _)
def Mw(f:ζ):Prop:=∃e a b c d s0 s1 s2 s3,f=pv e a b c d s0 s1 s2 s3/\db e/\(db a/\db b/\db c/\db d)/\(db s0/\db s1/\db s2/\db s3)
theorem Mw.zero:Mw (.agg #[aI,aI,aI,aI,aI,aI,aI,aI,aI]):=⟨0,0,0,0,0,0,0,0,0,Y,nN,⟨nN,nN,nN,nN⟩,nN,nN,nN,nN⟩
theorem pT(b c d e f s0 s1 s2 s3:T)(h:ε):
  (aQ 137 #[pv b c d e f s0 s1 s2 s3,aI,I 1] h λk g=>(∃a i,k=.returned (.tuple #[a,I i])/\Mw a)/\Fr j h g)/\
  (aQ 137 #[pv b c d e f s0 s1 s2 s3,I 1,I 1] h λk g=>(∃a i,k=.returned (.tuple #[a,I i])/\Mw a)/\Fr j h g)/\
  (aQ 137 #[pv b c d e f s0 s1 s2 s3,I 2,I 1] h λk g=>(∃a i,k=.returned (.tuple #[a,I i])/\Mw a)/\Fr j h g)/\
  (aQ 137 #[pv b c d e f s0 s1 s2 s3,I 3,I 1] h λk g=>(∃a i,k=.returned (.tuple #[a,I i])/\Mw a)/\Fr j h g):=by
 refine⟨(λ(a:eZ 0)=> ?_) (.of 0),(λ(a:eZ 1)=> ?_) (.of 1),(λ(a:eZ 2)=> ?_) (.of 2),(λ(a:eZ 3)=> ?_) (.of 3)⟩;all_goals
  have g:(prog.info? 64).map (·.size)=S 9:=kR;have HI:=Z g;clear g;unfold pv
  delta aQ;go_in
  go_wp2_with fail;refine aZ.nm (λp i=> ?_);obtain⟨g,k⟩:=M h.heap.size;obtain⟨m,n⟩:=M (g+1);try rw[show h.heap.size+1=m by omega]
  rw[<-k];have A:=lq i;have r:N (∀l,Fr j p l->aY l g #[I b,I c,I d,I e,I f,I s0,I s1,I s2,I s3] 64):=Fr.all (by rw[i];exact aC (bM k) _);have s:N (∀l,Fr j p l->aY l m #[aI,aI,aI,aI,aI,aI,aI,aI,aI] 64):=Fr.all (by rw[i];exact bM sO);have l:N (h.heap.size<=g/\h.heap.size<=m/\g≠m):=Z O;clear i k n;refine sg (jF b c d e f s0 s1 s2 s3 p) ?_;rintro P y ⟨rfl,n⟩;obtain⟨K,i⟩:=M (vq b c d e f s0 s1 s2 s3);rw[<-i];have k:=Z i;clear i;cases K with
  |false=>
   obtain⟨i,o,t,u,v,w,x,z,B,C⟩:=Vx (s.1 _ n);go_wp2;exact aO (bZ Y _ _ _ m 64 _ (0,0) _ Y (mQ (s.1 _ n) aI aI aI aI aI aI aI aI aI) Y underlying64 tZ) Y ⟨⟨_,_,Y,Mw.zero⟩,(A.step n).keep (pJ _ _ _ _ _ _ _ _ _ _ _) (λo i=>i▸l.1.2.1)⟩
  |true=>
  have SM:=Z (vC.1 k.1.symm);go_wp2_with fail;first|(have i:eZ 0:=a;refine aZ.go ((iN 0 y).mono ?_))|(have i:eZ 1:=a;refine aZ.go ((iN 1 y).mono ?_))|(have i:eZ 2:=a;refine aZ.go ((iN 2 y).mono ?_))|(have i:eZ 3:=a;refine aZ.go ((iN 3 y).mono ?_))
  rintro y z ⟨rfl,o⟩;have C:=(n.step o);first|(have i:eZ 0:=a;have i:(decide ((0:T)<=0)&&decide ((0:T)<4))=γ:=by decide)|(have n:eZ 1:=a;have i:(decide ((0:T)<=1)&&decide ((1:T)<4))=γ:=by decide)|(have n:eZ 2:=a;have i:(decide ((0:T)<=2)&&decide ((2:T)<4))=γ:=by decide)|(have n:eZ 3:=a;have i:(decide ((0:T)<=3)&&decide ((3:T)<4))=γ:=by decide)
  rw[i];clear o i;obtain⟨i,n,o,t,u,v,w,x,y,B⟩:=Vx (r.1 _ C);go_wp2_with fail;clear i n o t u v w x y B;first|(have i:eZ 0:=a;refine aZ.go ((Ea b c d e f s0 s1 s2 s3 1 z k.1.symm).mono ?_))|(have i:eZ 1:=a;refine aZ.go ((ET b c d e f s0 s1 s2 s3 1 z k.1.symm).mono ?_))|(have i:eZ 2:=a;refine aZ.go ((EU b c d e f s0 s1 s2 s3 1 z k.1.symm).mono ?_))|(have i:eZ 3:=a;refine aZ.go ((Ex b c d e f s0 s1 s2 s3 1 z k.1.symm).mono ?_))
  rintro k n ⟨⟨B,rfl,w,D,F,G,-⟩,o⟩;have i:=(C.step o);clear o;by_cases v:B<1
  .have k:decide (B<1)=γ:=cD v
   clear w D F G v;obtain⟨k,n,o,t,u,x,y,z,C,K⟩:=Vx (s.1 _ i);go_wp2;exact aO (bZ Y _ _ _ m 64 _ (0,0) _ Y (mQ (s.1 _ i) aI aI aI aI aI aI aI aI aI) Y underlying64 tZ) Y ⟨⟨_,_,Y,Mw.zero⟩,(A.step i).keep (pJ _ _ _ _ _ _ _ _ _ _ _) (λn k=>k▸l.1.2.1)⟩
  have k:decide (B<1)=δ:=bV v;have x:db (b-1):=(mN SM.1.1 O);first|(have k:eZ 0:=a;have o:N (db (c-1)):=Z (mN SM.1.2.1.1 O))|(have k:eZ 1:=a;have o:N (db (d-1)):=Z (mN SM.1.2.1.2.1 O))|(have k:eZ 2:=a;have o:N (db (e-1)):=Z (mN SM.1.2.1.2.2.1 O))|(have k:eZ 3:=a;have o:N (db (f-1)):=Z (mN SM.1.2.1.2.2.2 O))
  have Q:b<=2147483647:=SM.1.1.2;have y:0<=b:=SM.1.1.1;first|(have k:eZ 0:=a;have k:c<=2147483647:=SM.1.2.1.1.2)|(have n:eZ 1:=a;have k:d<=2147483647:=SM.1.2.1.2.1.2)|(have n:eZ 2:=a;have k:e<=2147483647:=SM.1.2.1.2.2.1.2)|(have n:eZ 3:=a;have k:f<=2147483647:=SM.1.2.1.2.2.2.2)
  first|(have n:eZ 0:=a;have n:0<=c:=SM.1.2.1.1.1)|(have t:eZ 1:=a;have n:0<=d:=SM.1.2.1.2.1.1)|(have t:eZ 2:=a;have n:0<=e:=SM.1.2.1.2.2.1.1)|(have t:eZ 3:=a;have n:0<=f:=SM.1.2.1.2.2.2.1)
  first|(have t:eZ 0:=a;have t:s0<=2147483647:=SM.1.2.2.1.2)|(have u:eZ 1:=a;have t:s1<=2147483647:=SM.1.2.2.2.1.2)|(have u:eZ 2:=a;have t:s2<=2147483647:=SM.1.2.2.2.2.1.2)|(have u:eZ 3:=a;have t:s3<=2147483647:=SM.1.2.2.2.2.2.2)
  first|(have u:eZ 0:=a;have u:0<=s0:=SM.1.2.2.1.1)|(have z:eZ 1:=a;have u:0<=s1:=SM.1.2.2.2.1.1)|(have z:eZ 2:=a;have u:0<=s2:=SM.1.2.2.2.2.1.1)|(have z:eZ 3:=a;have u:0<=s3:=SM.1.2.2.2.2.2.1)
  clear w D F G v;obtain⟨v,w,z,B,C,D,F,G,K,P⟩:=Vx (r.1 _ i);go_wp2_with fail;clear v w z B C D F G K P Q y k n t u;refine aZ.nm (λk n=> ?_);first|(have t:eZ 0:=a;have w:N (aY k g #[I (b-1),I (c-1),I d,I e,I f,I (s0+1),I s1,I s2,I s3] 64):=Z (by rw[n];exact aD (aD (aD (r.1 _ i) 0 (I (b-1))) 1 (I (c-1))) 5 (I (s0+1))))|(have t:eZ 1:=a;have w:N (aY k g #[I (b-1),I c,I (d-1),I e,I f,I s0,I (s1+1),I s2,I s3] 64):=Z (by rw[n];exact aD (aD (aD (r.1 _ i) 0 (I (b-1))) 2 (I (d-1))) 6 (I (s1+1))))|(have t:eZ 2:=a;have w:N (aY k g #[I (b-1),I c,I d,I (e-1),I f,I s0,I s1,I (s2+1),I s3] 64):=Z (by rw[n];exact aD (aD (aD (r.1 _ i) 0 (I (b-1))) 3 (I (e-1))) 7 (I (s2+1))))|(have t:eZ 3:=a;have w:N (aY k g #[I (b-1),I c,I d,I e,I (f-1),I s0,I s1,I s2,I (s3+1)] 64):=Z (by rw[n];exact aD (aD (aD (r.1 _ i) 0 (I (b-1))) 4 (I (f-1))) 8 (I (s3+1))))
  first|(have r:eZ 0:=a;have u:N (bT g p k):=Z (by rw[n];exact(((i.mono (λ_ _ r=>r.elim)).aK 0 _).aK 1 _).aK 5 _))|(have r:eZ 1:=a;have u:N (bT g p k):=Z (by rw[n];exact(((i.mono (λ_ _ r=>r.elim)).aK 0 _).aK 2 _).aK 6 _))|(have r:eZ 2:=a;have u:N (bT g p k):=Z (by rw[n];exact(((i.mono (λ_ _ r=>r.elim)).aK 0 _).aK 3 _).aK 7 _))|(have r:eZ 3:=a;have u:N (bT g p k):=Z (by rw[n];exact(((i.mono (λ_ _ i=>i.elim)).aK 0 _).aK 4 _).aK 8 _))
  clear n;first|(have i:eZ 0:=a;refine aZ.go ((jk (s0+1) s1 s2 s3 k).mono ?_))|(have i:eZ 1:=a;refine aZ.go ((jk s0 (s1+1) s2 s3 k).mono ?_))|(have i:eZ 2:=a;refine aZ.go ((jk s0 s1 (s2+1) s3 k).mono ?_))|(have i:eZ 3:=a;refine aZ.go ((jk s0 s1 s2 (s3+1) k).mono ?_))
  rintro i D ⟨rfl,t⟩;have u:=(u.1.step t);have⟨n,s⟩:=bD (t.hs w.1) (u.aB (s.1 _ rF) l.1.2.2.symm);clear t;obtain⟨w,y,z,B,C,F,G,K,P,Q⟩:=Vx n.1;go_upto_region 9 with fail;refine cT (λk i=> ?_);have r:bT g D k:=by rw[i];exact((((Fr.refl (λp=>p=g) D).aK 5 _).aK 6 _).aK 7 _).aK 8 _
  first|(have p:eZ 0:=a;have p:N (aY k g #[I (b-1),I (c-1),I d,I e,I f,I (ee (s0+1)),I (ee s1),I (ee s2),I (ee s3)] 64):=Z (by rw[i];exact(aD (aD (aD (aD n.1 5 (I (ee (s0+1)))) 6 (I (ee s1))) 7 (I (ee s2))) 8 (I (ee s3)))))|(have t:eZ 1:=a;have p:N (aY k g #[I (b-1),I c,I (d-1),I e,I f,I (ee s0),I (ee (s1+1)),I (ee s2),I (ee s3)] 64):=Z (by rw[i];exact(aD (aD (aD (aD n.1 5 (I (ee s0))) 6 (I (ee (s1+1)))) 7 (I (ee s2))) 8 (I (ee s3)))))|(have t:eZ 2:=a;have p:N (aY k g #[I (b-1),I c,I d,I (e-1),I f,I (ee s0),I (ee s1),I (ee (s2+1)),I (ee s3)] 64):=Z (by rw[i];exact(aD (aD (aD (aD n.1 5 (I (ee s0))) 6 (I (ee s1))) 7 (I (ee (s2+1)))) 8 (I (ee s3)))))|(have t:eZ 3:=a;have p:N (aY k g #[I (b-1),I c,I d,I e,I (f-1),I (ee s0),I (ee s1),I (ee s2),I (ee (s3+1))] 64):=Z (by rw[i];exact(aD (aD (aD (aD n.1 5 (I (ee s0))) 6 (I (ee s1))) 7 (I (ee s2))) 8 (I (ee (s3+1))))))
  have t:=Z (r.aB s.1 l.1.2.2.symm);have v:Fr j h k:=((A.keep u (λh g=>g▸l.1.1)).keep r (λh g=>g▸l.1.1));clear i r w y z B C F G K P Q;obtain⟨g,h,i,k,n,p,r,s,u,w⟩:=Vx p.1;obtain⟨g,h,i,k,n,p,r,s,u,w⟩:=Vx t.1;go_wp2;first|(have g:eZ 0:=a;exact aO (bZ Y _ _ _ m 64 _ (0,0) _ Y (mQ t.1 (I (b-1)) (I (c-1)) (I d) (I e) (I f) (I (ee (s0+1))) (I (ee s1)) (I (ee s2)) (I (ee s3))) Y underlying64 tZ) Y ⟨⟨_,_,Y,_,_,_,_,_,_,_,_,_,Y,x,⟨o.1,SM.1.2.1.2.1,SM.1.2.1.2.2.1,SM.1.2.1.2.2.2⟩,dI _,dI _,dI _,dI _⟩,v.keep (pJ _ _ _ _ _ _ _ _ _ _ _) (λh g=>g▸l.1.2.1)⟩)|(have g:eZ 1:=a;exact aO (bZ Y _ _ _ m 64 _ (0,0) _ Y (mQ t.1 (I (b-1)) (I c) (I (d-1)) (I e) (I f) (I (ee s0)) (I (ee (s1+1))) (I (ee s2)) (I (ee s3))) Y underlying64 tZ) Y ⟨⟨_,_,Y,_,_,_,_,_,_,_,_,_,Y,x,⟨SM.1.2.1.1,o.1,SM.1.2.1.2.2.1,SM.1.2.1.2.2.2⟩,dI _,dI _,dI _,dI _⟩,v.keep (pJ _ _ _ _ _ _ _ _ _ _ _) (λh g=>g▸l.1.2.1)⟩)|(have g:eZ 2:=a;exact aO (bZ Y _ _ _ m 64 _ (0,0) _ Y (mQ t.1 (I (b-1)) (I c) (I d) (I (e-1)) (I f) (I (ee s0)) (I (ee s1)) (I (ee (s2+1))) (I (ee s3))) Y underlying64 tZ) Y ⟨⟨_,_,Y,_,_,_,_,_,_,_,_,_,Y,x,⟨SM.1.2.1.1,SM.1.2.1.2.1,o.1,SM.1.2.1.2.2.2⟩,dI _,dI _,dI _,dI _⟩,v.keep (pJ _ _ _ _ _ _ _ _ _ _ _) (λh g=>g▸l.1.2.1)⟩)|(have a:eZ 3:=a;exact aO (bZ Y _ _ _ m 64 _ (0,0) _ Y (mQ t.1 (I (b-1)) (I c) (I d) (I e) (I (f-1)) (I (ee s0)) (I (ee s1)) (I (ee s2)) (I (ee (s3+1)))) Y underlying64 tZ) Y ⟨⟨_,_,Y,_,_,_,_,_,_,_,_,_,Y,x,⟨SM.1.2.1.1,SM.1.2.1.2.1,SM.1.2.1.2.2.1,o.1⟩,dI _,dI _,dI _,dI _⟩,v.keep (pJ _ _ _ _ _ _ _ _ _ _ _) (λb a=>a▸l.1.2.1)⟩)
theorem Iy(f b c d e s0 s1 s2 s3:T)(a:ε):aQ 137 #[pv f b c d e s0 s1 s2 s3,aI,I 1] a λk h=>(∃g i,k=.returned (.tuple #[g,I i])/\Mw g)/\Fr j a h:=(pT f b c d e s0 s1 s2 s3 a).1
theorem Ge(f b c d e s0 s1 s2 s3:T)(a:ε):aQ 137 #[pv f b c d e s0 s1 s2 s3,I 1,I 1] a λk h=>(∃g i,k=.returned (.tuple #[g,I i])/\Mw g)/\Fr j a h:=(pT f b c d e s0 s1 s2 s3 a).2.1
theorem IC(f b c d e s0 s1 s2 s3:T)(a:ε):aQ 137 #[pv f b c d e s0 s1 s2 s3,I 2,I 1] a λk h=>(∃g i,k=.returned (.tuple #[g,I i])/\Mw g)/\Fr j a h:=(pT f b c d e s0 s1 s2 s3 a).2.2.1
theorem GF(f b c d e s0 s1 s2 s3:T)(a:ε):aQ 137 #[pv f b c d e s0 s1 s2 s3,I 3,I 1] a λk h=>(∃g i,k=.returned (.tuple #[g,I i])/\Mw g)/\Fr j a h:=(pT f b c d e s0 s1 s2 s3 a).2.2.2
theorem Ms(hw:m<4)(f b c d e s0 s1 s2 s3:T)(a:ε):aQ 137 #[pv f b c d e s0 s1 s2 s3,I m,I 1] a λk h=>(∃g i,k=.returned (.tuple #[g,I i])/\Mw g)/\Fr j a h:=by
 rcases(show m=0\/m=1\/m=2\/m=3 by omega) with rfl|rfl|rfl|rfl
 .exact Iy f b c d e s0 s1 s2 s3 a
 .exact Ge f b c d e s0 s1 s2 s3 a
 .exact IC f b c d e s0 s1 s2 s3 a
 exact GF f b c d e s0 s1 s2 s3 a
theorem Ts(a:ε)(q:E)(b c d e f g h v7 i:ζ):bT q a (((((((((a.setCell (H q 14) b).setCell (H q 15) c).setCell (H q 16) d).setCell (H q 17) e).setCell (H q 18) f).setCell (H q 19) g).setCell (H q 20) h).setCell (H q 21) v7).setCell (H q 22) i):=
 (((((((((rF.aK _ _).aK _ _).aK _ _).aK _ _).aK _ _).aK _ _).aK _ _).aK _ _).aK _ _)
theorem Gl.own(b:Gl W){q:E}(a:bT q W V)(d:aY W q (ei x3) 66):Gl V:=⟨λe c=>a.aF (b.tab e c) (λa=>by
 simp only at a;have b:=b.tab 0 J;rw[a,aj d 0] at b;simp at b)⟩
theorem Mf(f:iS)(e a b c d s0 s1 s2 s3:T):(((((((((ei f).setIfInBounds 14 (I e)).setIfInBounds 15 (I a)).setIfInBounds 16 (I b)).setIfInBounds 17 (I c)).setIfInBounds 18 (I d)).setIfInBounds 19 (I s0)).setIfInBounds 20 (I s1)).setIfInBounds 21 (I s2)).setIfInBounds 22 (I s3)=
  ei {f with l:=e,e0:=a,e1:=b,e2:=c,e3:=d,s0:=s0,s1:=s1,s2:=s2,s3:=s3}:=by
 simp only[ei,rC]
theorem Ow{b:LS}{n h i k l s0 s1 s2 s3:T}(a:vg b.h i1 m (dB x3 b))(g:db n/\(db h/\db i/\db k/\db l)/\db s0/\db s1/\db s2/\db s3):
  vg b.h i1 m (dB {x3 with l:=n,e0:=h,e1:=i,e2:=k,e3:=l,s0:=s0,s1:=s1,s2:=s2,s3:=s3} b):=
 ⟨⟨Y,Y,Y⟩,a.2,a.3,a.4,⟨a.wd.1,a.wd.2,a.wd.3,a.wd.4⟩,a.6,⟨g.1,by obtain⟨-,⟨c,d,e,f⟩,-⟩:=g;simpa[dB] using ⟨c,d,e,f⟩,by obtain⟨-,-,c,d,e,f⟩:=g;simpa[dB] using ⟨c,d,e,f⟩⟩,a.8,a.9,a.10,a.11,a.12,a.13⟩
def UnR(h g:E)(c:iS)(a:LS)(f:E)(d:ε)(b:Ending)(e:ε):Prop:=
 b=.returned (.tuple #[])/\bT f d e/\∃b d,aY e f (ei b) 66/\lv e b d/\vg a.h c.eY (g+2) (dB b d)/\b.si<1000000000/\
  (h=3->∃i h k P f e g,iy a.h c.eY a.fs a.path P f e g/\dB b d=FU a.h c.eY {dB c a with left:=i,each:=h,wK:=k,path:=P} 3 ⟨f,e,g,[]⟩)
def UX(a:iS):E->iS
 |0=>{a with g0:=γ}
 |1=>{a with g1:=γ}
 |2=>{a with g2:=γ}
 |_=>{a with g3:=γ}
theorem Qz(hw:m<4):(ei x3).setIfInBounds (3+m) (.bool γ)=ei (UX x3 m):=by
 rcases(show m=0\/m=1\/m=2\/m=3 by omega) with rfl|rfl|rfl|rfl<;>simp only[ei,UX,rC]
theorem Ty{b:LS}(a:lv W x3 b)(hw:m<4):lv W (UX x3 m) b:=by
 rcases(show m=0\/m=1\/m=2\/m=3 by omega) with rfl|rfl|rfl|rfl<;>exact⟨a.1,a.2,a.3,a.4,a.5,a.6,a.7⟩
theorem WG{a:LS}(hw:m<4):dB (UX x3 m) a={dB x3 a with gone:=(dB x3 a).gone.set m γ}:=by
 rcases(show m=0\/m=1\/m=2\/m=3 by omega) with rfl|rfl|rfl|rfl<;>rfl
theorem WJ(a:iS):∀b,(UX a b).si=a.si
 |0=>rfl
 |1=>rfl
 |2=>rfl
 |_+3=>rfl
theorem Gj{d f e:iS}{b c L2:LS}{a:rK}(x:bT n1 W V)(w:aY V n1 (ei e) 66)(y:lv V e L2)(l:dB e L2=FU b.h d.eY (dB f c) m a)
  (o:vg b.h d.eY (q+1+1) (FU b.h d.eY (dB f c) m a))(v:e.si<1000000000){n g h i k s0 s1 s2 s3:T}(p:m=3->iy b.h d.eY b.fs b.path c.path a.said a.ord a.tree/\a.fs=[]/\dB f c={dB {d with l:=n,e0:=g,e1:=h,e2:=i,e3:=k,s0:=s0,s1:=s1,s2:=s2,s3:=s3} b with path:=c.path}):
  UnR m q d b n1 W (.returned (.tuple #[])) V:=by
 refine⟨Y,x,e,L2,w,y,by rw[l];exact o,v,λu=> ?_⟩;subst u;obtain⟨r,s,t⟩:=p Y;exact⟨n,[g,h,i,k],[s0,s1,s2,s3],c.path,a.said,a.ord,a.tree,r,by rw[l,t,<-s];rfl⟩
theorem Ui(i:iS)(g c:T)(a b:ι Addr)(f d h e:E):((((ei i).setIfInBounds 24 (I g)).setIfInBounds 25 (I c)).setIfInBounds 26 (.slice a f d)).setIfInBounds 27 (.slice b h e)=ei {i with sa:=g,vu:=c,ao:=a,on:=f,co:=d,at_:=b,tn:=h,ct:=e}:=by
 simp only[ei,rC]
theorem Di{d n e:iS}{b c f:LS}{p wr:ε}{a:rK}{g h:ι Addr}(K:i1=1\/i1=2)(C:bT n1 p wr)(l:aY wr n1 (ei e) 66)(D:lv wr e f)
  (z:Sl 3 1 CI wr (.slice g n2 n3) a.ord)(A:Sl 146 4 NC wr (.slice h n4 n5) a.tree)(F:i1=a.said)(r:vg b.h d.eY (q+1+1) (FU b.h d.eY (dB n c) m a))(t:dB e f={dB n c with fs:=uq b.h d.eY c.fs a.fs})(B:e.si<1000000000){G v w x y s0 s1 s2 s3:T}
  (s:m=3->iy b.h d.eY b.fs b.path c.path a.said a.ord a.tree/\a.fs=[]/\dB n c={dB {d with l:=G,e0:=v,e1:=w,e2:=x,e3:=y,s0:=s0,s1:=s1,s2:=s2,s3:=s3} b with path:=c.path}):
  UnR m q d b n1 p (.returned (.tuple #[])) ((((wr.setCell (H n1 24) (I i1)).setCell (H n1 25) (I m)).setCell (H n1 26) (.slice g n2 n3)).setCell (H n1 27) (.slice h n4 n5)).drew:=by
 have k:bT n1 wr ((((wr.setCell (H n1 24) (I i1)).setCell (H n1 25) (I m)).setCell (H n1 26) (.slice g n2 n3)).setCell (H n1 27) (.slice h n4 n5)).drew:=((((rF.aK _ _).aK _ _).aK _ _).aK _ _).drew;have o:=aD (aD (aD (aD l 24 (I i1)) 25 (I m)) 26 (.slice g n2 n3)) 27 (.slice h n4 n5);rw[Ui] at o;have i:=D.own k l;refine Gj (L2:={f with ord:=a.ord,tree:=a.tree}) (C.tr k) o ⟨i.1,i.2,i.3,i.4,i.5,z.past iA k l J id,A.past NC.aJ k l J (by unfold fS;decide)⟩ ?_ r B s;have u:dB {e with sa:=i1,vu:=(m:T),ao:=g,on:=n2,co:=n3,at_:=h,tn:=n4,ct:=n5} {f with ord:=a.ord,tree:=a.tree}={dB e f with said:=i1,vu:=m,ord:=a.ord,tree:=a.tree}:=Y;rw[u,t];unfold FU;rw[aR O,aR O,<-F];rfl
theorem Tt(hw:m<4)(a:iS)(e:LS)(b D:E)(t:ε)(b2:Gl t)(c:aY t b (ei a) 66)(b7:lv t a e)(b6:vg e.h a.eY D (dB a e))(c5:a.si<1000000000)(a7:D<=1000000):
  aQ 84 #[aP b 0,I m] t (UnR m D a e b t):=by
 have V:=Fr.all c;have c1:=(ba c);have c7:(0:T)<=(m:T):=jD;have c7:(m:T)<4:=O;clear c
 delta aQ;go_in
 go_upto_region 1 with fail;refine cT (λc7 c=> ?_);obtain⟨c6,f⟩:=M t.heap.size;rw[<-f];have G:=cY c;have b9:=dL c f;clear c;have c:=V.1 _ G;have u:=XR c;have v:=aaJ c;have w:=abQ c;have x:=aaG c;have y:=aaf c;have z:=aaU c;have A:=aaj c;have B:=abC c;have C:=abf c;clear c;go_wp2_with fail;refine sg (Ms hw a.l a.e0 a.e1 a.e2 a.e3 a.s0 a.s1 a.s2 a.s3 c7) ?_;rintro c7 c8 ⟨⟨e0,t,rfl,a8,a2,a3,a4,a5,s0,s1,s2,s3,rfl,l,⟨g,h,i,k⟩,n,o,p,r⟩,d⟩;have t:=(G.step d);have⟨SM,b9⟩:=bD (And.intro l (And.intro (And.intro g (And.intro h (And.intro i k))) (And.intro n (And.intro o (And.intro p r))))) (d.hs b9.1);have c:=V.1 _ t;have G:=Z c;have R:=λs=>aG c s;clear d l g h i k n o p r u v w x y z A B C;have k:=XR c;have n:=aaJ c;have o:=abQ c;have p:=aaG c;have r:=aaf c;have s:=aaU c;have u:=aaj c;have v:=abC c;have w:=abf c;clear c;unfold pv;go_upto_region 2 with fail;refine cT (λF g=> ?_);have c:bT b c8 F:=by rw[g];exact Ts _ _ _ _ _ _ _ _ _ _ _
 have a9:N (aY F b (ei {a with l:=a8,e0:=a2,e1:=a3,e2:=a4,e3:=a5,s0:=s0,s1:=s1,s2:=s2,s3:=s3}) 66):=Z (by rw[g,<-Mf];exact aD (aD (aD (aD (aD (aD (aD (aD (aD G.1 14 _) 15 _) 16 _) 17 _) 18 _) 19 _) 20 _) 21 _) 22 _);have l:=((b7.fr t).own c G.1);have b0:=(t.trans c (U:=λd=>d=b) (λ_ _ d=>d.elim) (λ_ _ d=>d));have b3:=((b2.fr t).own c G.1);obtain⟨Q,d⟩:=M (133+m);have HF:=Z d;have K:F.cell? (H c6 m)=S (.func (.func Q) #[] #[]):=by
  rw[aj (c.aB b9.1 (λh=>by have:=c1;omega)),d];rcases(show m=0\/m=1\/m=2\/m=3 by omega) with rfl|rfl|rfl|rfl<;>rfl
 have P:∀i h,(callFunc Q i).run prog h=.ok (.enter Q i) h:=by
  rcases(show m=0\/m=1\/m=2\/m=3 by omega) with rfl|rfl|rfl|rfl<;>subst d<;>intro i h<;>simp[go_sem]
 rw[<-f];clear g c d R k n o p r s u v w f;go_wp2_with fail;refine(GY hw HF.1 {a with l:=a8,e0:=a2,e1:=a3,e2:=a4,e3:=a5,s0:=s0,s1:=s1,s2:=s2,s3:=s3} e b D F b3 a9.1 ⟨l.1,l.2,l.3,l.4,l.5,l.6,l.7⟩ (Ow b6 SM.1) c5 a7).mono ?_;rintro l c9 ⟨f,D,F,t,d,g,rfl,u,h,i,c4,s,o,w,A,z,y⟩;obtain⟨d2,d7,rfl,-,-⟩:=h.slice;obtain⟨d3,d8,rfl,-,-⟩:=i.slice;obtain⟨d1,d4,d9,d6,rfl,-,-,r⟩:=c4;obtain⟨n,c⟩:=M f.fs.length;obtain⟨l,x⟩:=M f.ord.length;obtain⟨l,B⟩:=M f.tree.length;obtain⟨k,l⟩:=M f.said;rw[<-x] at h |-;rw[<-B] at i |-;rw[<-c,<-l];unfold yL;have⟨HN,v,t,C⟩:=gB c l o y;have p:=(b0.trans s (U:=λp=>p=b) (λ_ _ p=>p) (λ_ _ p=>p));have R:N (g.h=e.h/\d.eY=a.eY):=Z ⟨A.eh,A.el⟩;have D:n<=40000:=oB u.fl;clear K P c x B l o y s;go_wp2_with fail;refine cT (λF o=> ?_);obtain⟨D,l⟩:=M c9.heap.size;rw[<-l];have c:=cY o;have c0:=dL o l;have s:=Z (c.hs t.1);have b8:N (b≠D):=Z (oB (ba t.1));have b4:=(h.f c);have b5:=(i.f c);have U:=(r.f c);have K:=(w.fr c);have b1:=(p.step c);clear o l c h i r w p;go_loopg [7,29] n (λgk s7 s29 wr=>∃(c:E)(h:ι Addr)(l i:E),c+gk=n/\s29=I c/\aY wr b (ei {d with af:=h,fn:=l,cf:=i}) 66/\Sl 276 7 CF wr (.slice h l i) (uq e.h a.eY g.fs (f.fs.take c))/\bT b F wr)
 .exact⟨0,d.af,d.fn,d.cf,du,Y,s.1,K.fs,rF⟩
 case round=>
  obtain⟨i,o,r,p,x,rfl,w,a0,h⟩:=hrel;have⟨HK,c⟩:=bD x w;have l:i<=n:=O;clear x w;by_cases l:i<n
  .obtain⟨fx,w⟩:=gE f.fs i fU
   obtain rfl:=U.addr w;have y:=U.aJ CF.aJ h (λF D B t l=>t.ne ⟨_,_,l▸s.1⟩ (λx=>B.elim (λl=>by rw[l] at x;cases x) (λl=>by rw[l] at x;cases x)) Y);obtain⟨l,B,W,X,a1,a6,c2,c3,x⟩:=y.fc w;have P:=Z w;obtain⟨d0,d5,rfl,-,-⟩:=x.slice;have⟨l,t⟩:=dy i n;clear w y;go_wp2_with fail;refine aZ.nm (λt l=> ?_);have w:=cY l;clear l B W X a1 a6 c2 c3;refine sg (Jj e.h {d with af:=o,fn:=r,cf:=p} b (uq e.h a.eY g.fs (f.fs.take i)) fx _ t (w.hs c.1) ?hh (a0.f w) ?hB (x.f w)) ?_
   case hh=>
    have:=(K.hh.aJ h (λB y x t l=>t.ne ⟨_,_,l▸s.1⟩ (by rcases x with rfl|rfl|rfl<;>decide) Y)).fr w;rwa[R.1.1] at this
   case hB=>
    have:=BU (f.fs.take i) A.fs (λt l=>u.fcy t (L.mem_of_mem_take l));have t:=this.len;have l:(f.fs.take i).length<=n:=by rw[cV,HN.1];omega
    have:=a7;have l:(dB d g).fs=g.fs:=Y;rw[l] at t;omega
   rintro l n ⟨rfl,y,X,a6,a1,B,W⟩;have l:=Z B;have n:=((h.step w).trans y (U:=λn=>n=b) (λ_ _ n=>n) (λ_ _ n=>n));clear y B;go_wp2;go_roundg (gk-1)
   .exact⟨i+1,X,a6,a1,oB HK.1,by go_num,l.1,by have:=W;rw[show({d with af:=o,fn:=r,cf:=p}:iS).eY=a.eY from R.1.2] at this;rw[bJ P.1];unfold uq at this |-;rw[mf];exact this,n⟩
   have:=HK.1;omega
  have l:Sl 276 7 CF wr (.slice o r p) (uq e.h a.eY g.fs f.fs):=(by have:=a0;rwa[dq fU] at this);have i:=h.aB c0.1 (λi=>b8.1 i.symm);have W:=b4.past iA h s.1 J id;have X:=b5.past NC.aJ h s.1 J (by unfold fS;decide);have B:lv wr {d with af:=o,fn:=r,cf:=p} {g with fs:=uq e.h a.eY g.fs f.fs}:=by have a:=K.own h s.1;exact⟨a.1,l,a.3,a.4,a.5,a.6,a.7⟩
  have y:=(b1.trans h (U:=λa=>a=b) (λ_ _ a=>a) (λ_ _ a=>a));have x:=(YR A (who:=m) (u.mono O) hw (λa=>BO.up));obtain⟨a,w,P,a1,-⟩:=D4' i;clear i;have a:k=0\/k=3\/k=1\/k=2:=by have:=u.BI.1;have:=u.BI.2;rw[<-v.1] at*;omega
  rcases a with rfl|rfl|a6
  .clear w P a1
   go_wp2;(go_end0);exact Gj y c.1 B (by unfold FU;rw[<-v.1];rfl) x z C.1
  .have a:=λa=>aG c.1 a
   have e:wr.cell? (H b (3+m))=(ei {d with af:=o,fn:=r,cf:=p})[3+m]? :=aj c.1 _;have a:∃a,(ei {d with af:=o,fn:=r,cf:=p})[3+m]? =S a:=⟨_,ju (by simp[ei];omega)⟩;obtain⟨d,a⟩:=a;rw[a] at e;clear w P a1 a;go_wp2;(go_end0);have d:=aD c.1 (3+m) (.bool γ);rw[Qz hw] at d;have a:bT b wr (wr.setCell (H b (3+m)) (.bool γ)):=rF.aK _ _;have b:=B.own a c.1;exact Gj (y.tr a) d (Ty b hw) (by unfold FU;rw[<-v.1];exact WG hw) x (by rw[WJ];exact z) C.1
  have a:=aj c.1 24;have b:=aj c.1 25;have d:=aj c.1 26;have e:=aj c.1 27;simp only[rE] at a b d e;have a:=λa=>aG c.1 a;have a:k≠0:=O;have a:(k==3)=δ:=sO;obtain⟨a1,w⟩:=M (k==1);have P:a1=δ->(k==2)=γ:=λa=>by rw[w] at a;simp at a |-;omega
  cases a1
  .have a:=P Y
   have a:=w.symm;clear P w;go_wp2_with fail;go_region;exact bodyPost_end (io Y _ _ _) Y (Di a6 y c.1 B W X v.1 x Y z C.1)
  have a:=w.symm;clear P w;go_wp2_with fail;go_region;exact bodyPost_end (io Y _ _ _) Y (Di a6 y c.1 B W X v.1 x Y z C.1)
theorem Qx(hw:m<4)(b d e f a s0 s1 s2 s3 c:T)(g:ε)(h:vq b d e f a s0 s1 s2 s3=γ):
  aQ 83 #[pv b d e f a s0 s1 s2 s3,I m,I c] g λl k=>(∃i:E,l=.returned (I i)/\(i:T)<=max 0 c/\(m=3->(i:T)=max 0 (min c (min b a))))/\Fr j g k:=by
 rcases(show m=0\/m=1\/m=2\/m=3 by omega) with rfl|rfl|rfl|rfl
 .refine(Ea b d e f a s0 s1 s2 s3 c g h).mono ?_
  rintro p o ⟨⟨n,rfl,i,l,-⟩,k⟩;exact⟨⟨n.toNat,by rw[iK i],by rw[iK i];exact l,O⟩,k⟩
 .refine(ET b d e f a s0 s1 s2 s3 c g h).mono ?_
  rintro p o ⟨⟨n,rfl,i,l,-⟩,k⟩;exact⟨⟨n.toNat,by rw[iK i],by rw[iK i];exact l,O⟩,k⟩
 .refine(EU b d e f a s0 s1 s2 s3 c g h).mono ?_
  rintro p o ⟨⟨n,rfl,i,l,-⟩,k⟩;exact⟨⟨n.toNat,by rw[iK i],by rw[iK i];exact l,O⟩,k⟩
 refine(Ex b d e f a s0 s1 s2 s3 c g h).mono ?_;rintro b a ⟨⟨o,rfl,i,l,-,-,n⟩,k⟩;exact⟨⟨o.toNat,by rw[iK i],by rw[iK i];exact l,λ_=>by rw[iK i];exact n⟩,k⟩
def GoR(k:E)(f:T)(h:E)(a:iS)(d:LS)(i:ε)(g:Ending)(e:ε):Prop:=
 ∃b c,g=.returned (.agg (ei b))/\Fr j i e/\lv e b c/\vg d.h a.eY (h+2*f.toNat) (dB b c)/\b.si<1000000000/\
  (k=3->a.sa=0->uZ d.h a.eY (max 0 (min f (min a.l a.e3))).toNat {dB a d with yD:=min a.pk 2147483646+1} (dB b c))
theorem aaD{b:LS}{c:Hs}(a:vg c i1 m (dB x3 b)):vq x3.l x3.e0 x3.e1 x3.e2 x3.e3 x3.s0 x3.s1 x3.s2 x3.s3=γ:=by
 rw[vC];exact⟨a.pu.left,by simpa[dB] using a.pu.each,by simpa[dB] using a.pu.wK⟩
theorem abl{b:LS}{c:Hs}(a:vg c i1 m (dB x3 b))(d:db i2):vg c i1 m (dB {x3 with pk:=i2} b):=
 ⟨⟨Y,Y,Y⟩,a.2,a.3,a.4,⟨a.wd.1,a.wd.2,a.wd.3,a.wd.4⟩,a.6,⟨a.pu.1,a.pu.2,a.pu.3⟩,d,a.9,a.10,a.11,a.12,a.13⟩
theorem aaA(b:iS)(a:T):(ei b).setIfInBounds 23 (I a)=ei {b with pk:=a}:=by
 simp only[ei,rC]
theorem Ps{a:LS}(hw:m<4):(ei x3)[3+m]? =S (.bool ((dB x3 a).gone.getD m δ)):=by
 rcases(show m=0\/m=1\/m=2\/m=3 by omega) with rfl|rfl|rfl|rfl<;>rfl
theorem GH{a b:LS}{d wr h:ε}{gk:E}(k:Fr j d wr)(o:d.heap.size<=n3)(l:aY wr n3 Vv 66)(f:bT n3 wr h)(u:lv wr x4 b)(i:vg a.h x3.eY (n2+2*q) (dB x4 b))(n:x4.si<1000000000)
  (p:i2=min x3.pk 2147483646+1)(v:q+gk=n1)(w:(n1:T)<=max 0 i1)(r:m=3->(n1:T)=max 0 (min i1 (min x3.l x3.e3)))(s:m=3->∀g,uZ a.h x3.eY gk (dB x4 b) g->uZ a.h x3.eY n1 {dB x3 a with yD:=i2} g)
  (t:m=3->uZ a.h x3.eY gk (dB x4 b) (dB x4 b)):GoR m i1 n2 x3 a d (.returned (.agg (ei x4))) h:=by
 refine⟨x4,b,Y,k.keep f (λx e=>e▸o),u.own f l,i.mono O,n,λc _=> ?_⟩
 have:=s c _ (t c);have e:=r c;rw[p] at this;rwa[show(max 0 (min i1 (min x3.l x3.e3))).toNat=n1 by omega]
theorem abT{who:E}(hw:who<4)(v:T)(o:1<=v/\v<=255)(a:iS)(g:LS)(r:E)(o:ε)(b7:Gl o)(b0:lv o a g)(G:vg g.h a.eY r (dB a g))(i:a.si<1000000000)(c6:r<=900000):
  aQ 51 #[.agg (ei a),I who,I v] o (GoR who v r a g o):=by
 have a8:=i;have f:=(show(prog.info? 66).map (·.size)=S 28 by kernel_rfl);have V:(0:T)<=(who:T):=jD;have V:(who:T)<4:=O;have V:decide ((who:T)<0)=δ:=sI;have V:decide (4<=(who:T))=δ:=sO;have V:decide (v<1)=δ:=sO
 delta aQ;go_in
 go_upto_region 1 with fail;refine cT (λb1 V=> ?_);obtain⟨h,X⟩:=M o.heap.size;obtain⟨n,c5⟩:=M (h+1);have z:=lq V;have b:=uV V X;have a2:(aY b1 n Vv 66):=(by rw[V];exact bM sO);try rw[show o.heap.size+1=n by omega]
 rw[<-X];have l:(o.heap.size<=h/\o.heap.size<=n/\h≠n):=O;clear V X c5;have c2:=Sb b.1;by_cases x:a.sa=0
 .have o:=Z x
  have V:(a.sa !=0)=δ:=sU x;have o:=XR b.1;have o:=aaJ b.1;have o:=abQ b.1;have o:=aaG b.1;have o:=aaf b.1;have o:=aaU b.1;have o:=aaj b.1;have o:=abC b.1;have o:=abf b.1;have o:=Wv b.1;have o:=λW=>aG b.1 W;have o:0<=a.pk/\a.pk<=2147483647:=G.yD;obtain⟨a5,o⟩:=M (min a.pk 2147483646+1);have HP:=Z o;clear o;go_wp2_with fail;refine aZ.nm (λX V=> ?_);rw[<-HP.1] at V;have D:bT h b1 X:=by rw[V];exact rF.aK _ _
  have b6:(aY X h (ei {a with pk:=a5}) 66):=(by rw[V,<-aaA];exact aD b.1 23 _);have c0:lv X {a with pk:=a5} g:=(by have o:=(b0.fr z).own D b.1;exact⟨o.1,o.2,o.3,o.4,o.5,o.6,o.7⟩);clear V;refine sg (Qx hw a.l a.e0 a.e1 a.e2 a.e3 a.s0 a.s1 a.s2 a.s3 v X (aaD G)) ?_;rintro e c7 ⟨⟨p,rfl,a1,a4⟩,A⟩;have o:p<=255:=O;have a7:=(A.hs b6);go_wp2_with fail;go_loopg [33] p (λgk s33 wr=>∃(d:E)(c:iS)(k:LS),d+gk=p/\s33=I d/\aY wr h (ei c) 66/\lv wr c k/\vg g.h a.eY (r+2*d) (dB c k)/\c.si<1000000000/\bT h c7 wr/\
   (who=3->∀y,uZ g.h a.eY gk (dB c k) y->uZ g.h a.eY p {dB a g with yD:=a5} y))
  .exact⟨0,_,g,du,Y,a7,(c0.fr A),abl G (by rw[HP.1];unfold db uc;omega),a8,rF,λ_ y o=>o⟩
  case round=>
   obtain⟨d,c,k,a3,rfl,w,K,t,F,C,U⟩:=hrel;have s:(k.h=g.h/\c.eY=a.eY):=⟨t.eh,t.el⟩;have u:=(C.aB (A.hs (D.aB a2 (λe=>l.2.2 e.symm))) (λe=>l.2.2 e.symm));have a0:=(((z.keep D (λW e=>e▸l.1)).step A).keep C (λW e=>e▸l.1));have o:d<=p:=O;by_cases o:d<p
   .have o:(0:T)<=(d:T):=jD
    have v:(d:T)<(p:T):=O;have p:wr.cell? (H h (3+who))=S (.bool ((dB c k).gone.getD who δ)):=(aj w _).trans (Ps hw);have c2:=Sb w;obtain⟨Q,o⟩:=M ((dB c k).gone.getD who δ);rw[<-o] at p;have a9:=Z o;clear o;cases Q with
    |true=>
     go_wp2_with (first|(refine bU Y 66 (.tmp 3) Y Y w underlying66 Y f ?_)|(refine aU Y 66 (.tmp 6) (.tmp 47) Y Y Y u Y f (kj c) ?_;intro a6 i m));exact aO (bO Y _ _ _ n 66 _ (0,0) _ Y i Y underlying66 f) Y (GH a0 l.2.1 u m K t F HP.1 a3 a1 a4 U (λB=>.stop _ _ (.inl (by subst B;exact a9.1.symm))))
    |false=>
     by_cases R:c.sa=0
     .have c3:(c.sa !=0)=δ:=sU R
      go_wp2_with fail;refine sg (Tt hw c k h (r+2*d) wr (((((b7.fr z).own D b.1).fr A).own C a7)) w K (by have:=t;rw[s.1,s.2];exact this) F (oB c6)) ?_;rintro e k ⟨rfl,c4,b5,b2,b3,c1,b9,b8,b4⟩;go_wp2;go_roundg (gk-1)
      .refine⟨d+1,b5,b2,O,by go_num,b3,c1,by have:=b9;rw[s.1,s.2] at this;rwa[show r+2*(d+1)=r+2*d+2 by omega],b8,(C.trans c4 (U:=λd=>d=h) (λ_ _ a=>a) (λ_ _ a=>a)),λB y x=> ?_⟩
       subst B;refine U Y y ?_;obtain⟨k,h,r,P,p,o,v,d,Q⟩:=b4 Y;rw[s.1,s.2] at d Q;rw[show gk=(gk-1)+1 by omega];exact .step _ _ _ k h r P p o v a9.1.symm R d (by rw[<-Q];exact x)
      omega
     have c3:(c.sa !=0)=γ:=sU R;go_wp2_with (first|(refine bU Y 66 (.tmp 3) Y Y w underlying66 Y f ?_)|(refine aU Y 66 (.tmp 6) (.tmp 47) Y Y Y u Y f (kj c) ?_;intro a6 i m));exact aO (bO Y _ _ _ n 66 _ (0,0) _ Y i Y underlying66 f) Y (GH a0 l.2.1 u m K t F HP.1 a3 a1 a4 U (λB=>.stop _ _ (.inr R)))
   go_wp2_with (first|(refine bU Y 66 (.tmp 3) Y Y w underlying66 Y f ?_)|(refine aU Y 66 (.tmp 6) (.tmp 47) Y Y Y u Y f (kj c) ?_;intro a6 i m));exact aO (bO Y _ _ _ n 66 _ (0,0) _ Y i Y underlying66 f) Y (GH a0 l.2.1 u m K t F HP.1 a3 a1 a4 U (λB=>by rw[show gk=0 by omega];exact .zero _))
 have c:(a.sa !=0)=γ:=sU x;go_wp2_with (first|(refine bU Y 66 (.tmp 3) Y Y b.1 underlying66 Y f ?_)|(refine aU Y 66 (.tmp 6) (.tmp 22) Y Y Y a2 Y f (kj a) ?_;intro a6 i m));exact aO (bO Y _ _ _ n 66 _ (0,0) _ Y i Y underlying66 f) Y ⟨a,g,Y,z.keep m (λW e=>e▸l.2.1),(b0.fr z).own m a2,G.mono O,a8,λ_ e=>absurd e x⟩
def DY(d:Hs)(e f c:T)(a b:RS):Prop:=f=3->a.said=0->uZ d e (max 0 (min c (min a.left (a.each.getD 3 0)))).toNat {a with yD:=min a.yD 2147483646+1} b
def ZP(f:Hs)(g:T)(e:κ)(a d:T)(b:κ)(h c:RS):Prop:=a<4->e=δ->b=δ/\DY f g a d h c
def adf(g:Hs)(h:T)(m i:E)(f:κ)(e k:T)(l:RS)(n:ε)(b:Ending)(d:ε):Prop:=∃a,b=.returned (I a)/\((a=0->∃b c,kS g h (m+510) i b c d/\ZP g h f e k b l c)/\(e<4->f=δ->a=0))/\bT i n d
def GQ(c:Hs)(d:T)(h:E)(e f:T)(g:RS)(a:iS)(b:LS):Prop:=vg c d (h+510) (dB a b)/\a.si<1000000000/\DY c d e f g (dB a b)
theorem LJ(b c:Operand)(f:o2.op=.store 66 b c)(g:a1.eval b=aP m 0)(h:a1.eval c=.agg (ei x4))(d:aY W m (Ks x3 S2) 68)
  (e:∀a,aY a m (Ks x4 S2) 68->bT m W a->K1 (a1.put o2.dst undef) a):o2.wp prog a1 W K1 Q:=by
 refine wp_store_mid 66 b c f m 0 (ei x4) g h (pS d (by show 28<=29;omega)) gy (kj x4) ?_;obtain⟨a,b⟩:=ig (ei x4).toList 0 W _ d;rw[Km] at a;exact e _ a b
theorem lv.adk{b:LS}(c:lv W x3 b)(a:TQ [(m,68)] W V):lv V x3 b:=by
 obtain⟨⟨k,b,c⟩,d,e,f,g,h,i⟩:=c;exact⟨⟨k,b,a.sl c CT.aJ (by simp[JQ])⟩,a.sl d CF.aJ (by simp[fS]),a.sl e iA sI,a.sl f CR.aJ (by simp[fS]),a.sl g MC.aJ (by simp[AF]),a.sl h iA sI,a.sl i NC.aJ (by simp[fS])⟩
theorem aai{d:Hs}{b:RS}{a:LS}(h:Gl W)(c:vg d i1 m b)(p:b.idle<1000000000)(i:lv W x3 a)(l:dB x3 a=b)(v:m<=190000)(n:0<=i2/\i2<4)(o:1<=i3/\i3<=255):
  aQ 51 #[.agg (ei x3),I i2,I i3] W λk g=>∃e f,k=.returned (.agg (ei e))/\Fr j W g/\lv g e f/\GQ d i1 m i2 i3 b e f:=by
 obtain⟨t,rfl⟩:=T.eq_ofNat_of_zero_le n.1;subst l;obtain rfl:a.h=d:=c.eh;obtain rfl:x3.eY=i1:=c.el;refine(abT (who:=t) O i3 o x3 a m W h i c p O).mono ?_;rintro b a ⟨u,e,rfl,f,s,r,g,k⟩;exact⟨u,e,Y,f,s,r.mono O,g,λb a=>k O a⟩
theorem kS.up{c:Hs}{b:κ}{d:RS}(a:kS c i1 m n1 b d W)(e:m<=q):kS c i1 q n1 b d W:=⟨a.1.mono e,a.2.1,a.2.2⟩
theorem kS.j{c:Hs}{b:κ}{e:RS}{f w':ε}(g:kS c i1 m q b e f)(a:Fr j f w'):kS c i1 m q b e w':=by
 obtain⟨c,e,d⟩:=g;refine⟨c,e,?_⟩;cases b with
 |true=>obtain⟨f,b,c,e⟩:=d;exact⟨f,b,a.hs c,e⟩
 |false=>obtain⟨f,b,c,d,e⟩:=d;exact⟨f,b,a.hs c,d.fr a,e⟩
theorem Ml{h:Hs}{p:κ}{d:RS}(A:Gl W)(F:kS h i1 m q p d W)(s:m<=190000)(a:ZT i2 i3=γ):aQ 28 #[aP q 0,.agg #[I i2,I i3]] W (adf h i1 m q p i2 i3 d W):=by
 have HP:((i2=4\/i2=5)/\i3=0\/(0<=i2/\i2<4)/\1<=i3/\i3<=255):=(by simpa[ZT] using a);clear a
 delta aQ;go_in
 go_upto_region 1 with fail;refine cT (λf b=> ?_);obtain⟨z,a⟩:=M W.heap.size;rw[<-a];have o:=dL b a;have e:=cY b;have c:=(F.j e);have F:=bx o.1;clear b a;by_cases w:i2=4
 .subst w
  go_wp2_with (go_at_call 50;refine(Oo c (oB s)).mono ?_;rintro b g ⟨n,rfl,⟨r,-⟩,a⟩);go_ret;exact⟨n,Y,⟨λb=>⟨γ,d,(r b).up O,λb=>absurd b J⟩,λb=>absurd b J⟩,(e.mono (λ_ _ b=>b.elim)).tr a⟩
 by_cases x:i2=5
 .subst x
  go_wp2_with (go_at_call 27;refine(xH c (oB s)).mono ?_;rintro b g ⟨n,rfl,⟨r,-⟩,a⟩);go_ret;exact⟨n,Y,⟨λb=>⟨δ,d,(r b).up O,λb=>absurd b J⟩,λb=>absurd b J⟩,(e.mono (λ_ _ b=>b.elim)).tr a⟩
 have n:(i2==4)=δ:=sU w;have n:(i2==5)=δ:=sU x;have t:((0<=i2/\i2<4)/\1<=i3/\i3<=255):=O;cases p with
 |true=>
  obtain⟨n,b,i,k,l⟩:=c.2.2;have b:f.cell? (H q 28)=S (.string b):=aj i 28;have b:=Iu l k;go_wp2;go_ret;exact⟨0,Y,⟨λ_=>⟨γ,d,c.up O,λ_ g=>by cases g⟩,λ_ _=>Y⟩,e.mono (λ_ _ b=>b.elim)⟩
 |false=>
  obtain⟨l,p,n,C,G⟩:=c.2.2;have g:N (∀b,Fr j f b->aY b q (Ks l ⟨#[]⟩) 68):=Fr.all n;have p:=λb(a:Fr j f b)=>bx (a.hs o.1);have o:=λb(a:Fr j f b)=>dh (a.hs o.1);have f:f.cell? (H q 28)=S (.string ⟨#[]⟩):=aj n 28;go_upto_region 6 with fail;refine gQ [12] [0,1,2,3,4,5,6,7,8,9,10,11,12] (λix=>[(q,68)]) ([(q,68)]) [[],[],[1],[1,2],[1,2,3],[],[5],[],[7],[1,2,3,4,5,6,7,8],[0],[0,10],[0,1,2,3,4,5,6,7,8,9,10,11]] [.eq 0 (aP q 0),.eq 1 (aP q 0),.eq 2 (aP q 0),.eq 3 (aP q 0),.eq 4 (.agg (ei l)),.eq 5 (aP z 0),.eq 6 (I i2),.eq 7 (aP z 1),.eq 8 (I i3),.w1 9 (λk b=>∃f i,k=.agg (ei f)/\lv b f i/\GQ h i1 m i2 i3 d f i),.eq 10 (aP q 0),.eq 11 (aP q 0),.w1 9 (λk b=>∃f i,k=.agg (ei f)/\aY b q (Ks f ⟨#[]⟩) 68/\lv b f i/\GQ h i1 m i2 i3 d f i)] [[0],[1],[2],[3],[4],[5],[6],[7],[8],[9],[10],[11],[9]] kR kR kR Y (λ_ _ _ _ f d=>⟨f.symm.trans d.1,d.2⟩) sI ?hstab ?hstabM (λd=> ?_)
  case hstab=>refine⟨?_,?_,?_,?_,?_,?_,?_,?_,?_,?_,?_,?_,?_,trivial⟩<;>first|exact λ_ _ _ d _=>d|exact λ_ _ _ _ _=>trivial|exact λ_ _ _ ⟨n,d,f,i,h⟩ a=>⟨n,d,f,i.fr a,h⟩|exact λ_ _ _ ⟨o,d,f,i,n,h⟩ a=>⟨o,d,f,a.hs i,n.fr a,h⟩
  case hstabM=>
   intro d i;simp only[rB] at i;subst i;all_goals(refine⟨?_,?_,?_,?_,?_,?_,?_,?_,?_,?_,?_,?_,?_,trivial⟩<;>first|exact λd=>absurd Y d|exact λ_ d=>absurd J d|exact λ_ _ _ _ _ d _=>d|exact λ_ _ _ _ _ _ _=>trivial|exact λ_ _ _ _ _ ⟨n,d,f,i,h⟩ a=>⟨n,d,f,i.adk a,h⟩)
  refine⟨?_,?_,?_,?_,?_,?_,?_,?_,?_,?_,?_,?_,?_,?_⟩;all_goals first|exact Ca|skip
  .intro b v d f u
   have i:=d 3 J;simp only[rX,ξ] at v i d u |-;rw[aS (by first|rfl|go_simp)];refine wp_load_mid 66 (.tmp 26) fX q 0 i (ei l).toList _ (λf k d=>by rw[de];exact(aj (g.1 _ v) f).trans (JO l ⟨#[]⟩ d)) underlying66 Y gy ?_;exact u _ _ rF Y
  .intro b f d h i
   simp only[rX,ξ] at f d i |-;(try simp only[d] at i);go_simp;go_at_call 51;refine((λb a=>aai (A.fr (e.step a)) c.1 c.2.1 (C.fr a) G s t.1 t.2) b f).mono ?_;rintro d c ⟨B,u,rfl,a,y,v⟩;exact i _ _ a ⟨B,u,Y,y,v⟩
  .intro b i a c y
   have c:=a 9 J;have v:=a 11 J;(try simp only[rX,ξ] at i);simp only[rX,ξ] at c v a y |-;obtain⟨P,B,u,K,D⟩:=c;rw[aS (by first|rfl|go_simp)];refine LJ (.tmp 34) (.tmp 32) fX v u (g.1 _ i) ?_;intro d c a;exact y undef _ (TQ.one sI (g.1 _ i) a c Y) ⟨P,B,u,c,K.Ug a (g.1 _ i),D⟩
  intro b D a;have a:=a 12 J J;simp only[rX,ξ] at a;simp only[Act.put,rC];obtain⟨v,u,-,B,y,i⟩:=a;go_wp2;go_ret;exact⟨0,Y,⟨λ_=>⟨δ,dB v u,⟨i.1,i.2.1,v,u,B,y,Y⟩,λ_ _=>⟨Y,i.2.2⟩⟩,λ_ _=>Y⟩,((e.mono (λ_ _ a=>a.elim)).trans D.1 (λ_ _ a=>a) (λc b ⟨d,a,_⟩=>by simp at a;exact a.1))⟩
def Rk(f:ε)(b:ι Addr)(a c:E)(e:L Pk):Prop:=
 (e=[]\/b=S (H a c))/\∀b d,e[b]? =S d->f.cell? (H a (c+b*2))=S (I d.1)/\f.cell? (H a (c+b*2+1))=S (I d.2)
theorem Rk.fr{S:E->Prop}{w a:ε}{b:L Pk}(c:Rk w A m q b)(d:Fr S w a)(e:b≠[]->¬S m):Rk a A m q b:=
 ⟨c.1,λf g a=>by
  have b:b≠[]:=λb=>by rw[b] at a;simp at a
  exact⟨d.aF (c.2 f g a).1 (e b),d.aF (c.2 f g a).2 (e b)⟩⟩
theorem Rk.ne{w:ε}{a:L Pk}(e:Rk w A m q a)(g:a≠[]):∃d c b,w.heap[m]? =S (.cells d c b):=by
 cases a with
 |nil=>exact absurd Y g
 |cons h k=>
  have:=(e.2 0 h Y).1;simp only[ε.cell?] at this;split at this
  .rename_i i c b f
   exact⟨_,_,_,f⟩
  simp at this
theorem Rk.Xc{b d:L Pk}(c:Rk W A m n1 b)(q:QC W n2 n3 n4 d):b≠[]->¬m=n3:=λd b=>by
 obtain⟨c,e,d,a⟩:=c.ne d;obtain⟨_,e,d,c⟩:=q;rw[b,c] at a;cases a
def yN(c b a:E):E:=min a (c-b)
theorem Un(f e d u:E)(o:ι Addr)(t w:E)(b a:L Pk)(g:ε)(p:QC g f e d b)(m:Rk g o t w a)(t:a.length<=1000000)(t:b.length<=d):
  aQ 25 #[aP f 0,.slice o a.length u] g λh c=>h=.returned (I (yN d b.length a.length:E))/\QC c f e d (b++a.take (yN d b.length a.length))/\bT e g c:=by
 delta aQ;go_in
 go_wp2_with fail;go_loopg [5] a.length (λgk o wr=>∃c:E,c+gk=a.length/\b.length+c<=d/\o=I c/\QC wr f e d (b++a.take c)/\bT e g wr)
 .exact⟨0,du,O,Y,sU p,rF⟩
 case round=>
  obtain⟨c,x,y,rfl,i,h⟩:=hrel;have g:c<=a.length:=O;by_cases g:c<a.length
  .obtain⟨n,s⟩:=gE a c g
   (have v:a≠[]:=λk=>by rw[k] at g;simp at g);obtain rfl:=m.1.resolve_left v;obtain⟨g,m⟩:=(m.fr h (m.Xc p)).2 c n s;have r:(b++a.take c).length=b.length+c:=sO;by_cases g:b.length+c<d
   .go_wp2_with fail
    refine sg (Oe f e d n (b++a.take c) wr i (by rw[r];exact g)) ?_;rintro g m ⟨rfl,l,k⟩;go_wp2;go_roundg (gk-1)
    .exact⟨c+1,O,O,by go_num,by rw[bJ s,<-dm];exact l,(h.trans k (U:=λg=>g=e) (λ_ _ g=>g) (λ_ _ g=>g))⟩
    omega
   go_wp2_with fail;(refine sg (OA f e d n (b++a.take c) wr i (by rw[r];omega)) ?_;rintro e f ⟨rfl,k⟩;have l:c=yN d b.length a.length:=by unfold yN;omega);go_wp2;go_ret;rw[<-l];exact⟨Y,(i.fr k id id),(h.step k)⟩
  have l:c=yN d b.length a.length:=by unfold yN;omega
  go_wp2;go_ret;rw[<-l];exact⟨Y,i,h⟩
theorem Rk.of{b:L Pk}(a:fF 96 2 CPk W A m q b):Rk W A m q b:=
 ⟨a.1.imp id (λb=>b.1),λc d b=>by
  have:=Sl.pl a b;exact⟨this 0 _ Y,this 1 _ Y⟩⟩
theorem lv.eA{d:LS}{S:E->Prop}(c:lv W x3 d)(a:Fr S W V)(b:∀f e,fE f W e->¬S e):lv V x3 d:=
 ⟨c.hh.aJ a (λf e _ d=>b f e d),c.fs.aJ CF.aJ a (λf e _ d=>b f e d),c.wp.aJ iA a (λf e _ d=>b f e d),c.wl.aJ CR.aJ a (λf e _ d=>b f e d),c.pa.aJ MC.aJ a (λf e _ d=>b f e d),c.od.aJ iA a (λf e _ d=>b f e d),c.tr.aJ NC.aJ a (λd c _ a=>b d c a)⟩
theorem kS.eA{c:Hs}{b:κ}{f:RS}{S:E->Prop}(h:kS c i1 m q b f W)(a:Fr S W V)(d:¬S q)(g:∀i e,fE i W e->¬S e):kS c i1 m q b f V:=by
 obtain⟨c,f,e⟩:=h;refine⟨c,f,?_⟩;cases b with
 |true=>obtain⟨f,S,b,c⟩:=e;exact⟨f,S,a.aB b d,c⟩
 |false=>obtain⟨h,b,c,e,f⟩:=e;exact⟨h,b,a.aB c d,e.eA a g,f⟩
theorem kS.obj{c:Hs}{a:κ}{e:RS}(d:kS c i1 m q a e W):∃c b,W.heap[q]? =S (.cells (Ks c b) 68 (0,0)):=by
 obtain⟨-,-,b⟩:=d;cases a with
 |true=>obtain⟨d,a,c,-⟩:=b;exact⟨d,a,c⟩
 |false=>obtain⟨b,c,a,-⟩:=b;exact⟨b,_,a⟩
def Trc(c:Hs)(d:T)(s0:RS)(done:L Pk)(a:κ)(b:RS):Prop:=(done=[]->b=s0/\a=δ)/\(done=[(3,9)]->DY c d 3 9 s0 b/\a=δ)
theorem Trc.next{b:Hs}{s0 g h:RS}{done:L Pk}{d e:κ}{c:Pk}(i:Trc b i1 s0 done d g)(f:ZP b i1 d c.1 c.2 e g h):Trc b i1 s0 (done++[c]) e h:=by
 refine⟨λa=>by simp at a,λa=> ?_⟩;cases done with
 |nil=>
  simp only[eW,iY,gT] at a;subst a;obtain⟨rfl,rfl⟩:=i.1 Y;exact⟨(f J Y).2,(f J Y).1⟩
 |cons k l=>simp at a
def adh(c:Hs)(d:T)(g:T)(P:L Pk)(e:E)(s0:RS)(h:ε)(f:Ending)(b:ε):Prop:=∃a,f=.returned a/\((a=.nilIface/\∃f,kS c d 190000 e δ f b/\(P=[(3,9)]->DY c d 3 9 s0 f))\/∃c,c≠0/\a=.iface 29 (I c)/\(g=0->P≠[(3,9)]))/\bT e h b
theorem Gl.sub(a:Gl W)(b:bT m W V)(c:m≠5):Gl V:=⟨λe d=>b.aF (a.tab e d) (λa=>c a.symm)⟩
theorem Yw{e:Hs}{d:κ}{h:RS}(b:Gl W)(g:kS e i1 m q d h W):q≠5:=λc=>by
 obtain⟨e,d,f⟩:=g.obj;subst c;have a:=b.tab 0 J;rw[aj f] at a;cases a
theorem ado(a:ε):(sizeOf 96).run prog a=.ok 2 a:=kR
theorem Oc{t:Hs}{s0:RS}{S:ν}(b9:Gl W)(d8:kS t i1 0 m δ s0 W)(g3:S.size<=600):Calls prog 12 #[.pointer (some ⟨m,0,η⟩),.string S] W (adh t i1 (gG S.data.toList) (om S.data.toList) m s0 W):=by
 have HS:=d8;obtain⟨P,u⟩:=M (om S.data.toList);rw[<-u];have e5:P.length<=300:=(by
  rw[u];have:S.data.toList.length=S.size:=iF S;unfold om;split
  .simp
  split
  .simp
  split
  .rw[vK];omega
  simp)
 have HP:=Z u;clear u;go_in
 go_wp2_with fail;refine sg (Am S W (by unfold maxLen;omega)) ?_;rintro b e0 ⟨b0,rfl,a8,a1⟩;rw[<-HP.1] at a8;obtain⟨s,z,v,x,A,rfl,e3,g4,-⟩:=DI a8;obtain⟨g,p⟩:=M (gG S.data.toList);rw[<-p];have e2:=Z p;clear p;by_cases C:g=0
 .subst C
  go_wp2_with fail;refine sg (abJ 256 e0 J J) ?_;rintro b g6 ⟨rfl,c6,Q⟩;obtain⟨o,d3⟩:=M e0.heap.size;obtain⟨B,d7⟩:=M (o+1);rw[<-d3,<-d7] at c6 |-;have b8:=(a1.step Q);have c5:(W.heap.size<=o/\W.heap.size<=B):=(oB a1.size);clear d3 d7;go_wp2_with fail;go_loopg [5] P.length (λgk s5 wr=>∃(done h c:L Pk)(a7:κ)(a0:RS)(s:ι Addr)(z v:E),s5=.slice s z v/\z=c.length/\done++(h++c)=P/\gk=h.length+c.length/\h.length<=256/\QC wr B o 256 h/\Sl 96 2 CPk wr (.slice s z v) c/\kS t i1 (510*done.length) m a7 a0 wr/\Trc t i1 s0 done a7 a0/\Fr (λd=>d=m) W wr)
  .exact⟨[],[],P,δ,s0,s,z,v,Y,e3.1,Y,sI,sI,c6,(a8.f Q),sU (HS.j b8),⟨λ_=>⟨Y,Y⟩,λb=>by cases b⟩,b8.mono (λ_ _ a=>a.elim)⟩
  case round=>
   obtain⟨done,h,c,a7,a0,s,z,v,rfl,d5,u,d4,c0,HQ,c3,HS,HT,HF⟩:=hrel;have c1:=Z u;have K:done.length+(h.length+c.length)<=300:=(by have:=e5;rw[<-u] at this;simpa using this);obtain⟨x,A,e4⟩:∃x A,N (fF 96 2 CPk wr s x A c):=by
    obtain⟨d0,x,A,g2,b,-,-,t⟩:=c3;simp only[cM] at b;obtain⟨rfl,-,rfl⟩:=b;exact⟨x,A,Z t⟩
   have a4:(m≠o):=(λb=>by obtain⟨a,S,n⟩:=HS.obj;obtain⟨-,d9,b0,e⟩:=HQ;rw[b,e] at n;cases n);have b2:(∀i d,fE i wr d->¬d=o):=(λi d ⟨f0,Q,l⟩ b=>by obtain⟨-,d9,b0,e⟩:=HQ;rw[b,e] at l;cases l);clear u;go_wp2_with fail;(rw[d5];refine sg (Un B o 256 v s x A h c wr HQ (Rk.of e4.1) (oB K) c0) ?_;rintro b G ⟨rfl,w,a6⟩;obtain⟨f,D⟩:=M (yN 256 h.length c.length);rw[<-D] at w |-;have V:f<=c.length:=by rw[D];unfold yN;omega);(have f6:h.length+f<=256:=by have:=c0;rw[D];unfold yN;omega);(have f7:c.length≠0->h.length=0->f≠0:=by rw[D];unfold yN;omega);have a5:=(c3.aJ Wj a6 (λi d _ l=>b2 i d l));rw[d5] at a5;obtain⟨d0,f8,f9⟩:=pU 89 underlying89 ado Y a5 f V;have c8:=(HS.eA a6 a4 (λi d l=>b2 i d l));have b5:=(HF.trans a6 (λ_ _ a=>a) (λg0 f5 b=>by have:=c5.1;omega));have g5:=f8 f G Y;have c4:((c.drop f).length=c.length-f):=sI;clear D;cases F:h++c.take f with
   |nil=>
    have b4:(done=P):=(by
     obtain⟨n,e⟩:=L.append_eq_nil_iff.1 F;have f2:c=[]:=nV λd6=>by
      have:=f7 (λb=>d6 (fH b)) (by simp[n]);rw[L.take_eq_nil_iff] at e;rcases e with e|e
      .exact this e
      exact d6 e
     have:=c1.1;rw[n,f2] at this;simpa using this)
    rw[F] at w;go_wp2_with fail;refine sg (PF B o 256 G w) ?_;rintro b b1 ⟨rfl,y⟩;go_wp2_with fail;refine sg (xH ((c8.j y).j cZ) (oB K)) ?_;rintro b e1 ⟨g,rfl,⟨p,a9⟩,R⟩;have a2:=Z p;clear p;go_wp2_with fail;refine sg (tF g e1) ?_;rintro b g7 ⟨rfl,rfl⟩;go_wp2;go_ret;refine⟨_,Y,?_,(((b5.step y).alloc _).trans R (λ_ _ a=>a) (λ_ _ a=>a))⟩;by_cases k:g=0
    .exact .inl ⟨by rw[k];rfl,a0,(a2.1 k).up (oB K),λb=>(HT.2 (b4.trans b)).1⟩
    exact .inr ⟨g,k,by unfold Ar;rw[aR k];rfl,λ_ b=>k (a9 (HT.2 (b4.trans b)).2)⟩
   |cons a X=>
    have PS:(done++[a]++(X++c.drop f)=P):=(by
     rw[<-c1.1];conv=>rhs;rw[<-rT f c,<-dm h,F]
     simp)
    have a3:(X.length+1=h.length+f):=(by have:=cH L.length F;simp at this;have:=V;omega);have e9:(ZT a.1 a.2=γ):=(by
     (have r:a∈P:=by rw[<-PS];simp);rw[HP.1] at r;unfold om at r;split at r
     .cases r
     split at r
     .cases r
     split at r
     .rename_i t
      exact(fY.1 t) a r
     cases r)
    rw[F] at w;go_wp2_with fail;(refine sg (QT B o 256 a X G w) ?_;rintro b b1 ⟨rfl,c7,y⟩;have b3:∀i d,fE i G d->¬d=o:=λi d ⟨f0,Q,l⟩ b=>by obtain⟨-,d9,b0,e⟩:=w;rw[b,e] at l;cases l);have c9:=(c8.eA y a4 b3);have b6:=(b5.trans y (λ_ _ a=>a) (λg0 f5 b=>by have:=c5.1;omega));go_wp2_with fail;(have d2:Fr j b1 (b1.alloc (.cells #[.int .i64 a.1,.int .i64 a.2] 96)):=cZ;refine sg (Ml (b9.sub (b6.alloc (.cells #[.int .i64 a.1,.int .i64 a.2] 96)) (Yw b9 d8)) (c9.j d2) (oB K) e9) ?_;rintro b e1 ⟨g,rfl,⟨p,a9⟩,R⟩;have a2:=Z p;have b7:=((b6.alloc _).trans R (λ_ _ a=>a) (λ_ _ a=>a));have c2:=c9.obj;have d1:=(d2.mono (λ_ _ a=>a.elim)).trans R (λ_ _ a=>a) (λ_ _ a=>a);have e7:m≠B:=λb=>by obtain⟨a,S,n⟩:=c2;have e:=c7.1;rw[b,e] at n;cases n);clear p;by_cases k:g=0
    .subst k
     obtain⟨f1,g1,e8,e6⟩:=a2.1 Y;go_wp2;go_roundg (gk-1)
     .refine⟨done++[a],X,c.drop f,f1,g1,d0,c.length-f,v-f,Y,c4.symm,PS,by have:=d4;have:=a3;have:=c4;have:=V;omega,gX a3 f6,(c7.fr d1 (λb=>e7 b.symm) (λb=>a4 b.symm)),(by obtain⟨a,S,n⟩:=c2;exact((f9 G a5).aJ Wj y (λi d _ l=>b3 i d l)).past Wj d1 n J (λa=>a)),?_,HT.next e6,b7⟩
      have:510*done.length+510=510*(done++[a]).length:=sO;rw[<-this];exact e8
     have:=d4;have:=a3;have:=V;omega
    have f3:(g==0)=δ:=sU k;have f4:(g !=0)=γ:=sU k;go_wp2;go_ret;exact⟨_,Y,.inr ⟨g,k,Y,λ_ b=>by
     have U:=PS;rw[b] at U;cases done with
     |nil=>
      simp only[eW,sV,iY] at U;exact k (a9 (by rw[U.1];decide) (HT.1 Y).2)
     |cons s i=>cases i<;>simp at U⟩,b7⟩
 have f3:(g==0)=δ:=sU C;have f4:(g !=0)=γ:=sU C;go_wp2;go_ret;exact⟨_,Y,.inr ⟨g,C,Y,λb=>absurd (e2.1.trans b) C⟩,a1.mono (λ_ _ a=>a.elim)⟩
theorem qj(c:μ)(b:L μ)(a:E):Lib.occAt b [c] a=decide (b[a]? =S c):=by
 unfold Lib.occAt;rw[show b[a]? =(b.drop a).head? from by simp[L.head?_drop]];cases b.drop a with
 |nil=>simp
 |cons a b=>rw[dS];simp;exact eq_comm
theorem Rq(a:μ):∀c,nL a c≠[]
 |[]=>by simp[nL]
 |b::c=>by
  rw[nL];split
  .simp
  cases d:nL a c<;>simp
theorem xO{a:μ}:∀{c:L μ},a ∉ c->nL a c=[c]
 |[],_=>rfl
 |b::d,c=>by
  have a:b≠a:=λa=>c (by simp[a]);rw[nL,aR a,xO (λa=>c (jh _ a))]
theorem Aw{a:μ}:∀{c:L μ}{i:E},c[i]? =S a->(∀d,d<i->c[d]? ≠S a)->nL a c=c.take i::nL a (c.drop (i+1))
 |[],i,h,_=>by simp at h
 |b::c,0,h,_=>by
  simp at h;subst h;rw[nL,aS Y];rfl
 |b::c,i+1,h,hn=>by
  have a:b≠a:=λa=>hn 0 O (by simp[a]);rw[nL,aR a,Aw (i:=i) (sU h) (λa c=>by have:=hn (a+1) O;simpa using this)];rfl
theorem Ag(b:μ):∀(a:E)(c:L μ),Lib.count c [b]=a->Lib.splitK [b] 0 a c=nL b c
 |a,e,d=>by
  rcases Lib.index_spec e [b] with⟨c,f⟩|⟨i,c,f,g,k⟩
  .rw[Lib.count_miss c] at d
   subst d;rw[xO (λl=> ?_)]
   .rfl
   obtain⟨l,h⟩:=L.mem_iff_getElem?.1 l
   have:=f l (oB ((cj.1 h).1));rw[qj,h] at this;simp at this
  rw[qj] at g;rw[Lib.count_hit sI c] at d;have h:e[i]? =S b:=sU g;obtain⟨m,rfl⟩:∃f,a=f+1:=⟨a-1,O⟩;rw[Aw h (λg f=>by have:=k g f;rw[qj] at this;simpa using this),Lib.splitK,aR (by rw[c];simp),c]
  have:=Ag b m (e.drop (i+1)) (by simp only[eK] at d;omega);simp only[gu,fI,eK];rw[this]
termination_by a=>a
theorem wH(b:μ):∀(a:E)(c:L μ),Lib.count c [b]=a->(nL b c).length=a+1
 |a,e,c=>by
  rcases Lib.index_spec e [b] with⟨d,f⟩|⟨i,d,f,g,k⟩
  .rw[Lib.count_miss d] at c
   subst c;rw[xO (λl=> ?_)]
   .rfl
   obtain⟨l,h⟩:=L.mem_iff_getElem?.1 l
   have:=f l (oB ((cj.1 h).1));rw[qj,h] at this;simp at this
  rw[qj] at g;rw[Lib.count_hit sI d] at c;have h:e[i]? =S b:=sU g;obtain⟨m,rfl⟩:∃d,a=d+1:=⟨a-1,O⟩;rw[Aw h (λf d=>by have:=k f d;rw[qj] at this;simpa using this),bW,wH b m (e.drop (i+1)) (by simp only[eK] at c;omega)]
termination_by a=>a
theorem um(a:μ)(b:L μ):(nL a b).length=Lib.count b [a]+1:=wH a _ b Y
def CS(_:ε)(b:L ζ)(c:L μ):Prop:=∃a:ν,b=[.string a]/\a.data.toList=c
theorem CSs:dU (λ_=>False) CS:=λ_ _ _ _ _ _ _ a=>a
instance:SC CS:=⟨_,CSs⟩
theorem zZ(a:ν)(b:μ)(i:T)(c:ε)(l:a.size<1000000)(l:c.cell? (H 2 0)=S (I i)):
  Calls prog 101 #[.string a,.string ⟨#[b]⟩] c λf d=>∃e,f=.returned e/\Sl 9 1 CS d e (nL b a.data.toList)/\Fr j c d:=by
 refine(Tryz.strings_Split a ⟨#[b]⟩ i c O l (jY 1)).mono ?_;rintro l i ⟨rfl,rfl⟩;have e:(Lib.splitB ⟨#[b]⟩ 0 (Lib.countB a ⟨#[b]⟩) a).map (·.data.toList)=nL b a.data.toList:=by rw[Lib.splitB_data];exact Ag b _ _ Y
 have i:(Lib.splitB ⟨#[b]⟩ 0 (Lib.countB a ⟨#[b]⟩) a).length=Lib.countB a ⟨#[b]⟩+1:=by
  have:=cH L.length e;rw[eo] at this;rw[this];exact um b _
 have f:(nL b a.data.toList).length=Lib.countB a ⟨#[b]⟩+1:=um b _;have n:Lib.countB a ⟨#[b]⟩<=a.size+1:=by
  have:=Lib.count_le a.data.toList [b];have d:a.data.toList.length=a.size:=by cases a;rfl
  rw[d] at this;exact this
 refine⟨_,Y,⟨_,c.heap.size,0,_,by rw[f],by rw[f];exact eG,by unfold maxLen;omega,.inr ⟨Y,_,_,heap_alloc_new c _⟩,λa b g=> ?_⟩,cZ⟩;rw[<-e,fN,vA] at g;obtain⟨k,m,rfl⟩:=g;refine⟨[.string k],Y,⟨k,Y,Y⟩,λh a d=> ?_⟩;cases h with
 |zero=>
  simp at d;subst d;rw[aj (heap_alloc_new c _)];simp[m]
 |succ h=>simp at d
theorem xp(a:ν)(b:μ)(c:ε)(d:a.size<1000000):
  Calls prog 100 #[.string a,.string ⟨#[b]⟩] c λe d=>e=.returned (.bool (decide (a.data.toList.getLast? =S b)))/\d=c:=by
 refine(Tryz.strings_HasSuffix a ⟨#[b]⟩ c O).mono ?_;rintro b a ⟨rfl,rfl⟩;refine⟨?_,Y⟩;congr 2
 rw[dS,cS];unfold Lib.hasSuffix;rw[L.isSuffixOf_iff_suffix];constructor
 .rintro⟨b,a⟩
  rw[<-a];simp
 intro a;obtain⟨b,a⟩:=L.getLast?_eq_some_iff.1 a;exact⟨_,a.symm⟩
end Go.Proofs.YtecdpehmhpleeaaGreatDoor
