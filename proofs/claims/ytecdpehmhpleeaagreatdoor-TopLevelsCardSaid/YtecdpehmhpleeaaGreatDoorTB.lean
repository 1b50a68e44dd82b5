/- Part of the proof that TopLevels holds, for any argument and memory that the statement allows. -/
import Derived.Test.YtecdpehmhpleeaaGreatDoorTA
import Derived.Deep.RegionLawGrows
import Derived.Tactics
import Derived.Tactics2
import Derived.Defers
import Derived.Recover
import Derived.Lib.AppendZerosOnto
import Derived.DeepKeys3
import Derived.Maps.OwnSet
open _root_ renaming rfl->Y,List->L,Nat->E,Int->T,Array->θ,Option->ι,Bool->κ
open Option renaming some->S,none->η
open Bool renaming true->γ,false->δ
open Go renaming World->ε,Value->ζ
open Nat renaming reduceEqDiff->ξ,reduceMul->ο
namespace Go.Proofs.YtecdpehmhpleeaaGreatDoor
open Go.RowKit Tryz
set_option linter.unusedVariables false
set_option linter.unusedSimpArgs false
set_option maxRecDepth 100000
set_option maxHeartbeats 16000000
variable{α β:Type}{P:Program}{m q n1 n2 n3 n4 n5:Nat}{W V U w4:World}{x v1 v2 v3 v4:Value}{i1 i2 i3 i4 i5 i6:Int}{t:TypeId}{e p1 p2:List Int}{Q:Exit→Act→World→Prop}{A:Option Addr}{C:World→List Value→α→Prop}{L1:List (List Value)}{X X1:List α}{Y1:List Value}{u u1:List UInt8}{S1:Nat→Prop}{p0 q0:Prop}{R R1:List It}{B D:List Nat}{K:List Ch}{a1 a2:Act}{r1:List Oper}{o1:Array Oper}{o2:Oper}{F:List Fc}{K1:Act→World→Prop}{x1 x2:α}{S2:ByteArray}{c3:Ch}{f1 f2:Nat×Nat}{m1:List Mk}{e1:List Ev}{N1:List Nd}{e2:Ending}{G:World→Prop}
def qH(a:L (E×E)):Rl:=λb c=>a.any (λa=>a.2==b&&a.1==c)
theorem Nt(d:E)(c:L (E×E))(a b:E):bF d (qH (c++[(a,b)]))=bF d (oI (qH c) b a):=
 pR λa _=>gU λa _=>by
  simp only[qH,oI,L.any_append,L.any_cons,L.any_nil,κ.or_false];congr 1
  rw[dS];simp;omega
theorem zh{a:Rl}(b:m<=64)(b:f1∈dQ m a m):f1.1<m/\f1.2<m/\a f1.1 f1.2=γ:=by
 obtain⟨a,c,d⟩:=ke.1 b;obtain⟨f,e,rfl⟩:=dE.1 d;obtain⟨b,a⟩:=jy.1 e;rw[row,bR] at a;simp only[bA,cS] at a;exact⟨sU c,a.1,a.2⟩
theorem Nc{a:Rl}(b:m<=64)(c:q<m)(d:n1<m)(b:a q n1=γ):(q,n1)∈dQ m a m:=
 ke.2 ⟨q,sU c,dE.2 ⟨n1,jy.2 ⟨O,by rw[row,bR];simp[d,b]⟩,Y⟩⟩
theorem Mz(b:m<=64)(a:Rl):bF m (qH (dQ m a m))=bF m (eA a):=
 pR λc a=>gU λd e=>by
  have c:c<m:=sU a;rw[dS,qH,eH,eA];constructor
  .rintro⟨f,d,a⟩
   simp only[bA,ef] at a
   have:=zh b d;rw[<-a.1,<-a.2];exact this.2.2
  intro a;exact⟨_,Nc b e c a,sI⟩
theorem uf(a:E)(c:Rl)(i:a<=64)(b:ε)(B:Gl b)(l:ζ)(s:iM a c b l):
  aQ 269 #[l] b λf d=>∃e,f=.returned (.tuple #[e,aI])/\iM a (eA c) d e/\Fr j b d:=by
 have⟨RR,RE⟩:=bD (λd(e:Fr j b d)=>jr a c i d l (s.fr e)) (λd(e:Fr j b d)=>Hn a c i d (B.fr e) l (s.fr e));obtain⟨Q,rfl,d⟩:=s;obtain⟨D,F,rfl,-,-⟩:=d.slice;rw[bY] at*;have C:=Z (λe=>mG a i e);clear d
 delta aQ;go_in
 go_wp2_with fail;refine aZ.nm (λl d=> ?_);have e:Fr j b l:=(d▸((Fr.refl j b).alloc _).alloc _);have h:N (aY l b.heap.size #[I a,.slice D a F] 355):=Z (d▸aC (bM Y) _);have m:N (l.heap[b.heap.size+1]? =S (.cells #[aI,aV] 355 (0,0))):=Z (d▸bM sI);clear d;refine sg (RR.1 l e) ?_;rintro l s ⟨rfl,d⟩;have k:=(e.step d);have⟨f,g⟩:=bD (d.hs h.1) (d.hs m.1);clear e h m d;have o:=(ba g.1);have d:=bx f.1;go_wp2_with fail;clear d;refine sg (C.1 _) ?_;rintro l u ⟨q,rfl,p,h,e⟩;have HQ:b.heap.size+1<q:=O;have m:=(k.step e);have⟨d,n⟩:=bD (e.hs f.1) (e.hs g.1);clear k f g o e;have g:=Z (h);clear h p;have e:=bx d.1;have h:=λf=>bx (aC d.1 f);have k:=λf=>dh (aC d.1 f);obtain⟨s,f⟩:=M u.heap.size;go_wp2_with fail;clear e h k;refine aZ.nm (λl h=> ?_);rw[<-f];have HM:q<s:=(oB (ba g.1));have e:Fr j u l:=h▸(Fr.refl j u).alloc _;have o:aY l s #[I a,.slice (S (H q 0)) a a] 355:=h▸bM f;clear h f;have f:=(m.step e);have⟨h,k⟩:=bD (e.hs n.1) (e.hs g.1);clear m d n g e;have e:=Z (o);clear o;refine sg (RE.1 l f) ?_;rintro l o ⟨s,rfl,G,d⟩;have v:=(f.step d);have⟨y,g,x⟩:=dt (d.hs h.1) (d.hs k.1) (d.hs e.1);clear f h k e d;obtain⟨K,r,A,P,rfl,-,-,n⟩:=G;obtain⟨k,d⟩:=M ((dQ a c a).length);have l:k<=4096:=oB (qe a c a);rw[<-d];have HL2:=Z d;clear d;have z:Ub o q (bF a (qH [])):=(by have:=g.1;rw[mY,vX] at this;exact this);clear g;go_wp2_with fail;go_loopg [7,21] k (λgk s7 t wr=>∃d:E,d+gk=k/\t=I d/\bT q o wr/\Ub wr q (bF a (qH ((dQ a c a).take d))))
 .exact⟨0,du,Y,rF,z⟩
 case round=>
  obtain⟨e,HK,rfl,f,g⟩:=hrel;have l:e<=k:=O;by_cases l:e<k
  .obtain⟨⟨m,d⟩,h⟩:∃l,(dQ a c a)[e]? =S l:=⟨_,cF An⟩
   (obtain⟨w,p,-⟩:=zh i (bQ h);simp only at w p;obtain rfl:=n.addr h;have s:¬r=q:=λl=>((n.uQ h).ne (⟨_,_,z⟩:fE 336 o q) J) l;have l:=(v.keep f (λt l=>by omega));have l:=Z (f.aB y.1 (λl=>by omega));have l:=Z (f.aB x.1 (λu=>by omega));have u:wr.cell? (H r (A+e*2))=S (I m):=f.aF (by have:=Sl.pl n h 0 _ Y;exact this) s;have n:wr.cell? (H r (A+e*2+1))=S (I d):=f.aF (Sl.pl n h 1 _ Y) s;have u:=Z h;have⟨k,n⟩:=dy e k;have⟨k,n⟩:=dy d a;obtain⟨k,n⟩:=M (row a (qH ((dQ a c a).take e)) d);have r:wr.cell? (H q d)=S (.int .u64 (k:E)):=by rw[n];exact g.cell (cL p));(have r:∀s,(wr.alloc s).cell? (H q d)=S (.int .u64 (k:E)):=λs=>by rw[aj (aC g s),<-aj g];exact r);have r:∀r,(wr.alloc r).frozen? (H q d)=δ:=λr=>aG (aC g r) _;have s:N (∀r,aQ 274 #[.int .u64 (k:E),I m] r λz s=>z=.returned (.int .u64 ((k|||2 ^ m:E):T))/\r=s):=Z (λr=>wW _ _ (n▸dW i) O r);obtain⟨r,k⟩:=M (k|||2 ^ m);rw[<-k] at s;have HS:N (r=row a (qH ((dQ a c a).take e)) d|||2 ^ m):=Z (by rw[k,n]);clear n k h;have h:=dh l.1;have h:=λh=>dh (aC l.1 h);go_wp2_with fail;refine uH 14 kR kR ?_;simp only[L.take_succ_cons,L.take_zero,L.drop_succ_cons,la];repeat still_step
   still_call ((s.1 _).mono λ_ _ ⟨h,k⟩=>⟨h,k.symm⟩)
   (repeat still_step);refine wpStill_nil ?_;have h:N (∀h,Ub ((wr.alloc h).setCell (H q d) (.int .u64 (r:T))) q (bF a (qH ((dQ a c a).take (e+1))))):=Z (λh=>by
    have h:=Ub.set (g.fr ((Fr.refl j wr).alloc h) id) d r;rw[HS.1,Dj p w] at h;rw[bJ u.1,Nt,HS.1];exact h)
   have d:N (∀k m,bT q o ((wr.alloc k).setCell (H q d) m)):=Z (λk m=>(f.alloc k).aK d m);go_wp2;go_roundg (gk-1)
   .exact⟨e+1,O,by go_num,(d.1 _ _).drew,(h.1 _).fr tC.drew id⟩
   omega
  have h:Ub wr q (bF a (eA c)):=(by have:=g;rwa[dq An,Mz i] at this);have i:=(v.keep f (λt d=>by omega));have d:=Z (f.aB y.1 (λd=>by omega));have l:=Z (f.aB x.1 (λe=>by omega));clear g;have e:=bx l.1;have e:=dh l.1;obtain⟨e,f,k⟩:=oK d.1;have RB:∀e f,((wr.setCell (H (b.heap.size+1) 0) e).setCell (H (b.heap.size+1) 1) f).heap[b.heap.size+1]? =S (.cells #[e,f] 355 (0,0)):=λe f=>(aD (aD d.1 0 e) 1 f).trans Y;have⟨C0,e⟩:=bD (aj (RB (I a) (.slice (S (H q 0)) a a)) 0) (aj (RB (I a) (.slice (S (H q 0)) a a)) 1);clear RB;have d:¬q=b.heap.size+1:=O;have m:N (∀f g,Ub ((wr.setCell (H (b.heap.size+1) 0) f).setCell (H (b.heap.size+1) 1) g) q (bF a (eA c))):=Z (λc f=>bi (bi h _ d c) _ d f);have g:N (∀c f,Fr j b ((wr.setCell (H (b.heap.size+1) 0) c).setCell (H (b.heap.size+1) 1) f)):=Z (λc f=>(i.cN _ (by show _<=b.heap.size+1;omega) c).cN _ (by show _<=b.heap.size+1;omega) f);clear d;go_wp2;refine aO (v:=.tuple #[.agg #[I a,.slice (S (H q 0)) a a],aI]) (by have b:=C0.1;have c:=e.1;simp[results,results269,go_sem,b,c]) Y ⟨_,Y,⟨_,Y,(m.1 _ _).sl (bY a _) (by simp[maxLen];omega)⟩,g.1 _ _⟩
theorem QZ{a:Rl}(b:(vW m a n1).getD n1 0=0):Iv m a (q+1) n1=Iv m a q (n1+1):=by rw[Iv,aS b]
theorem Wh{a:Rl}(b:(vW m a n1).getD n1 0≠0):Iv m a (q+1) n1=oE m a (vW m a n1) ((vW m a n1).getD n1 0-1) [n1]:=by rw[Iv,aR b]
theorem Ax{b:E->κ}(c:∀(d a:E),B[d]? =S a->b a=δ):B.find? b=η:=L.find?_eq_none.2 λa b=>by
 obtain⟨d,b⟩:=kc b;rw[c d a b];simp
theorem KO:∀{b:L E}{c:E->κ}{f d:E},b[f]? =S d->c d=γ->(∀(e g:E),e<f->b[e]? =S g->c g=δ)->b.find? c=S d
 |[],_,_,_,h,_,_=>by simp at h
 |a::r,b,0,c,h,hp,_=>by
  simp at h;subst h;simp[hp]
 |a::r,c,b+1,d,h,hp,hl=>by
  rw[rZ,(hl 0 a O Y)];exact KO (sU h) hp (λc d e b=>hl (c+1) d O (sU b))
theorem cC.one(d:aY W q #[I i1] 3)(c:m<=q):cC m 3 1 CI W (.slice (S (H q 0)) 1 1) [i1] [cW i1]:=
 cC.lit d c Y (by simp[maxLen]) Y Y (λc d e a b=>by
  match c with
  |0=>simp at a b;subst a b;exact⟨Y,Y⟩
  |b+1=>simp at a)
theorem Yh(a)(c:m<=64)(b:q<m):(vW m a q).length=64:=by
 obtain⟨b,a,_⟩:=vI a c b;exact a.len
theorem abM(a)(d:m<=64)(c:q<m)(b):(vW m a q).getD b 0<=71:=by
 obtain⟨d,a,c⟩:=vI a d c
 have:=a.le b;omega
structure Ch1(n:E)(f:Rl)(d:List E)(D B:E)(res:List E)(W wr:ε)(left:E)(v:ζ)(o:List E)(L:List (List ζ)):Prop where
 ch:oE n f d left o=res
 lt:∀x∈o,x<n
 pos:0<o.length
 len:o.length+left<=72
 own:cC B 3 1 CI wr v (cU o) L
 fr:Fr j W wr
theorem mS(a b)(Q:a<=64)(o)(b2:Gl o)(a2)(e9:iM a b o a2):
  aQ 214 #[a2] o λr z=>∃c0,r=.returned c0/\Sl 3 1 CI z c0 (cU (dF a b))/\Fr j o z:=by
 have RT:=(λy(c1:Fr j o y)=>uf a b Q y (b2.fr c1) a2 (e9.fr c1));obtain⟨j0,rfl,D⟩:=e9;obtain⟨h0,C,G,X,rfl,-,-,d2⟩:=D;rw[bY] at*
 delta aQ;go_in
 go_wp2_with fail;refine aZ.nm (λc1 a2=> ?_);have c9:Fr j o c1:=(a2▸(Fr.refl j o).alloc _);have f9:(aY c1 o.heap.size #[I a,.slice h0 a X] 355):=(a2▸bM Y);clear a2;refine sg (RT c1 c9) ?_;rintro r c4 ⟨c0,rfl,f4,s⟩;have g2:=(c9.step s);have c7:=(s.hs f9);have g6:=f4;obtain⟨j1,rfl,i0⟩:=f4;obtain⟨e2,e4,rfl,-,-⟩:=i0.slice;rw[bY] at*;have a2:=λd=>bx (aC c7 d);obtain⟨c9,a2⟩:=M c4.heap.size;go_wp2_with fail;refine cT (λa8 c0=> ?_);rw[<-a2];have c1:aY a8 c9 #[I a,.slice e2 a e4] 355:=c0▸bM a2;have s:Fr j c4 a8:=c0▸(Fr.refl j c4).alloc _;have g7:=(g6.fr s);clear c0 a2;have d0:=(g2.step s);have⟨c8,e0⟩:=bD (s.hs c7) (c1);go_loopg [20] a (λgk i wr=>∃c:E,c+gk=a/\i=I c/\Iv a b gk c=dF a b/\Fr j a8 wr)
 .exact⟨0,du,Y,Y,rF⟩
 case round=>
  obtain⟨c,HK,rfl,h4,x⟩:=hrel;have b3:=Z h4;have a2:c<=a:=O;by_cases P:c<a
  .obtain⟨a1,h7⟩:∃a1,gk=a1+1:=⟨gk-1,O⟩
   subst h7;have⟨a2,c0⟩:=dy c a;have a2:(c:T)<64:=O;obtain rfl:=d2.addr (cL P);obtain⟨i8,i4⟩:=M wr;subst i4;have K:=(d0.step x);have b8:=(x.hs e0.1);have a2:=bx b8;have a2:=dh b8;go_wp2_with fail;refine sg (YE a b Q c P i8 (b2.fr K) _ (g7.fr x)) ?_;rintro r c5 ⟨rfl,s⟩;obtain⟨v,a2⟩:=M (vW a b c);rw[<-a2];have⟨b4,V⟩:=bD a2 (a2▸Yh b Q P);have c9:=(x.step s);have c7:=(K.step s);have c4:=Z (s.hs (x.hs c8.1));clear K;clear a2;obtain⟨A,c1⟩:=M c5.heap.size;have e9:=Z c1;go_wp2_with (refine aU Y 418 (.tmp 6) (.tmp 25) Y Y Y (bM Y) (by rw[mM,V.1];rfl) (by rw[vV,mM,V.1]) (CM _) ?_;refine stop ?_);(refine aZ.go ?_;intro n c0 a2;rw[<-c1] at c0 a2 |-;have d9:Ib n A 418 v:=c0;have s:Fr j c5 n:=(((Fr.refl j c5).alloc _).keep a2 (λi r=>by have:=e9.1;omega));have g3:Fr j a8 n:=(c9.step s);clear c0 a2 c1;have d1:Fr j o n:=(c7.step s);have g0:N (aY n o.heap.size #[I a,.slice (S (H C G)) a X] 355):=Z (s.hs c4.1);clear c7 c4 s;obtain⟨w,s⟩:=M (v.getD c 0);have a0:n.cell? (H A c)=S (I w):=by rw[s];exact d9.cell (oB V.1));(have h3:∀d,(n.alloc d).cell? (H A c)=S (I w):=λd=>(((Fr.refl j n).alloc d).aF a0 id);have b5:N (w=(vW a b c).getD c 0):=Z (by rw[s,b4.1]);have a2:w<=71:=by rw[s,b4.1];exact abM b Q P c);clear s;by_cases h:w=0
   .subst h
    have B:N (Iv a b a1 (c+1)=dF a b):=Z (by have:=b3.1;rwa[QZ b5.1.symm] at this);go_wp2;go_roundg a1
    .exact⟨c+1,O,by go_num,B.1,g3⟩
    omega
   (have s:((w:T)==0)=δ:=by rw[wC];simpa using h);obtain⟨s,a1⟩:∃s,w=s+1:=⟨w-1,O⟩;have B:N (oE a b v s [c]=dF a b):=Z (by have:=b3.1;rwa[Wh (by rw[<-b5.1];exact h),<-b5.1,a1,E.add_sub_cancel,<-b4.1] at this);have a2:(w:T)-1=(s:T):=O;have w:s<=70:=O;clear a1 h;go_wp2_with fail;obtain⟨a1,w⟩:=M n.heap.size;have d3:=Z w;rw[<-w];have g9:cC a1 3 1 CI (n.alloc (.cells #[I c] 3)) (.slice (S (H a1 0)) 1 1) (cU [c]) [cW (c:T)]:=(cC.one (bM w) eG);clear w a2 a0 h3;obtain⟨a7,w⟩:=M (dF a b);rw[<-w] at B;have g5:=Z w;clear w;go_loopg [7,8] s (λgk s7 s8 wr=>∃(d:L E)(b7:L (L ζ)),s8=I gk/\gk<=s/\Ch1 a b v A a1 a7 n wr gk s7 d b7)
   .exact⟨[c],_,Y,eG,B.1,by simp;exact P,sI,sO,g9,(Fr.refl j n).alloc _⟩
   case round=>
    (obtain⟨d,b7,rfl,i9,e⟩:=hrel;have a4:(cU d).length=d.length:=by simp[cU]);obtain⟨p,c2⟩:=M d.length;rw[<-c2] at a4;obtain⟨e3,b9,rfl,-,-⟩:=e.own.shape a4;have⟨d6,d7⟩:=bD a4 c2;have c:p<=72:=oB e.len;have c:0<p:=oB e.pos;clear a4 c2;obtain⟨wc,i3⟩:=M wr;subst i3;by_cases f3:gk=0
    .subst f3
     have g1:Sl 3 1 CI wc (.slice e3 p b9) (cU a7):=(by have f:=e.ch;rw[<-f];exact e.own.read);have b1:=(d1.step e.fr);go_wp2;go_ret;exact⟨_,Y,by rw[<-g5.1];exact g1,b1⟩
    (obtain⟨t,h8⟩:∃t,gk=t+1:=⟨gk-1,O⟩;subst h8;obtain⟨u,h9⟩:∃u,p=u+1:=⟨p-1,O⟩;have i1:IntKind.i64.wrap ((p:T)-1)=(u:T):=by rw[kH _ O];omega);(obtain⟨k,a5⟩:=gE d u (oB d7.1);have f5:d.getLastD 0=k:=by rw[L.getLastD_eq_getLast?,L.getLast?_eq_getElem?,show d.length-1=u from by have:=d7.1;omega,a5];rfl);(have i5:=e.lt k (bQ a5);have f8:(cU d)[u]? =S (k:T):=by simp[cU,a5]);(obtain⟨R,h2,c,f7,h6,h5,f2,f1,-,-,-⟩:=e.own.at f8;obtain⟨rfl,rfl⟩:e3=S (H R 0)/\b9=h2:=by simpa[d6.1] using f7);(have e6:wc.cell? (H R u)=S (I k):=by have:=f1 0 _ (by rw[f2];rfl);simpa using this);(obtain⟨m,D⟩:=M (row a b k);have c:=(d1.step e.fr);have s:=Z (e.fr.hs g0.1);have e7:wc.cell? (H C (G+k))=S (.int .u64 (m:E)):=by rw[D];exact(d2.f c).u64 (cL i5));have e5:=dh s.1;have HS:=Z D;have a1:m<18446744073709551616:=D▸dW Q;have⟨g4,P,w,s⟩:=gB f5 e7 e6 e5;have⟨Q,a2⟩:=dy u p;have⟨Q,a2⟩:=dy k a;have Q:=(b2.fr c);clear f7 h6 h5 f2 f1 D a5 f8 f5 f3 h9;have c:N (∀y,Fr j wc y->(y.cell? (H o.heap.size 1)=S (.slice (S (H C G)) a X)/\y.cell? (H R u)=S (I k)/\y.cell? (H C (G+k))=S (.int .u64 (m:E)))):=Z (λy b=>⟨b.aF s.1 id,b.aF w.1 id,b.aF P.1 id⟩);go_wp2;(go_region_held3 (λz=>z.cell? (H o.heap.size 1)=S (.slice (S (H C G)) a X)/\z.cell? (H R u)=S (I k)/\z.cell? (H C (G+k))=S (.int .u64 (m:E))) (first|(exact c.1 _ b0.1)|go_keep) ((go_at_call 271;refine(rJ m a1 wc.drew (Q.fr (Fr.refl j wc).drew)).mono ?_;rintro r W ⟨c,rfl,i2,e8⟩;obtain⟨e2,h1,i7,e4,rfl,-,-,f0⟩:=i2;have HL:=Z f0;have b0:N (Fr j wc W):=Z ((Fr.refl j wc).drew.step e8);clear f0 e8)));(clear e5 e6 e7 i1;have o:(cU (cJ m)).length=(cJ m).length:=by simp[cU]);(rw[o];obtain⟨F,c⟩:=M ((cJ m).length);rw[<-c];have HL2:=Z c;have s:F<=64:=by rw[c];exact kU m);clear o c;have d4:N (cJ m=cJ (row a b (d.getLastD 0))):=Z (by rw[HS.1,g4.1]);have e1:=(e.own.fr da b0.1);have U:Fr j n W:=(e.fr.step b0.1);have g8:Ib W A 418 v:=(U.hs d9);go_wp2;go_loopg [7,52] F (λgk s7 i wr=>∃l:E,l+gk=F/\s7=.slice (S (H R 0)) p b9/\i=I l/\(∀(i g:E),i<l->(cJ m)[i]? =S g->(v.getD g 0==t+1)=δ)/\wr=W)
    .exact⟨0,du,Y,Y,λi g a3=>by omega,Y⟩
    case round=>
     obtain⟨l,HJ,rfl,rfl,f6,rfl⟩:=hrel;have b6:=Z f6;have c:l<=F:=O;clear f6;by_cases c:l<F
     .obtain⟨g,a6⟩:∃g,(cJ m)[l]? =S g:=⟨_,cF An⟩
      (have i6:g<a:=EJ (HS.1▸lJ (b k) a) (bQ a6);have c3:(cU (cJ m))[l]? =S (g:T):=by simp[cU,a6]);(obtain rfl:=HL.1.addr c3;have s:wr.cell? (H h1 (i7+l))=S (I g):=HL.1.int c3;obtain⟨r,c⟩:=M (v.getD g 0);have a0:wr.cell? (H A g)=S (I r):=by rw[c];exact g8.cell (oB V.1));have⟨d8,d5⟩:=bD a6 c;have⟨m,n⟩:=dy l F;have m:(0:T)<=(g:T):=jD;have m:(g:T)<64:=O;clear a6 c3 c;by_cases c:r=t+1
      .have HQ:=Z c
       (have n:((r:T)==((t+1:E):T))=γ:=by rw[c];simp);have m:(p+1)*8<=140737488355328:=O;have o:p+1<=maxLen:=mL;clear c;go_wp2_with (at_builtin;refine stop ?_);refine aZ.go (bH Y (.tmp 61) (.tmp 63) Y oG p d6.1 Y (e1.fr da (tC.alloc _)) da id (g:T) Y Y (eF.one _ _ _ Y) (λ_ _=>Y) m o ?p6 ?p7)
       case p6=>have:=U.size;have:=d3.1;simp;omega
       case p7=>
        intro o u w p m _ _;have o:=(m.fr (oB d3.1) (U.alloc _));clear m s a0 n;have a9:N (oE a b v t (d++[g])=a7):=Z (by have f:=e.ch;rw[oE,<-d4.1,KO d8.1 (by rw[<-d5.1,HQ.1];simp) b6.1] at f;exact f);go_wp2;go_roundg t
        .exact⟨d++[g],_,by go_num,O,⟨a9.1,λc6 h=>by rcases cB.1 h with h|h;exact e.lt c6 h;simp at h;rw[h];exact i6,sI,by have:=e.len;simp;omega,by have f:=p;simp only[cU,nO,jC,nu] at f |-;exact f,o⟩⟩
        omega
      have n:((r:T)==((t+1:E):T))=δ:=sO;have HQ:=Z c;clear c;go_wp2;go_roundg (gk-1)
      .exact⟨l+1,O,Y,by go_num,λi c6 a3 h=>by
       rcases dP i l with f|f
       .exact b6.1 i c6 f h
       obtain rfl:i=l:=O;rw[d8.1] at h;obtain rfl:=cI h;rw[<-d5.1];simpa using HQ.1,Y⟩
      omega
     have a9:N (oE a b v t d=a7):=Z (by have f:=e.ch;rw[oE,<-d4.1,Ax (λi k a3=>b6.1 i k (gX ((cj.1 a3).1) HL2.1) a3)] at f;exact f);go_wp2;go_roundg t
     .exact⟨d,b7,by go_num,O,⟨a9.1,e.lt,e.pos,oB e.len,e1,U⟩⟩
     omega
  have B:N (dF a b=[]):=Z (by have f:=b3.1;rw[show gk=0 from by omega] at f;exact f.symm);have K:=(d0.step x);have⟨a,b8⟩:=bD (x.hs c8.1) (x.hs e0.1);have b1:=K;go_wp2;go_ret;exact⟨_,Y,by rw[B.1];exact dJ,b1⟩
def uC(b:Rl)(a:Ch):Rl:=oI b a.a.toNat a.b.toNat
def vm(a:Hs)(b:L Ch):E:=if dw a b then a.length else 0
def Jg(b:Hs)(a:L Ch):Rl:=if dw b a then a.foldl uC iO else iO
theorem As{a:Hs}(b:dA a c3=γ):∃c d:E,c3.a=(c:T)/\c3.b=(d:T)/\c<a.length/\d<a.length:=by
 unfold dA fG kN at b;simp only[bA,cS] at b;exact⟨c3.a.toNat,c3.b.toNat,O,O,O,O⟩
theorem Sg(g:Hs)(b:L Ch)(d0 d1:ζ)(k:ε)(c0:eJ k d0 g)(c2:Sl 144 3 CC k d1 b):
  aQ 266 #[d0,d1] k λd d2=>∃a2,d=.returned a2/\iM (vm g b) (Jg g b) d2 a2/\Fr j k d2:=by
 have b0:=c0;have HL:=c2;obtain⟨j3,rfl,h⟩:=c0;obtain⟨g2,g4,j1,g8,rfl,f2,h9,h8⟩:=h;obtain⟨g3,g7,j2,h5,rfl,f4,f5,b1⟩:=c2;generalize c3:g.length=a at b0 f2 |-;generalize i7:b.length=u at HL f4 |-;unfold maxLen at f5
 delta aQ;go_in
 go_wp2_with fail;refine aZ.nm (λd3 C=> ?_);obtain⟨f1,X⟩:=M k.heap.size;rw[<-X];generalize f8:f1+1=c;have d7:=uV C X;have e1:aY d3 c #[aI,aV] 355:=(by rw[C];exact bM sO);have P:=lq C;have i8:k.heap.size<=c:=O;clear C X f8;refine sg (jT g b _ _ d3 (b0.fr P) (HL.f P)) ?_;rintro d d4 ⟨rfl,W⟩;have a6:=(P.step W);have R:=(W.hs e1);have c1:(prog.info? 355).map (·.size)=S 2:=kR;cases B:dw g b
 .have p:vm g b=0/\Jg g b=iO:=(by unfold vm Jg;rw[B];exact⟨Y,Y⟩)
  obtain⟨e6,e7,g1⟩:=oK R;go_wp2;have w:((d4.setCell (H c 0) aI).setCell (H c 1) aV).heap[c]? =S (.cells #[aI,aV] 355 (0,0)):=by
   have:=aD (aD R 0 aI) 1 aV;simpa using this
  refine aO (gp Y _ _ c 355 _ (0,0) _ Y w underlying355 Y (by rw[c1];rfl)) Y ⟨_,Y,?_,?_⟩
  .rw[p.1,p.2]
   exact⟨_,Y,dJ⟩
  exact a6.keep ((rF.aK (q:=c) 0 _).aK 1 _) (λn d=>by omega)
 have p:vm g b=a/\Jg g b=b.foldl uC iO:=(by unfold vm Jg;rw[B,<-c3];exact⟨Y,Y⟩);have i5:a<=32:=oB (bK (fm B).1);have e5:=bx (W.hs d7.1);go_wp2_with fail;refine sg (mG a O d4) ?_;rintro d a3 ⟨b5,rfl,i1,e0,b3⟩;have a7:=(a6.step b3);have w:=(b3.hs R);go_wp2_with fail;obtain⟨a4,m⟩:=M (a3.alloc (.cells #[I a,.slice (S (H b5 0)) a a] 355));obtain⟨f,a0⟩:=M a3.heap.size;rw[<-m,<-a0];have a8:=(a7.step (cY m));have e2:aY a4 c #[aI,aV] 355:=(by rw[m];exact aC w _);have f3:f≠c:=oB (ba w);have a9:GB a iO a4 f:=(by
  have f9:Ub a3 b5 (bF a iO):=by rw[<-vX];unfold Ub;rw[e0,mY]
  refine⟨_,by rw[m];exact bM a0,?_⟩;rw[m];exact(f9.sl (bY _ _) (by unfold maxLen;omega)).f cZ)
 have i0:k.heap.size<=f:=oB a7.size;clear m a0;go_loopg [23] u (λgk s23 wr=>∃e:E,e+gk=u/\s23=I e/\GB a ((b.take e).foldl uC iO) wr f/\bT f a4 wr)
 .exact⟨0,du,Y,a9,rF⟩
 case round=>
  obtain⟨e,HK,rfl,b9,v⟩:=hrel;have i4:e<=u:=O;generalize b8:(b.take e).foldl uC iO=r at b9;obtain⟨s5,l,c4⟩:=b9;have V:=c4;obtain⟨x,g5,i9,A,rfl,-,-,-⟩:=c4;generalize f6:(bF a r).length=F at l V;have U:=(v.aB e2 (λd=>f3 d.symm));clear f6;by_cases i6:e<u
  .obtain⟨a5,D⟩:=gE b e O
   obtain rfl:=b1.addr D;obtain⟨e8,e9,f0⟩:=((b1.f a8).aJ (Pl.aJ eM (λ_=>False)) v (λc9 e i t d=>t.ne (by obtain⟨_,s,_⟩:=a9;exact⟨_,_,d▸s⟩) (by rcases i with rfl|i;decide;exact i.elim) Y)).ch D;have e4:(b.take (e+1)).foldl uC iO=uC r a5:=(by rw[bJ D,mf,b8];rfl);obtain⟨d5,d6,b6,b7,c7,c8⟩:=As (((fm B).2) a5 (bQ D));obtain⟨h4,h2,h3⟩:=a5;simp only at b6 b7 e8 e9 f0;subst b6 b7;rw[c3] at c7 c8;have⟨i2,i3⟩:=dy e u;have h6:=λa1=>bx (aC l a1);have h7:=λa1=>dh (aC l a1);go_wp2_with fail;refine aZ.nm (λg0 c6=> ?_);have Q:=cY c6;clear c6;refine sg (wS a r O d5 d6 c7 c8 g0 _ ⟨_,Y,V.f Q⟩) ?_;rintro d K ⟨a2,rfl,⟨j4,rfl,c5⟩,b4⟩;have b2:=c5;have o:=(b4.hs (Q.aB l id));obtain⟨y,g6,j0,z,rfl,-,-,-⟩:=c5;generalize f7:(bF a (oI r d5 d6)).length=G at b2 |-;have j5:∀n,K.frozen? (H f n)=δ:=λn=>aG o n;have h0:=bx o;have h1:=dh o;clear f7;go_wp2;have h:bT f K ((K.setCell (H f 0) (I a)).setCell (H f 1) (.slice y G z)):=(rF.aK 0 _).aK 1 _;have d9:((K.setCell (H f 0) (I a)).setCell (H f 1) (.slice y G z)).heap[f]? =S (.cells #[I a,.slice y G z] 355 (0,0)):=(by
    have:=aD (aD o 0 (I a)) 1 (.slice y G z);simpa using this)
   go_roundg (gk-1)
   .exact⟨e+1,O,by go_num,by
    rw[e4];refine⟨_,d9,b2.aJ jR h (λc9 e i t d=> ?_)⟩;have s:=i.resolve_right id;subst s;exact t.ne ⟨_,_,d▸o⟩ J Y,((v.step Q).step b4).tr h⟩
   omega
  have d8:r=b.foldl uC iO:=(by rw[<-b8];congr 1;apply dq;omega);have e5:=bx l;have g9:=dh l;obtain⟨e6,e7,g1⟩:=oK U;go_wp2;have e3:((wr.setCell (H c 0) (I a)).setCell (H c 1) (.slice x F A)).heap[c]? =S (.cells #[I a,.slice x F A] 355 (0,0)):=by
   have:=aD (aD U 0 (I a)) 1 (.slice x F A);simpa using this
  have h:bT c wr ((wr.setCell (H c 0) (I a)).setCell (H c 1) (.slice x F A)):=(rF.aK 0 _).aK 1 _;refine aO (gp Y _ _ c 355 _ (0,0) _ Y e3 underlying355 Y (by rw[c1];rfl)) Y ⟨_,Y,?_,(a8.keep v (λn d=>by omega)).keep h (λn d=>by omega)⟩;rw[p.1,p.2,<-d8];refine⟨_,Y,V.aJ jR h (λc9 e i t d=> ?_)⟩;have s:=i.resolve_right id;subst s;exact t.ne ⟨_,_,d▸U⟩ J Y
section
open Go.RowKit Go.Shelf
attribute [local go_sem] mB
def fM:E->L Tn->L (E×Tk)
 |_,[]=>[]
 |n,a::b=>a.r.map (λa=>(n,a))++fM (n+1) b
def gz(a:Hs):L (E×Tk):=if bm a then fM 0 a else[]
def rdv(a:E×Tk):ζ:=.agg #[I (a.1:E),I a.2.k,I a.2.f]
theorem OF(a i c G)(b:aY i c #[G] 54)(F:Sl 77 3 CT i G a):
  Itr (HF i c) 340 #[aP c 0] rdv (gz a) []:=by
 intro a5 a4 z G K m HS U l;refine nH.2 ?_;have e:=F;obtain⟨A,a8,a9,D,rfl,a0,a1,t⟩:=F;have x:∀d,HF i c d->Sl 77 3 CT d (.slice A a.length D) a:=(λf d=>e.aJ CT.aJ d (λg k f d h=>h.2 g (f.imp id id) d));generalize F:a.length=d at a0 b x;have v:∀f,HF i c f->aY f c #[.slice A d D] 54:=(λg f=>f.aB b (λf=>f.1 Y));have f:=bx (v _ (HS _ _ _ l));unfold maxLen at a1;clear b e;show aQ 340 #[.func (.yield a4) #[] #[],aP c 0] K _;go_enter func340,ntmps340;go_wp2_with fail;clear f;refine sg (dV a _ K ⟨_,Y,x _ (HS _ _ _ l)⟩) ?_;rintro i x ⟨rfl,b⟩;have n:=(m _ _ _ _ _ l (b.mono (λ_ _ e=>e.elim)) (λf e=>.inl e));clear b;cases b:bm a
 .have e:gz a=[]:=(by unfold gz;rw[b];rfl)
  go_wp2;refine aO (io Y _ _ _) Y ?_;exact⟨⟨_,Y⟩,.inl ⟨_,by rw[e];exact n⟩⟩
 have W:fM 0 a=gz a:=(by unfold gz;rw[b];rfl);have i:d<=32:=oB (bK b);clear b;have b:=bx (v _ (HS _ _ _ n));go_wp2_with fail;clear b;go_loopg [3,4,6,13] d (λgk s3 s4 s6 s13 wr=>∃(b:E)(e:L (E×Tk))(f:L E),b+gk=d/\s13=I b/\e++fM b (a.drop b)=gz a/\z e f wr)
 .exact⟨0,_,_,du,Y,W,n⟩
 case round=>
  obtain⟨b,s,C,HK,rfl,HP,o⟩:=hrel;have i:b<=d:=O;obtain⟨X,rfl⟩:=M gk;by_cases i:b<d
  .obtain⟨e,f⟩:=gE a b O
   obtain rfl:=t.addr f;obtain⟨i,A,K,F,c,x,G,D,t,v,l,n,u⟩:=HF.tn (B:=c) t f;have R:s++(e.r.map (λc=>(b,c))++fM (b+1) (a.drop (b+1)))=gz a:=(by
    rw[<-HP,gF f,fM])
   obtain⟨c,h,i,-,-,-⟩:=u wr (HS _ _ _ o);generalize k:e.w.length=x at h t;generalize l:e.r.length=g at i l;generalize l:e.s=l at c;have⟨d,t⟩:=dy b d;unfold maxLen at v n;clear k l f;go_wp2_with fail;refine cT (λd f=> ?_);obtain⟨q,d⟩:=M wr.heap.size;have V:=(m _ _ _ _ _ o ((cY f).mono (λ_ _ k=>k.elim)) (λl k=>.inl k));rw[<-d];clear f d c h i;go_loopg [6,21] g (λgk s6 s21 wr=>∃(c:E)(d:L (E×Tk))(f:L E),c+gk=g/\s21=I c/\
    d++((e.r.drop c).map (λc=>(b,c))++fM (b+1) (a.drop (b+1)))=gz a/\z d f wr)
   .exact⟨0,s,C,du,Y,R,V⟩
   case round=>
    obtain⟨P,a3⟩:=M wr;subst a3;obtain⟨f,h,B,HI,rfl,w,p⟩:=hrel;have c:f<=g:=O;by_cases c:f<g
    .obtain⟨Q,k⟩:=gE e.r f O
     obtain⟨-,-,-,-,-,r⟩:=u P (HS _ _ _ p);obtain rfl:=r.addr k;obtain⟨i,l⟩:=r.tk k;have y:h++(b,Q)::((e.r.drop (f+1)).map (λc=>(b,c))++fM (b+1) (a.drop (b+1)))=gz a:=(by
      rw[<-w,gF k];rfl)
     obtain⟨a7,a6⟩:=Q;simp only at i l;have⟨c,d⟩:=dy f g;clear r k;go_upto_region 7 with fail;refine cT (λn d=> ?_);obtain⟨e,c⟩:=M P.heap.size;have e:=dL d c;have g:=(m _ _ _ _ _ p ((cY d).mono (λ_ _ g=>g.elim)) (λk g=>.inl g));rw[<-c];clear d c i l;have c:=bx e.1;have c:=dh e.1;obtain⟨g,i,c,e,r,d⟩:=U h _ _ B n y.symm g;unfold rdv at r;simp only at r;refine(gS (n:=a5)).1 ?_;gi_wp2;refine⟨λc=>by simp[Fence.wide] at c,d.mono ?_⟩;rintro c d (⟨rfl,k,a2⟩|⟨rfl,k⟩)
     case' inr=>
      gi_wp2;go_wp2;refine aO (io Y _ _ _) Y ?_;exact⟨⟨_,Y⟩,.inr k⟩
     clear a2 r;gi_wp2;go_wp2;go_roundg (gk-1)
     .exact⟨f+1,h++[(b,⟨a7,a6⟩)],B,O,by go_num,by have:=y;rw[dm];exact this,k⟩
     omega
    have c:h++fM (b+1) (a.drop (b+1))=gz a:=(by
     have:=w;rw[mq O] at this;simpa using this)
    go_wp2;go_roundg (X-1)
    .exact⟨b+1,h,_,O,by go_num,c,p⟩
    omega
  have e:s=gz a:=(by
   have:=HP;rw[mq O] at this;simpa[fM] using this)
  go_wp2;go_end0
  exact⟨⟨_,Y⟩,.inl ⟨C,e▸o⟩⟩
end
section
open Go.RowKit Go.Shelf
attribute [local go_sem] mB
theorem lY{k:TypeId->Prop}{e:Fence}{P:Program}(U:o2.guard=η)(r s){h:TypeId}(g:o2.op=Op.call {callee:=Callee.builtin Builtin.append,args:=#[r,s],argTypes:=#[h,h]})(v:dK P h t m n1)(b)(V:X.length=b)(a2:a1.eval r=x)(f:cC n2 t m C W x X L1)(z:dU k C)(F:¬k t)(u:α)(a4:a1.eval s=.slice A 1 n3)(n:Y1.length=m)(a3:eF W A Y1)(a5:∀a,mV n2 x W a->C a Y1 u)(G:(b+1)*n1<=140737488355328)(y:b+1<=maxLen)(K:n2<=W.heap.size)(B:∀c d a,cC n2 t m C a (.slice c (b+1) d) (X++[u]) (L1++[Y1])->mV n2 x W a->((ζ.slice c (b+1) d).ownBlock=x.ownBlock\/∀p,(ζ.slice c (b+1) d).ownBlock=S p->W.heap.size<=p)->wpListIn e q P o1 Q r1 (a1.put o2.dst (.slice c (b+1) d)) a):
  wpListIn e q P o1 Q (o2::r1) a1 W:=by
 subst V;refine wpListIn_plain U λa7 D=> ?_;obtain⟨b0,a,a0,o,l,a6⟩:=vU (ty:=o2.type) v f.row (by rw[n,E.one_mul]) a3 G y K (c:=n3);have i:=f.On l;have w:=f.push z F n (a5 a i) o l;obtain⟨c,d,rfl,a8,a9⟩:=bB o;unfold Oper.wpIn;refine⟨?_,?_⟩
 .simp[Oper.about,g,resolve,Target.leads,Sem.run_pure]
 rw[Oper.semAt_plain e _ _ (by rw[g];intro n3 R;cases R)];simp[execOp,g,resolve,invoke,builtin,a2,a4,a0,Result.andThen];exact D _ _ (B c d a w i a6)
theorem jJ{f:Func}{h:θ ζ}{d:Ending->ε->Prop}{v:ζ}:∀(a:L E)(b:ε),a.Nodup->(∀c∈a,b.heap[c]? =some (.deferred (some [])))->
  (∀c,Fr (λe=>e∈a) b c->(results f h).run prog c=.ok v c)->(∀c,Fr (λe=>e∈a) b c->d (.returned v) c)->LeavesInM Fence.wide 9 prog f h d (a.map mark) .returning b
 |[],a,_,_,c,b=>⟨v,c a rF,b a rF⟩
 |a::b,c,d,g,l,k=>by
  have i:=g a (jg ..);have e:=mu.1 d;refine⟨sI,.inl ⟨a,_,Y,run_takeDeferred i,?_⟩⟩;have f:∀(d:ε),Fr (λf=>f∈b) (c.putObj a (.deferred η)) d->Fr (λf=>f∈a::b) c d:=λf d=>
   (yw (S:=λf=>f∈a::b) (W:=c) (.deferred η) (jg ..)).trans d (λ_ _ c=>c) (λ_ _ c=>jh _ c)
  refine jJ b _ e.2 (λc d=> ?_) (λb h=>l b (f b h)) (λb h=>k b (f b h));exact(ε.putObj_heap_other (λ(b:c=a)=>e.1 (b▸d))).trans (g c (jh _ d))
theorem Eo(b a):aQ 337 #[.agg #[b]] a λd c=>d=.returned (.func (.func 340) #[] #[aP a.heap.size 0])/\c=a.alloc (.cells #[b] 54):=by
 delta aQ;go_in
 go_wp2;go_ret;exact⟨Y,Y⟩
def nk(c b:T)(a:L (E×Tk)):L T:=a.filterMap λa=>if a.2.k=c/\a.2.f=b then S (a.1:T) else η
def kV(b:Hs)(c a:T):L T:=nk c a (gz b)
theorem uj(c b d)(a:E×Tk):nk c b (d++[a])=nk c b d++if a.2.k=c/\a.2.f=b then[(a.1:T)] else[]:=by
 unfold nk;rw[L.filterMap_append];congr 1
 by_cases a:a.2.k=c/\a.2.f=b
 .simp[a]
 simp[a]
theorem Du(c b a):(nk c b a).length<=a.length:=L.length_filterMap_le _ _
theorem nK(b c):∀(d:L Tk)(a:T),a<=15->lX b c a d=γ->(d.length:T)<=15-a
 |[],d,a,_=>by simp;omega
 |x::d,f,e,a=>by
  rw[lX] at a;simp only[bA,cS] at a;obtain⟨⟨⟨e,f⟩,-⟩,a⟩:=a
  have:=nK b c d x.k O a;simp only[bW];omega
theorem wG(a):∀(b:L Tn)(c:E),qC a c b=γ->(fM c b).length<=16*b.length
 |[],b,_=>by simp[fM]
 |t::d,c,b=>by
  rw[qC,bA] at b;have d:=wG a d (c+1) b.2;have b:=b.1;rw[tR] at b;simp only[bA] at b;have a:=nK a c t.r (-1) O b.1.2;rw[fM,cA,eo,bW];omega
theorem wO(a):(gz a).length<=512:=by
 unfold gz;cases b:bm a
 .simp
 rw[aS Y];have c:=bK b;have b:qC a 0 a=γ:=by unfold bm at b;simp only[bA] at b;exact b.2
 have a:=wG a a 0 b;omega
structure Rg(w2:ε)(r:E)(out:List T)(bs:List E)(W:ε):Prop where
 row:∃a c L,aY W r #[.slice a out.length c] 30/\cC w2.heap.size 3 1 CI W (.slice a out.length c) out L/\∀k,(ζ.slice a out.length c).ownBlock=S k->k ∉ bs
 fr:bT r w2 W
 bs:∀b∈bs,w2.heap.size<=b/\b<W.heap.size
theorem Rg.kept(a:m<W.heap.size)(a:Rg W m e B V)(c:Fr (λd=>d∈B) V U)(n:∀b∈D,b∈B\/(V.heap.size<=b/\b<U.heap.size)):Rg W m e D U:=by
 obtain⟨⟨g,l,a,o,h,i⟩,k,f⟩:=a;refine⟨⟨g,l,a,c.aB o (λa=> ?_),h.aJ (Pl.aJ cW (λ_=>False)) c i (λ_ _ a=>a.elim),λd o g=> ?_⟩,?_,λb g=> ?_⟩
 .have:=f _ a;omega
 .rcases n d g with l|l
  .exact i d o l
  obtain⟨-,h,i,d⟩:=aW h.row o
  have:=ba d;omega
 .exact k.trans c (λ_ _ a=>a) (λd h a=>by have:=f d a;omega)
 have:=c.size;rcases n b g with a|a
 .have:=f b a;omega
 have:=k.size;omega
theorem Rg.push(b:e.length=n1)(a:m<W.heap.size)
  (i:Rg W m e B V)(f:Fr j V U)(l:aY V m #[x] 30)(a:cC W.heap.size 3 1 CI U x e L1)(o:∀c,x.ownBlock=S c->c ∉ B)
  (h:cC W.heap.size 3 1 CI w4 (.slice A (n1+1) q) (e++[i1]) (L1++[cW i1]))(d:mV W.heap.size x U w4)
  (n:(ζ.slice A (n1+1) q).ownBlock=x.ownBlock\/∀c,(ζ.slice A (n1+1) q).ownBlock=S c->U.heap.size<=c):
  Rg W m (e++[i1]) B (w4.setCell (H m 0) (.slice A (n1+1) q))/\nZ B V (w4.setCell (H m 0) (.slice A (n1+1) q))/\aY w4 m #[x] 30:=by
 subst b;have a:¬x.ownBlock=S m:=λg=>by have:=d.2 m g;omega
 have k:=d.1.aB (f.hs l) a;have l:bT m w4 (w4.setCell (H m 0) (.slice A (e.length+1) q)):=rF.aK 0 _;have p:∀a∈B,a≠m:=λa b g=>by have:=(i.bs a b).1;omega
 refine⟨⟨⟨A,q,L1++[cW i1],?_,?_,?_⟩,?_,?_⟩,⟨?_,λa b=> ?_⟩,k⟩
 .have:=aD k 0 (.slice A (e.length+1) q)
  simpa using this
 .rw[cA,eK]
  exact h.aJ da l (λc k g=>by have:=(aW h.row k).1;omega) (λ_ _ i1=>i1.elim)
 .intro c k b
  rw[cA,eK] at k;rcases n with h|h
  .exact o c (h▸k) b
  have n:=h c k
  have:=(i.bs c b).2
  have:=f.size;omega
 .refine((i.fr.step f).trans d.1 (U:=λc=>c=m) (λ_ _ i1=>i1) (λc k g=>by have:=d.2 c g;omega)).tr l
 .intro a b
  have h:=i.bs a b
  have:=f.size
  have:=d.1.size
  have:=l.size;omega
 .have:=f.size
  have:=d.1.size
  have:=l.size;omega
 have h:=i.bs a b;have n:=l.block a (gX f.size d.1.size) (p a b);rw[n,d.1.block a (oB f.size) (λg=>o a g b),f.block a h.2 id]
theorem DZ(g b a G s)(b3:eJ s G g):aQ 331 #[G,I b,I a] s λf a2=>∃G,f=.returned G/\Sl 3 1 CI a2 G (kV g b a)/\Fr j s a2:=by
 obtain⟨R,rfl,HS⟩:=b3;refine fC func331 Y ?_;simp only[ntmps331,ko,bW,fq,E.reduceAdd,E.reduceSub,lL,lz,lE,lF,eW,im];go_wp2_with fail;refine aZ.nm (λa3 u=> ?_);refine sg (Eo R a3) ?_;rintro f n ⟨rfl,v⟩;obtain⟨D,G⟩:=M a3.heap.size;rw[<-G];obtain⟨a6,t⟩:=M s.heap.size;rw[<-t];obtain⟨B,x⟩:=M (a6+1);rw[<-x];obtain⟨C,a2⟩:=M (B+1);rw[<-a2];obtain⟨h,a3⟩:=M (C+1);rw[<-a3];have c0:D=h+1:=by rw[G,a3,a2,x,t,u];simp
 have b3:=dL v G;have b6:aY n B #[I b] 3:=(by rw[v];refine aC ?_ _;rw[u];exact aC (aC (bM sO) _) _);have b7:aY n C #[I a] 3:=(by rw[v];refine aC ?_ _;rw[u];exact aC (bM sO) _);have a0:aY n h #[aV] 30:=(by rw[v];refine aC ?_ _;rw[u];exact bM sO);have W:Fr j s n:=(by rw[v,u];exact(((cZ.alloc _).alloc _).alloc _).alloc _);have b5:=(HS.f W);have c4:s.heap.size<=h:=O;have P:=ba a0;have c2:B≠h:=O;have c3:C≠h:=O;have c4:D≠h:=O;clear u v G t x a2 a3 c0;go_wp2_with fail;refine vQ (xs:=gz g) (enc:=rdv) (bs0:=[]) (OF g n D R b3.1 b5) Y Y (λu s=>by simp[go_sem]) sI
  (λc e d=>Rg n h (nk b a c) e d) (λa7 e d=>False)
  (λc e s d z g a r=>g.kept P a r) (λa7 e d z g a=>g)
  (λc e d g=>g.fr.mono (λb2 s f=>⟨λs=>c4 (s.symm.trans f),λm s u=>u.ne ⟨_,_,f▸a0⟩ (by rcases s with rfl|rfl|rfl<;>decide) Y⟩))
  ⟨⟨η,0,[],a0,qG,λb i=>by simp[ζ.ownBlock] at i⟩,rF,sI⟩
  (λc k e U d=>∃q,U={tmps:=#[.agg #[R],I b,I a,aP a6 0,aP B 0,aP C 0,aV,aP h 0,aP q 0,.agg #[R],.func (.func 340) #[] #[aP D 0],rdv k,undef,undef,undef,undef,undef,undef,undef,undef,undef,undef,undef,undef,undef,undef,undef,undef,undef,undef],defers:=[]}/\aY d q #[I (k.1:E),I k.2.k,I k.2.f] 487/\q ∉ e/\Rg n h (nk b a c) e d)
  ?hGb ?assign ?body ?done ?stop
 case hGb=>
  rintro c k e U d z ⟨q,F,s,t,x⟩ a;exact⟨q,F,a.aB s t,t,x.kept P a (λa1 r=>.inl r)⟩
 case assign=>
  rintro c6 c k c7 e d t Q HI s;clear Q;obtain⟨m,p,o⟩:=k;simp only[rdv] at*;gi_wp2;refine s _ _ ⟨sI,λa1 r=>Below.heap_alloc _ _ _ (HI.bs a1 r).2⟩ ⟨d.heap.size,Y,bM Y,λK=>by have:=(HI.bs _ K).2;omega,HI.kept P cZ (λa1 r=>.inl r)⟩
 case body=>
  rintro c6 c k c7 e U d Q ⟨q,rfl,b1,c5,l⟩;have r:c.length<512:=by
   have F:=wO g;rw[Q] at F;simp at F;omega
  obtain⟨m,p,o⟩:=k;simp only[rdv] at*;obtain⟨a5,a8,b8,V,w,A⟩:=l.row;have c1:=Du b a c;obtain⟨y,X⟩:∃y,(nk b a c).length=y:=⟨_,Y⟩;rw[X] at c1 V w A;obtain⟨U,a0,a1,-⟩:=mD b1;have G:=bx (l.fr.aB b6 (λf=>c2 f));have R:=bx (l.fr.aB b7 (λf=>c3 f));have u:=bx V;clear Q b1 c5;by_cases i:p=b
  .have C:(p==b)=γ:=sU i
   by_cases r:o=a
   .have B:(o==a)=γ:=sU r
    have s:nk b a (c++[(m,⟨p,o⟩)])=nk b a c++[(m:T)]:=(by rw[uj];simp[i,r]);clear i r;gi_wp2_with (gi_at_builtin;refine stop ?_);have t:(y+1)*8<=140737488355328:=O;have v:y+1<=maxLen:=mL;refine aZ.go (lY Y (.tmp 24) (.tmp 27) Y oG y X Y (w.fr da (tC.alloc _)) da id (m:T) Y Y (eF.one _ _ _ Y) (λ_ _=>Y) t v ?p6 ?p7)
    case p6=>have:=l.fr.size;simp;omega
    case p7=>
     intro t D F x v y;obtain⟨D,F,t⟩:=l.push X P (tC.alloc _) V (w.fr da (tC.alloc _)) A x v y;have P:=aG t 0;have P:=bx t;clear t x v y U a0 a1 G R u;gi_wp2;exact⟨by show Rg n h (nk b a (c++[(m,⟨p,o⟩)])) e _;rw[s];exact D,F⟩
   have B:(o==a)=δ:=sU r;have s:nk b a (c++[(m,⟨p,o⟩)])=nk b a c:=(by rw[uj];simp[r]);clear i r;gi_wp2;exact⟨by show Rg n h (nk b a (c++[(m,⟨p,o⟩)])) e d;rw[s];exact l,nZ.refl _ _⟩
  have C:(p==b)=δ:=sU i;have s:nk b a (c++[(m,⟨p,o⟩)])=nk b a c:=(by rw[uj];simp[i]);clear i;gi_wp2;exact⟨by show Rg n h (nk b a (c++[(m,⟨p,o⟩)])) e d;rw[s];exact l,nZ.refl _ _⟩
 case done=>
  rintro a4 e d b9 a9 l b4;obtain⟨a5,a8,b8,c,w,A⟩:=l.row;have u:=bx c;clear c;go_wp2;refine jJ (v:=.slice a5 (nk b a (gz g)).length a8) [a4] _ sI (λc b0=>by rw[cX] at b0;subst b0;exact b4) (λz a=>by simp[results,results331,go_sem]) (λz a=>⟨_,Y,?_,?_⟩)
  .refine(w.aJ da a (λb i K=> ?_) (λ_ _ k=>k.elim)).read
   rw[cX] at K;subst K;exact A _ i a9
  exact(W.keep l.fr (λb2 f=>by omega)).keep a (λb2 f=>by rw[cX] at f;have:=W.size;omega)
 case stop=>
  rintro a4 a7 e d b9 a9 a;exact a.elim
end
def AY(b:Hs)(c a:T):L (T×T):=(df b c).map (λb=>(a,b))
def uW(a:Hs)(b:T):L (T×T):=(kV a b (-1)).flatMap (AY a b)
def fp(a:Hs):L (T×T):=(lP a).flatMap (uW a)
theorem Ox{a:α->L ζ}{q:E}(d:Sl t m (Pl a) W x X)(c:bT q W V)(g:fE 355 W q)(f:t≠355):Sl t m (Pl a) V x X:=
 d.aJ (Pl.aJ a (λ_=>False)) c (λc a h e b=>by subst b;exact e.ne g (by rcases h with rfl|i;exact f;exact i.elim) Y)
theorem Pu{a:Hs}{q:E}(d:eJ W x a)(c:bT q W V)(f:fE 355 W q):eJ V x a:=
 d.aJ c (λc a g e b=>by subst b;exact e.ne f (by rcases g with rfl|rfl|rfl<;>decide) Y)
theorem GB.uQ{a:Rl}(b:GB m a W q):fE 355 W q:=by
 obtain⟨b,a,-⟩:=b;exact⟨_,_,a⟩
theorem Ey{a:Hs}(d:i3∈kV a i1 i2):0<=i3/\i3<(a.length:T):=by
 unfold kV nk at d;obtain⟨⟨e,l⟩,c,b⟩:=tp.1 d;have n:e<a.length:=by
  unfold gz at c;split at c
  .have h:∀(g:L Tn)(d:E)(f:E)(i:Tk),(f,i)∈fM d g->f<d+g.length:=by
    intro f;induction f with
    |nil=>intro f i g d;simp[fM] at d
    |cons d f g=>
     intro i m k d;rw[fM,cB] at d;rcases d with d|d
     .obtain⟨q,_,f⟩:=dE.1 d
      simp only[gW] at f;simp;omega
     have:=g (i+1) m k d;simp;omega
   have:=h a 0 e l c;omega
  cases c
 simp only at b;split at b
 .obtain rfl:=cI b
  omega
 cases b
theorem Dd{b:Hs}(a:i2∈df b i1):0<=i2/\i2<(b.length:T):=by
 unfold df at a;split at a
 .have:=gV.1 a
  simp only[fG,bA,gY] at this;exact this.1
 cases a
theorem VX(a:Hs)(d2:bm a=γ)(b z:E)(y:ζ)(k:ε)(F:GB a.length iO k b)(D:aY k z #[y] 54)(d0:Sl 77 3 CT k y a)(b8:b≠z):
  aQ 330 #[.func (.func 336) #[] #[aP b 0],aP z 0] k λd c=>(∃e,d=.returned e)/\GB a.length ((fp a).foldl lp iO) c b/\bT b k c:=by
 have a4:=(show eJ k (.agg #[y]) a from⟨y,Y,d0⟩);obtain⟨i,HLN⟩:=M a.length;have y:i<=32:=oB (bK d2);rw[<-HLN] at F;rw[<-HLN];have y:=bx D
 delta aQ;go_in
 go_wp2_with fail;refine sg (Dx a _ k a4) ?_;rintro y b9 ⟨z,rfl,K,b3⟩;have w:bT b k b9:=(b3.mono (λ_ _ c=>c.elim));have U:=(F.fr b3);obtain⟨d,c⟩:=M (lP a);rw[<-c] at K;have c5:d.flatMap (uW a)=fp a:=(by rw[c];rfl);have c9:d.length<=16:=by rw[c];exact tX a
 obtain⟨p,HKN⟩:∃e,d.length=e:=⟨_,Y⟩;have a3:=K;obtain⟨d8,bk,e6,e3,rfl,-,-,-⟩:=K;rw[HKN] at c9 a3 |-;have a6:=U.uQ;clear c;go_wp2_with fail;go_loopg [12] p (λgk s12 wr=>∃(c:E)(e:L (T×T)),c+gk=p/\s12=I c/\GB i (e.foldl lp iO) wr b/\e++(d.drop c).flatMap (uW a)=fp a/\bT b b9 wr)
 .exact⟨0,[],du,Y,U,by rw[la,c5];rfl,rF⟩
 case round=>
  obtain⟨e,v,HJ,rfl,a0,RS,n⟩:=hrel;have k:e<=p:=O;obtain⟨c8,rfl⟩:=M gk;by_cases k:e<p
  .obtain⟨c,G⟩:=gE d e O
   obtain⟨k,y,K,z,b2,-,-,b7⟩:=Ox a3 n a6 J;simp only[cM] at b2;obtain⟨rfl,-,rfl⟩:=b2;obtain rfl:=b7.addr G;have k:=b7.int G;have k:=bx ((w.tr n).aB D (λf=>b8 f.symm));have c3:v++(uW a c++(d.drop (e+1)).flatMap (uW a))=fp a:=(by rw[<-RS,dG G,kX]);have a5:=(Pu (Pu a4 w F.uQ) n a6);have⟨k,p⟩:=dy e p;go_wp2_with fail;(refine sg (DZ a c (-1) _ wr a5) ?_;rintro h d5 ⟨k,rfl,P,C⟩;have R:=(n.step C);have V:=(a0.fr C);have a7:=V.uQ;obtain⟨f,g⟩:=M (kV a c (-1));rw[<-g] at P;have B:v++(f.flatMap (AY a c)++(d.drop (e+1)).flatMap (uW a))=fp a:=(by rw[<-c3,g];rfl);have c0:∀h∈f,0<=h/\h<(i:T):=(λk h=>by rw[g] at h;have:=Ey h;omega);have d3:f.length<=512:=by rw[g];exact bX (Du c (-1) _) (wO a));obtain⟨r,HRN⟩:∃h,f.length=h:=⟨_,Y⟩;have a8:=P;obtain⟨e0,e2,e8,e5,rfl,-,-,-⟩:=P;rw[HRN] at a8 d3 |-;clear g;go_wp2_with fail;go_loopg [20] r (λp s20 k=>∃(g:E)(h:L (T×T)),g+p=r/\s20=I g/\GB i (h.foldl lp iO) k b/\h++((f.drop g).flatMap (AY a c)++(d.drop (e+1)).flatMap (uW a))=fp a/\bT b d5 k)
   .exact⟨0,v,du,Y,V,by rw[la];exact B,rF⟩
   case round=>
    obtain⟨g,u,HI,rfl,X,RS,FI⟩:=hrel;have k:g<=r:=O;obtain⟨c7,rfl⟩:=M gk;by_cases k:g<r
    .obtain⟨l,x⟩:=gE f g O
     have k:=Ox a8 FI a7 J;obtain⟨k,p,z,y,b0,-,-,b5⟩:=k;simp only[cM] at b0;obtain⟨rfl,-,rfl⟩:=b0;obtain rfl:=b5.addr x;have k:=b5.int x;have k:=bx (((w.trans R (U:=λh=>h=b) (λ_ _ h=>h) (λ_ _ h=>h)).tr FI).aB D (λh=>b8 h.symm));have c2:u++(AY a c l++((f.drop (g+1)).flatMap (AY a c)++(d.drop (e+1)).flatMap (uW a)))=fp a:=(by rw[<-RS,dG x,kX,dm]);have⟨k,p⟩:=dy g r;go_wp2_with fail;(refine sg (uM a c _ wr (Pu (a5.fr C) FI a7)) ?_;rintro k d6 ⟨v7,rfl,Q,b4⟩;have W:=(X.fr b4);obtain⟨h,m⟩:=M (df a c);rw[<-m] at Q;have B:u++(h.map (λk=>(l,k))++((f.drop (g+1)).flatMap (AY a c)++(d.drop (e+1)).flatMap (uW a)))=fp a:=(by rw[<-c2,m];rfl);have a2:∀k∈h,0<=k/\k<(i:T):=(λo k=>by rw[m] at k;have:=Dd k;omega);have d4:h.length<=32:=by rw[m];exact nv a c);obtain⟨s,c1⟩:∃k,h.length=k:=⟨_,Y⟩;have a9:=Q;obtain⟨d9,e1,e7,e4,rfl,-,-,-⟩:=Q;rw[c1] at a9 d4 |-;clear m;go_wp2_with fail;go_loopg [28] s (λr s28 p=>∃(k:E)(m:L (T×T)),k+r=s/\s28=I k/\GB i (m.foldl lp iO) p b/\m++((h.drop k).map (λk=>(l,k))++((f.drop (g+1)).flatMap (AY a c)++(d.drop (e+1)).flatMap (uW a)))=fp a/\bT b d6 p)
     .exact⟨0,u,du,Y,W,by rw[la];exact B,rF⟩
     case round=>
      obtain⟨m,A,HM,rfl,a1,RS,FM⟩:=hrel;have k:m<=s:=O;by_cases k:m<s
      .obtain⟨t,o⟩:=gE h m O
       obtain⟨k,p,y,r,b1,-,-,b6⟩:=Ox a9 FM W.uQ J;simp only[cM] at b1;obtain⟨rfl,-,rfl⟩:=b1;obtain rfl:=b6.addr o;have k:=b6.int o;have c4:(A++[(l,t)])++((h.drop (m+1)).map (λk=>(l,k))++((f.drop (g+1)).flatMap (AY a c)++(d.drop (e+1)).flatMap (uW a)))=fp a:=(by rw[<-RS,dG o,jC];simp);have⟨c,k⟩:=dy m s;go_wp2_with fail;refine sg (xm i _ O l t ((c0 l (bQ x)).2) ((a2 t (bQ o)).1) ((a2 t (bQ o)).2) b wr a1) ?_;rintro c d7 ⟨⟨k,rfl⟩,d1,c6⟩;have c:GB i ((A++[(l,t)]).foldl lp iO) d7 b:=(by rw[mf];exact d1);have b:=(FM.tr c6);go_wp2;go_roundg (gk-1)
       .exact⟨m+1,_,O,by go_num,c,c4,b⟩
       omega
      go_wp2;go_roundg (c7-1)
      .exact⟨g+1,A,O,by go_num,a1,(by rw[<-RS,show h.drop m=[] from dY O];rfl),(FI.step b4).tr FM⟩
      omega
    go_wp2;go_roundg (c8-1)
    .exact⟨e+1,u,O,by go_num,X,(by rw[<-RS,show f.drop g=[] from dY O];rfl),R.tr FI⟩
    omega
  have c:v=fp a:=(by rw[<-RS,show d.drop e=[] from dY O];simp);go_wp2;go_end0
  exact⟨⟨_,Y⟩,by rw[<-c];exact a0,w.tr n⟩
theorem Yj:aaO 308 fp:=abD VX
theorem qN:∀(e:L Tn)(b d:E)(c:Tk),(d,c)∈fM b e↔∃a f,e[a]? =S f/\d=b+a/\c∈f.r
 |[],a,c,b=>by simp[fM]
 |k::l,h,i,c=>by
  rw[fM,cB,qN l (h+1) i c];constructor
  .rintro(b|⟨g,m,d,h,e⟩)
   .obtain⟨q,f,a⟩:=dE.1 b
    simp only[gW] at a;obtain⟨rfl,rfl⟩:=a;exact⟨0,k,Y,Y,f⟩
   exact⟨g+1,m,sU d,O,e⟩
  rintro⟨f,g,d,e,b⟩
  match f,d with
  |0,a=>
   simp at a;subst a;exact .inl (dE.2 ⟨c,b,by simp[e]⟩)
  |c+1,a=>exact .inr ⟨c,g,sU a,O,b⟩
theorem sZ{b:Hs}(l:bm b=γ):i3∈kV b i1 i2↔∃a:E,a<b.length/\i3=(a:T)/\(⟨i1,i2⟩:Tk)∈(tx b (a:T)).r:=by
 unfold kV nk gz;rw[aS l,tp];constructor
 .rintro⟨⟨a,n⟩,d,c⟩
  obtain⟨o,h,e,f,i⟩:=(qN b 0 a n).1 d;simp only at c;split at c
  .rename_i k
   obtain rfl:=cI c;obtain⟨rfl,rfl⟩:=k;rw[de] at f;subst f;exact⟨a,(cj.1 e).1,Y,by rw[iJ e];exact i⟩
  cases c
 rintro⟨a,m,rfl,d⟩;obtain⟨h,g⟩:=gE b a m;rw[iJ g] at d;exact⟨(a,⟨i1,i2⟩),(qN b 0 a _).2 ⟨a,h,g,O,d⟩,sI⟩
theorem Zl(a:Hs)(d:bm a=γ)(b c:E)(p:b<a.length)(t:c<a.length):((fp a).foldl lp iO) b c=Ym a b c:=by
 rw[kO,dS];simp only[iO,κ.false_or,eH,cS,Ym,bA,ef,gd];unfold fp uW AY;simp only[ke,dE];constructor
 .rintro⟨⟨u,v⟩,⟨h,w,t,n,e,f,g⟩,i,k,l,m⟩
  simp only[gW] at g;obtain⟨rfl,rfl⟩:=g;obtain⟨s,x,rfl,o⟩:=(sZ d).1 n;have hw:fG a e h=γ:=by unfold df at f;rw[aS d] at f;exact gV.1 f
  simp only[fG,bA,gY] at hw;obtain⟨r,rfl⟩:∃f:E,e=(f:T):=⟨e.toNat,O⟩;simp only[gu] at i k l m;obtain rfl:s=b:=O;obtain rfl:r=c:=O;exact⟨O,⟨h, -1⟩,o,Y,hw.2⟩
 rintro⟨i,e,h,f,hw⟩;have g:fG a (c:T) e.k=γ:=by simp only[fG,bA,gY];exact⟨O,hw⟩
 refine⟨((b:T),(c:T)),⟨e.k,?_,(b:T),(sZ d).2 ⟨b,p,Y,?_⟩,(c:T),?_,Y⟩,sI,sO,sI,sI⟩
 .unfold lP;rw[aS d];exact Cw d g
 .obtain⟨b,a⟩:=e
  simp only at f;rw[<-f];exact h
 unfold df;rw[aS d];exact gV.2 g
def Vy(a:Ch)(b:E)(c:Tn):κ:=((b:T) !=a.b)&&c.r.contains ⟨a.k,a.a⟩
def Ip(a:Ch):E->L Tn->L (T×T)
 |_,[]=>[]
 |b,c::d=>(if Vy a b c then[((b:T),a.b)] else[])++Ip a (b+1) d
def AV(b:Hs)(a:L Ch):L (T×T):=a.flatMap (λa=>Ip a 0 b)
def jq(a:Hs)(b:L Ch):Rl:=if dw a b then(fp a++AV a b).foldl lp iO else iO
theorem Sv{b:Rl}(c:iM m b W (.agg #[I m,x]))(d:aY W q #[I m,x] 355):GB m b W q:=by
 obtain⟨b,a,e⟩:=c;simp only[ku,kI,iY,gT,ll] at a;subst a;exact⟨_,d,e⟩
theorem Vh(a:Hs)(d:L Ch)(g2 g3:ζ)(r:ε)(f2:eJ r g2 a)(f4:Sl 144 3 CC r g3 d):
  aQ 267 #[g2,g3] r λf g4=>∃c9,f=.returned c9/\iM (vm a d) (jq a d) g4 c9/\Fr j r g4:=by
 have X:=f2;have HL:=f4;obtain⟨p2,rfl,o⟩:=f2;obtain⟨h7,l1,o6,l,rfl,i7,n0,m9⟩:=o;obtain⟨k8,l5,o7,m4,rfl,i8,i9,n9⟩:=f4;generalize c6:a.length=c at X i7 |-;generalize o1:d.length=Q at HL i8 |-;unfold maxLen at i9;have f3:(prog.info? 355).map (·.size)=S 2:=kR
 delta aQ;go_in
 go_wp2_with fail;refine aZ.nm (λg5 a3=> ?_);obtain⟨b8,c1⟩:=M r.heap.size;rw[<-c1];generalize j3:b8+1=h;have g8:=uV a3 c1;have h2:aY g5 h #[aI,aV] 355:=(by rw[a3];exact bM sO);have a9:=lq a3;have o2:r.heap.size<=h:=O;clear a3 c1 j3;refine sg (jT a d _ _ g5 (X.fr a9) (HL.f a9)) ?_;rintro f g6 ⟨rfl,b6⟩;have b0:=(a9.step b6);have d2:=(b6.hs g8.1);have b4:=(b6.hs h2);cases G:dw a d
 .have y:vm a d=0/\jq a d=iO:=(by unfold vm jq;rw[G];exact⟨Y,Y⟩)
  obtain⟨i1,i2,k6⟩:=oK b4;go_wp2;have a0:((g6.setCell (H h 0) aI).setCell (H h 1) aV).heap[h]? =S (.cells #[aI,aV] 355 (0,0)):=by
   have:=aD (aD b4 0 aI) 1 aV;simpa using this
  refine aO (gp Y _ _ h 355 _ (0,0) _ Y a0 underlying355 Y (by rw[f3];rfl)) Y ⟨_,Y,?_,?_⟩
  .rw[y.1,y.2]
   exact⟨_,Y,dJ⟩
  exact b0.keep ((rF.aK (q:=h) 0 _).aK 1 _) (λb f=>by omega)
 have y:vm a d=c/\jq a d=(fp a++AV a d).foldl lp iO:=(by unfold vm jq;rw[G,<-c6];exact⟨Y,Y⟩);have n8:c<=32:=oB (bK (fm G).1);have e0:iz a=c/\mO a (fp a)=(fp a).foldl lp iO:=(by unfold iz mO;rw[(fm G).1,<-c6];exact⟨Y,Y⟩);have e4:=bx d2;go_wp2_with fail;refine sg (Yj a _ g6 (X.fr b0)) ?_;rintro f k3 ⟨p5,rfl,c2,b7⟩;rw[e0.1,e0.2] at c2;have d3:=(b0.step b7);have a0:=(b7.hs b4);have a8:=(b7.hs d2);have d6:=c2;obtain⟨s3,rfl,j4⟩:=c2;obtain⟨k7,l3,o4,l9,rfl,-,-,-⟩:=j4;generalize j0:(bF c ((fp a).foldl lp iO)).length=o3 at d6 |-;clear j0;have e4:=λm=>bx (aC a8 m);go_wp2_with fail;refine cT (λU t=> ?_);obtain⟨g,c3⟩:=M k3.heap.size;rw[<-c3];have b1:=(d3.step (cY t));have h3:aY U h #[aI,aV] 355:=(by rw[t];exact aC a0 _);have g9:aY U b8 #[.slice h7 c l] 54:=(by rw[t];exact aC a8 _);have f1:g≠h/\g≠b8:=gX (ba a0) (ba a8);have d7:GB c ((fp a).foldl lp iO) U g:=(Sv (by rw[t];exact d6.fr cZ) (by rw[t];exact bM c3));have n1:r.heap.size<=g:=oB d3.size;have e1:=d7.uQ;clear t c3;go_loopg [19] Q (λgk s19 wr=>∃(i:E)(e:L (T×T)),i+gk=Q/\s19=I i/\GB c (e.foldl lp iO) wr g/\e++(d.drop i).flatMap (λl=>Ip l 0 a)=fp a++AV a d/\bT g U wr)
 .exact⟨0,fp a,du,Y,d7,by rw[la];rfl,rF⟩
 case round=>
  obtain⟨i,e,HJ,rfl,b2,RS,v⟩:=hrel;have n7:i<=Q:=O;obtain⟨i5,rfl⟩:=M gk;by_cases o0:i<Q
  .obtain⟨d1,a5⟩:=gE d i O
   obtain⟨h8,i0,k0,i3,n,-,-,F⟩:=Ox (HL.f b1) v e1 J;simp only[cM] at n;obtain⟨rfl,-,rfl⟩:=n;obtain rfl:=F.addr a5;obtain⟨e5,e6,e7⟩:=F.ch a5;have z:e++(Ip d1 0 a++(d.drop (i+1)).flatMap (λl=>Ip l 0 a))=fp a++AV a d:=(by rw[<-RS,dG a5,kX]);obtain⟨u,k,e9,f0,j7,g1⟩:=As (((fm G).2) d1 (bQ a5));obtain⟨s,m2,m3⟩:=d1;simp only at e9 f0 e5 e6 e7;subst e9 f0;rw[c6] at j7 g1;have l2:=λm=>bx (aC (v.aB g9 (λf=>f1.2 f.symm)) m);have⟨n4,n5⟩:=dy i Q;go_wp2_with fail;(refine cT (λd0 a4=> ?_);obtain⟨k2,c8⟩:=M wr.heap.size;rw[<-c8];have d4:bT g U d0:=(by rw[a4];exact v.alloc _);have d8:GB c (e.foldl lp iO) d0 g:=(by rw[a4];exact b2.fr cZ);have e2:=dL a4 c8;have f6:k2≠g:=by obtain⟨s9,D,-⟩:=b2;have:=ba D;omega);clear a4 c8;go_loopg [26] c (λi6 s26 g7=>∃(b:E)(e:L (T×T)),b+i6=c/\s26=I b/\GB c (e.foldl lp iO) g7 g/\e++(Ip ⟨s,u,k⟩ b (a.drop b)++(d.drop (i+1)).flatMap (λl=>Ip l 0 a))=fp a++AV a d/\bT g d0 g7)
   .exact⟨0,e,du,Y,d8,by rw[la];exact z,rF⟩
   case round=>
    obtain⟨b,e,HI,rfl,V,RS,FI⟩:=hrel;have n6:b<=c:=O;obtain⟨b9,rfl⟩:=M gk;by_cases j2:b<c
    .obtain⟨R,p⟩:=gE a b O
     (obtain⟨p4,n,j5⟩:=Pu (Pu (X.fr b1) d4 e1) FI d8.uQ;simp only[ku,kI,iY,gT] at n;subst n;obtain⟨h8,i0,k0,i3,n,-,-,F⟩:=j5;simp only[cM] at n;obtain⟨rfl,-,rfl⟩:=n;obtain rfl:=F.addr p;obtain⟨p7,p6,e5,e6,e7,j6,f8⟩:=F.tn p;have h1:=f8;obtain⟨l0,l7,o9,m6,rfl,-,-,-⟩:=j6;obtain⟨k9,l6,o8,m5,rfl,-,-,-⟩:=f8;have z:e++(((if Vy ⟨s,u,k⟩ b R then[((b:T),(k:T))] else[])++Ip ⟨s,u,k⟩ (b+1) (a.drop (b+1)))++(d.drop (i+1)).flatMap (λl=>Ip l 0 a))=fp a++AV a d:=(by rw[<-RS,dG p,Ip]));have⟨n2,n3⟩:=dy b c;have b3:=FI.aB e2.1 f6;have p0:=λm=>bx (aC b3 m);have p1:=λm=>dh (aC b3 m);have k1:=λm=>iU (aC b3 m);by_cases f9:b=k
     .have c7:((b:T) !=(k:T))=δ:=by simp[f9]
      have h5:e++(Ip ⟨s,u,k⟩ (b+1) (a.drop (b+1))++(d.drop (i+1)).flatMap (λl=>Ip l 0 a))=fp a++AV a d:=(by rw[<-z];unfold Vy;simp only[c7,κ.false_and];rfl);clear f9;go_wp2;go_roundg (b9-1)
      .exact⟨b+1,e,O,by go_num,V.fr cZ,h5,FI.alloc _⟩
      omega
     have c7:((b:T) !=(k:T))=γ:=sO;have d9:=c7;go_wp2_with fail;refine aZ.nm (λk4 g0=> ?_);have d5:=cY g0;clear g0;refine sg (yh _ R.r ⟨s,u⟩ k4 (h1.f d5)) ?_;rintro f k5 ⟨rfl,i4⟩;have w:=(d5.step i4);cases f5:R.r.contains (⟨s,u⟩:Tk)
     .go_wp2
      go_roundg (b9-1)
      .exact⟨b+1,e,O,by go_num,V.fr w,(by rw[<-z];unfold Vy;simp only[f5,κ.and_false];rfl),FI.step w⟩
      omega
     obtain⟨s5,W,K⟩:=V.fr w;have A:=K;obtain⟨B,h9,j9,C,rfl,-,-,-⟩:=K;generalize c5:(bF c (e.foldl lp iO)).length=P at W A;have m7:=bx W;have m8:=dh W;have k1:=iU (w.hs (FI.aB e2.1 f6));clear c5;go_wp2_with fail;refine sg (wS c (e.foldl lp iO) O b k j2 g1 k5 _ ⟨_,Y,A⟩) ?_;rintro f a7 ⟨c9,rfl,⟨p3,rfl,f7⟩,e8⟩;have e3:=f7;have x:=(e8.hs W);obtain⟨a1,l4,o5,a2,rfl,-,-,-⟩:=f7;generalize j1:(bF c (oI (e.foldl lp iO) b k)).length=a6 at e3 |-;have p8:∀b,a7.frozen? (H g b)=δ:=λb=>aG x b;have m0:=bx x;have m1:=dh x;clear j1;go_wp2;have o:bT g a7 ((a7.setCell (H g 0) (I c)).setCell (H g 1) (.slice a1 a6 a2)):=(rF.aK 0 _).aK 1 _;have h0:((a7.setCell (H g 0) (I c)).setCell (H g 1) (.slice a1 a6 a2)).heap[g]? =S (.cells #[I c,.slice a1 a6 a2] 355 (0,0)):=(by
      have:=aD (aD x 0 (I c)) 1 (.slice a1 a6 a2);simpa using this)
     go_roundg (b9-1)
     .exact⟨b+1,_,O,by go_num,by
      rw[mf,pQ,L.foldl_nil];have f:lp (e.foldl lp iO) ((b:T),(k:T))=oI (e.foldl lp iO) b k:=by
       unfold lp;rw[aS ⟨sI,by have:=d9;simpa using this⟩];simp
      rw[f];refine⟨_,h0,e3.aJ jR o (λR j8 p c4 f=> ?_)⟩;have D:=p.resolve_right id;subst D;exact c4.ne ⟨_,_,f▸x⟩ J Y,(by rw[<-z];unfold Vy;simp only[f5,d9,nB];simp),((FI.step w).step e8).tr o⟩
     omega
    go_wp2;go_roundg (i5-1)
    .exact⟨i+1,e,O,by go_num,V,(by rw[<-RS,show a.drop b=[] from dY O];rfl),d4.tr FI⟩
    omega
  have h6:e=fp a++AV a d:=(by rw[<-RS,show d.drop i=[] from dY O];simp);obtain⟨s5,c0,K⟩:=b2;have A:=K;obtain⟨B,h9,j9,C,rfl,-,-,-⟩:=K;generalize c5:(bF c (e.foldl lp iO)).length=P at c0 A;have b5:=(v.aB h3 (λf=>f1.1 f.symm));have e4:=bx c0;have l8:=dh c0;obtain⟨i1,i2,k6⟩:=oK b5;clear c5;go_wp2;have h4:((wr.setCell (H h 0) (I c)).setCell (H h 1) (.slice B P C)).heap[h]? =S (.cells #[I c,.slice B P C] 355 (0,0)):=by
   have:=aD (aD b5 0 (I c)) 1 (.slice B P C);simpa using this
  have o:bT h wr ((wr.setCell (H h 0) (I c)).setCell (H h 1) (.slice B P C)):=(rF.aK 0 _).aK 1 _;refine aO (gp Y _ _ h 355 _ (0,0) _ Y h4 underlying355 Y (by rw[f3];rfl)) Y ⟨_,Y,?_,(b1.keep v (λb f=>by omega)).keep o (λb f=>by omega)⟩;rw[y.1,y.2,<-h6];refine⟨_,Y,A.aJ jR o (λR j8 p c4 f=> ?_)⟩;have D:=p.resolve_right id;subst D;exact c4.ne ⟨_,_,f▸b5⟩ J Y
theorem Si{a:Hs}(d:bm a=γ)(b:m<a.length)(c:q<a.length):jo a m q=EP a m q:=by
 unfold jo EP qA mO;simp only[d,eX];rw[aaY a m q b c,aax a m q b c]
theorem uF:∀(d:L Ch)(c:Rl)(a b:E),(d.foldl uC c) a b=(c a b||d.any (λc=>a==c.a.toNat&&b==c.b.toNat))
 |[],a,b,c=>by simp
 |b::a,c,d,e=>by
  rw[pQ,uF a,L.any_cons,<-κ.or_assoc];rfl
theorem aaV{a:Hs}(b:dw a K=γ)(c:m<a.length)(c:n1<a.length):Jg a K m n1=wwR K m n1:=by
 unfold Jg wwR;rw[aS b,uF];simp only[iO,κ.false_or];rw[dS];simp only[eH,bA,ef];constructor
 .rintro⟨a,c,d,e⟩
  obtain⟨e,q,b,d,-,-⟩:=As ((fm b).2 a c);exact⟨a,c,O,O⟩
 rintro⟨a,b,c,d⟩;exact⟨a,b,O,O⟩
theorem BM{f:T×T}:∀(d:L Tn)(b:E),f∈Ip c3 b d↔∃a c,d[a]? =S c/\Vy c3 (b+a) c=γ/\f=(((b+a:E):T),c3.b)
 |[],a=>by simp[Ip]
 |e::f,a=>by
  rw[Ip,cB,BM f (a+1)];constructor
  .rintro(b|⟨c,k,g,h,i⟩)
   .by_cases d:Vy c3 a e=γ
    .rw[aS d] at b
     simp at b;exact⟨0,e,Y,d,b⟩
    rw[aR d] at b;cases b
   exact⟨c+1,k,sU g,by rw[show a+(c+1)=a+1+c from by omega];exact h,by rw[show a+(c+1)=a+1+c from by omega];exact i⟩
  rintro⟨i,k,c,d,f⟩
  match i,c,d,f with
  |0,b,g,h=>
   simp at b;subst b;left;rw[aS (show Vy c3 a e=γ from g)];simpa using h
  |b+1,c,d,e=>exact .inr ⟨b,k,sU c,by rw[show a+1+b=a+(b+1) from by omega];exact d,by rw[show a+1+b=a+(b+1) from by omega];exact e⟩
theorem xM{a:Hs}(c:dw a K=γ)(f:m<a.length)(r:n1<a.length):jq a K m n1=uJ a K m n1:=by
 obtain⟨p,o⟩:=fm c;unfold jq uJ qA;rw[aS c,kO,L.any_append,<-Zl a p m n1 f r,kO,<-κ.or_assoc];congr 1
 rw[dS];simp only[rwR,AV,eH,cS,bA,ef,gd,ke];constructor
 .rintro⟨c,⟨b,d,l⟩,g,h,i,k⟩
  obtain⟨s,t,n,e,rfl⟩:=(BM a 0).1 l;rw[de] at*;simp only at g h i k;obtain⟨h,q,c,g,-,-⟩:=As (o b d);obtain rfl:s=m:=O;simp only[Vy,bA,gd] at e;exact⟨b,d,O,O,by rw[iJ n];exact e.2⟩
 rintro⟨b,e,d,g,c⟩;obtain⟨f,d⟩:=gE a m f;rw[iJ d] at c;refine⟨((m:T),b.b),⟨b,e,(BM a 0).2 ⟨m,f,d,?_,sI⟩⟩,sI,sO,sI,sO⟩;simp only[Vy,bA,gd,de];exact⟨O,c⟩
def lr(a:Hs)(b:L Ch):Rl:=qA (jo a) (Jg a b)
theorem vR{a:Hs}(b:dw a K=γ)(c:m<a.length)(d:q<a.length):lr a K m q=yU a K m q:=by
 unfold lr yU;show(jo a m q||Jg a K m q)=(EP a m q||wwR K m q);rw[Si (fm b).1 c d,aaV b c d]
theorem Za{a:Hs}(b:dw a K=γ)(c:m<a.length)(d:q<a.length):qA (lr a K) (fD a.length (lr a K) (jq a K)) m q=cP a 1 K m q:=by
 unfold cP;rw[aS Y];show(lr a K m q||fD a.length (lr a K) (jq a K) m q)=(yU a K m q||fD a.length (yU a K) (uJ a K) m q);rw[vR b c d];congr 1
 unfold fD;rw[dS];simp only[eH,eC,bA];constructor
 .rintro⟨g,a,e,f⟩
  exact⟨g,a,by rw[<-vR b c a];exact e,by rw[<-xM b a d];exact f⟩
 rintro⟨g,a,e,f⟩;exact⟨g,a,by rw[vR b c a];exact e,by rw[xM b a d];exact f⟩
theorem Ve{a:Hs}(b:dw a K=γ)(c:m<a.length)(d:q<a.length):qA (lr a K) (jq a K) m q=cP a 0 K m q:=by
 unfold cP;rw[aR J];show(lr a K m q||jq a K m q)=(yU a K m q||uJ a K m q);rw[vR b c d,xM b c d]
section
variable {P:Program} {ops:θ Oper} {Q:Exit->Act->ε->Prop} {md:Region.Mode} {S:ε->Prop} {n:E}
def ww(P:Program)(md:Region.Mode)(ops:θ Oper)(Q:Exit->Act->ε->Prop)(S:ε->Prop)(n:E):E->θ κ->Act->ε->Prop
 |0,listed,a,w=>Region.ready md ops listed=[]/\Q .normal a w
 |fuel+1,listed,a,w=>(Region.ready md ops listed=[]->Q .normal a w)/\
  ∀b∈Region.ready md ops listed,wpOp P ops Q b (λd c=>(b≠n->S c)/\ww P md ops Q S n fuel (listed.setIfInBounds b γ) d c) a w
theorem xt:∀(b:E)(c:θ κ)(a:Act)(d:ε),ww P md ops Q S n b c a d->wpAny P md ops Q b c a d
 |0,_,_,_,h=>h
 |c+1,_,_,_,h=>⟨h.1,λe d=>wpOp_mono (λa b f=>xt c _ a b f.2) (h.2 e d)⟩
theorem Bi{b:E}{k:Oper}{A:ζ}(x:ops[b]? =some k)(V:b<n)(B:n+1=ops.size)(a0:Region.sinkB md ops n=γ)(U:Region.chainB md ops n=γ)(G:∀(a:E)(B:Oper) r p,ops[a]? =some B->B.op≠.select r p)
  (R:∀B e g,Q (.panic B) (e.put k.dst A) g->Q (.panic B) e g):
  ∀(s:E)(d:θ κ)(e:Act)(g:ε),HeadInv md ops n d->
   (∀a l,ops[a]? =some l->a≠b->d.getD a γ=δ->(∀c∈l.after,Region.binds md c=γ->c.on≠b)->k.apart ops l=γ)->
   b∈Region.ready md ops d->YieldsIf P ops S k A e->S g->
   ww P md ops Q S n s (d.setIfInBounds b γ) (e.put k.dst A) g->ww P md ops Q S n (s+1) d e g:=by
 intro s;induction s with
 |zero=>
  intro d e g z _ i w t o;refine⟨λh=>(by rw[h] at i;cases i),λa m=> ?_⟩;by_cases f:a=b
  .subst f
   exact w.wpOp x t ⟨λ_=>t,o⟩
  have:=ready_mono m f;rw[o.1] at this;cases this
 |succ s a1=>
  intro d e g z C i w t o;have u:=(mem_ready.1 i).1;refine⟨λh=>(by rw[h] at i;cases i),λa m=> ?_⟩;by_cases f:a=b
  .subst f
   exact w.wpOp x t ⟨λ_=>t,o⟩
  have W:a<n:=by
   rcases dP a n with h|h
   .exact h
   exact absurd m (tail_waits a0 U O z _ b Y V u a h)
  have v:=o.2 a (ready_mono m f);obtain⟨F,l,y,e⟩:=mem_ready.1 m;have X:∀c∈l.after,Region.binds md c=γ->c.on≠b:=λc h g o=>by
   have v:=e c h g;rw[o,getD_both u] at v;cases v
  have K:∀e g,ops[e]? =some g->e≠b->(d.setIfInBounds a γ).getD e γ=δ->
    (∀c∈g.after,Region.binds md c=γ->c.on≠b)->k.apart ops g=γ:=λe g c h u o=>by
   refine C e g c h ?_ o;by_cases D:a=e
   .subst D;exact F
   rw[getD_set_ne γ D] at u;exact u
  refine wpOp_mono (λe g c=>⟨c.2.1,a1 (d.setIfInBounds a γ) e g (z.set m W) K (ready_mono i (dX f)) c.1 (c.2.1 O) ?_⟩) (wpOp_putIf y (C a l y f F X) (λr p=>G b k r p x) (λr p=>G a l r p y) R w v);rw[θ.setIfInBounds_comm _ _ f];exact c.2.2
def KX(ops:θ Oper)(n:E):κ:=Region.noSelect ops&&decide (n+1=ops.size)&&Region.sinkB .any ops n&&Region.chainB .any ops n
def At(P:Program)(ops:θ Oper)(Q:Exit->Act->ε->Prop)(S:ε->Prop)(n c:E)(a:θ κ)(b:Act)(d:ε):Prop:=
 KX ops n=γ->HeadInv .any ops n a->ww P .any ops Q S n c a b d
theorem Df{id:E}{b:Act}{e:ε}{a:L Oper}(S n)(g:P.follows .mixedOrders=γ)(c:KX a.toArray n=γ)(f:At P a.toArray Q S n a.toArray.size (θ.replicate a.toArray.size δ) b e.drew):(Code.region id a.toArray γ).wp P Q b e:=by
 refine wp_region_any g (xt (S:=S) (n:=n) _ _ _ _ (f c ?_));simp only[KX,bA,cS] at c;exact⟨sI,λa b _ d=>(by rw[sH] at d;cases d),λb _ a=>getD_in (sU a) (sH _ _)⟩
theorem At.take{i e:E}{c:Oper}{v:ζ}{a:θ κ}{b:Act}{d:ε}(h:ops[i]? =some c)(k:i<n)(u:Region.free .any ops a i=γ)(w:(Region.ready .any ops a).contains i=γ)
  (s:∀g f l,Q (.panic g) (f.put c.dst v) l->Q (.panic g) f l)(t:S d)(x:YieldsIf P ops S c v b)(l:At P ops Q S n e (a.setIfInBounds i γ) (b.put c.dst v) d):At P ops Q S n (e+1) a b d:=λf g=>by
 have c:=f;simp only[KX,bA,cS] at c;obtain⟨⟨⟨m,o⟩,p⟩,r⟩:=c;have c:i∈Region.ready .any ops a:=sU w;exact Bi h k o p r (Region.noSelect_spec m) s e a b d g (Region.free_spec h u) c x t (l f (g.set c k))
theorem At.one{i k:E}{b:Oper}{e:θ κ}{a:Act}{f:ε}(o:ops[i]? =some b)(m:i<n)(d:Region.ready .any ops e=[i])
  (l:∀c:Act->ε->Prop,(∀h g,S g->At P ops Q S n k (e.setIfInBounds i γ) h g->c h g)->if Region.wanted b (yielded ops a.tmps)=γ then Oper.wp P b a f c Q else c (a.put b.dst undef) f):At P ops Q S n (k+1) e a f:=λg h=>by
 refine⟨λc=>(by rw[d] at c;cases c),λp c=> ?_⟩;rw[d] at c;obtain rfl:p=i:=sU c;refine wpOp_step o (λa c=>l a (λa f e b=>c a f ⟨λ_=>e,b g (h.set (by rw[d];simp) m)⟩))
theorem At.last{g:E}{b:Oper}{d:θ κ}{a:Act}{e:ε}(m:ops[n]? =some b)(h:Region.ready .any ops d=[n])(i:Region.ready .any ops (d.setIfInBounds n γ)=[])
  (l:∀c:Act->ε->Prop,(∀f k,Q .normal f k->c f k)->if Region.wanted b (yielded ops a.tmps)=γ then Oper.wp P b a e c Q else c (a.put b.dst undef) e):At P ops Q S n (g+1) d a e:=λa b=>by
 refine⟨λc=>(by rw[h] at c;cases c),λk c=> ?_⟩;rw[h] at c;obtain rfl:k=n:=sU c;refine wpOp_step m (λa b=>l a (λa c f=>b a c ⟨λa=>(a Y).elim,?_⟩));cases g with
 |zero=>exact⟨i,f⟩
 |succ a=>exact⟨λ_=>f,by rw[i];simp⟩
end
def tM(c:E)(a:Rl)(b:L E):E:=b.foldl (λb d=>b|||row c a d) 0
theorem tJ(b)(a)(c)(d):tM b a (c++[d])=tM b a c|||row b a d:=by simp[tM,mf]
theorem rL{p:L α->Prop}(c:p [])(d:∀a b,p a->p (a++[b])):∀a,p a:=by
 intro a;rw[<-L.reverse_reverse a];induction a.reverse with
 |nil=>exact c
 |cons b c a=>rw[L.reverse_cons];exact d _ _ a
theorem Xl(c)(a)(b)(d):(tM c a d).testBit b=d.any (λe=>(row c a e).testBit b):=by
 refine rL (p:=λe=>(tM c a e).testBit b=e.any (λe=>(row c a e).testBit b)) (by simp[tM]) (λa b a=> ?_) d;rw[tJ,lR,a,L.any_append];simp
theorem abm(a)(b)(c):tM a b c<2 ^ a:=by
 refine rL (p:=λd=>tM a b d<2 ^ a) (oa a) (λa b a=> ?_) c;rw[tJ];exact pD a (lJ _ _)
theorem Zj(a:m<=64)(a b):tM m b (cJ (row m a q))=row m (fD m a b) q:=by
 apply lI;intro c;rw[Xl,show row m (fD m a b) q=tv m (fD m a b q) from Y,bR,dS,eH,bA,cS,fD,eH];constructor
 .rintro⟨c,a,b⟩
  obtain⟨d,a⟩:=jy.1 a;rw[row,bR] at a b;simp only[bA,cS] at a b;exact⟨b.1,c,sU a.1,by simp[a.2,b.2]⟩
 rintro⟨c,d,b,a⟩;simp only[bA,eC] at a b;refine⟨d,jy.2 ⟨O,?_⟩,?_⟩
 .rw[row,bR];simp[b,a.1]
 rw[row,bR];simp[c,a.2]
theorem abh(a):row m (km q a) q=0:=by
 rw[row,<-zS (n:=m)];exact gU λa _=>by simp[km]
theorem UL(b)(c:q<m):(bF m (km q b)).set q 0=bF m (km q b):=by
 apply lB;intro b;by_cases a:q=b
 .subst a
  rw[jU (by rw[bY];exact c),cL c,abh]
 rw[lQ a]
theorem Bh(a)(b i)(G:a<=64)(f)(d5:Gl f)(B W)(e:iM a b f B)(a0:iM a i f W):
  aQ 268 #[B,W] f λh k=>∃e5,h=.returned (.tuple #[e5,aI])/\iM a (fD a b i) k e5/\Fr j f k:=by
 have RR:=Z (λl(e5:Fr j f l)=>zM a b i G l B W (e.fr e5) (a0.fr e5));obtain⟨i3,rfl,A⟩:=e;obtain⟨h7,rfl,f3⟩:=a0;obtain⟨g4,h9,i1,g5,rfl,-,-,e6⟩:=A;obtain⟨f2,w,x,a2,rfl,-,-,d1⟩:=f3;rw[bY] at*;rw[bY] at*;have⟨d6,b1,f7,f8⟩:=gB e6 d1 d5 (λl=>mG a G l);clear e6 d1 d5
 delta aQ;go_in
 go_wp2_with fail;refine aZ.nm (λa0 W=> ?_);have b4:N (Fr j f a0):=Z (W▸(((Fr.refl j f).alloc _).alloc _).alloc _);have d2:N (aY a0 f.heap.size #[I a,.slice g4 a g5] 355):=Z (W▸aC (aC (bM Y) _) _);have d3:N (a0.heap[f.heap.size+1]? =S (.cells #[I a,.slice f2 a a2] 355 (0,0))):=Z (W▸aC (bM sI) _);have d9:N (a0.heap[f.heap.size+1+1]? =S (.cells #[aI,aV] 355 (0,0))):=Z (W▸bM sI);clear W;refine sg (RR.1 a0 b4.1) ?_;rintro h W ⟨rfl,b⟩;have⟨d4,a3,a5,b9⟩:=gB (b4.1.step b) (b.hs d2.1) (b.hs d3.1) (b.hs d9.1);clear b4 d2 d3 d9 b;have R:=bx a3.1;have U:=dh a3.1;have D:=dh a5.1;have F:=λc=>dh (aC a5.1 c);have d7:=Z (ba b9.1);go_wp2_with fail;clear R U D F;refine sg (f8.1 _) ?_;rintro h c9 ⟨q,rfl,h3,f0,b⟩;have HQ:N (f.heap.size+1+1<q):=Z (oB d7.1);have⟨d1,W,a0,d2⟩:=gB (d4.1.step b) (b.hs a3.1) (b.hs a5.1) (b.hs b9.1);clear d4 a3 a5 b9 d7 b;have a5:=Z (f0);clear f0 h3;have R:=bx W.1;have U:=dh W.1;have D:=dh a0.1;have F:=λc=>dh (aC a0.1 c);obtain⟨X,b4⟩:=M c9.heap.size;go_wp2_with fail;clear R U D F;refine cT (λa3 b9=> ?_);rw[<-b4];have HM:N (q<X):=Z (oB (ba a5.1));have b:Fr j c9 a3:=b9▸(Fr.refl j c9).alloc _;have c9:aY a3 X #[I a,.slice (S (H q 0)) a a] 355:=b9▸bM b4;clear b9 b4;have⟨b5,b2,b3,c0,b4⟩:=va (d1.1.step b) (b.hs W.1) (b.hs a0.1) (b.hs d2.1) (b.hs a5.1);clear d1 W a0 d2 a5 b;have b8:=Z (c9);clear c9;have g2:N (Ub a3 q (bF a (km 0 (fD a b i)))):=Z (by have:=b4.1;rw[mY,<-Fk a (fD a b i)] at this;exact this);clear b4;go_loopg [8,25] a (λgk s8 K wr=>∃d:E,d+gk=a/\K=I d/\bT q a3 wr/\Ub wr q (bF a (km d (fD a b i))))
 .exact⟨0,du,Y,rF,g2.1⟩
 case round=>
  obtain⟨d,HK,rfl,e7,e9⟩:=hrel;have⟨s,c2⟩:=bD e7 e9;have W:d<=a:=O;clear e7 e9;by_cases V:d<a
  .have b7:=Z V
   have⟨W,a0⟩:=dy d a;obtain rfl:=d6.1.addr (cL V);obtain rfl:=b1.1.addr (cL V);obtain⟨W,h5⟩:=M wr;subst h5;obtain⟨g8,h0⟩:=M gk;subst h0;have y:=Z (b5.1.keep s.1 (λK h=>by have:=HQ.1;omega));have a4:=Z (s.1.aB b2.1 (λh=>by have:=HQ.1;omega));have a6:=Z (s.1.aB b3.1 (λh=>by have:=HQ.1;omega));have a8:=Z (s.1.aB c0.1 (λh=>by have:=HQ.1;omega));have C:=Z (s.1.aB b8.1 (λh=>by have:=HM.1;omega));have W:=(d6.1.f y.1).u64 (cL V);have R:=bx a4.1;have U:=dh a4.1;obtain⟨m,A⟩:=M (row a b d);have g0:=Z A;have a3:m<18446744073709551616:=A▸dW G;have a0:∀o∈cJ m,o<a:=λo v=>EJ (A▸lJ (b d) a) v;have f9:=Z a0;rw[<-A] at W;clear A a0 V;go_wp2_with fail;(clear R U;clear W;refine sg (rJ m a3 _ (f7.1.fr y.1)) ?_;rintro h d0 ⟨A,rfl,h4,c6⟩;obtain⟨h8,e1,i2,i0,rfl,-,-,R⟩:=h4;have HL:=Z R;have U:(cU (cJ m)).length=(cJ m).length:=by simp[cU]);(rw[U];obtain⟨P,A⟩:=M ((cJ m).length);rw[<-A];have HL2:=Z A;have V:P<=64:=by rw[A];exact kU m);have⟨f4,e0⟩:=bD (s.1.step c6) (c2.1.fr c6 id);have f6:N (¬(∃a1 b0,cJ m=a1::b0)\/e1≠q):=Z (by
    by_cases a9:e1=q
    .left
     (rintro⟨a1,b0,V⟩;have W:(cU (cJ m))[0]? =S (a1:T):=by rw[V];rfl);exact(R.uQ W).ne (⟨_,_,e0.1⟩:fE 336 d0 q) J a9
    exact .inr a9)
   clear R U A c6;go_wp2_with fail;go_loopg [10,35] P (λgk s10 K wr=>∃r:E,r+gk=P/\K=I r/\bT q d0 wr/\Ub wr q ((bF a (km d (fD a b i))).set d (tM a i ((cJ m).take r))))
   .exact⟨0,du,Y,rF,by rw[L.take_zero];show Ub _ _ ((bF a (km d (fD a b i))).set d 0);rw[UL _ b7.1];exact e0.1⟩
   case round=>
    obtain⟨r,HJ,rfl,e8,f1⟩:=hrel;have⟨b6,c1⟩:=bD e8 f1;have A:r<=P:=O;clear e8 f1;have FT:=Z (f4.1.tr b6.1);by_cases A:r<P
    .obtain⟨o,v⟩:∃o,(cJ m)[r]? =S o:=⟨_,cF An⟩
     (have c8:=f9.1 o (bQ v);have⟨g1,d8⟩:=bD v c8;have c7:(cU (cJ m))[r]? =S (o:T):=by simp[cU,v]);obtain rfl:=HL.1.addr c7;have g9:=f6.1.resolve_left (λe=>e (by cases a9:cJ m with|nil=>rw[a9] at v;simp at v|cons a1 b0=>exact⟨a1,b0,Y⟩));have g6:=b6.1.aF (HL.1.int c7) g9;have y:=Z (b5.1.keep FT.1 (λK h=>by have:=HQ.1;omega));have a4:=Z (FT.1.aB b2.1 (λh=>by have:=HQ.1;omega));have a6:=Z (FT.1.aB b3.1 (λh=>by have:=HQ.1;omega));have a8:=Z (FT.1.aB c0.1 (λh=>by have:=HQ.1;omega));have C:=Z (FT.1.aB b8.1 (λh=>by have:=HM.1;omega));have c4:=(b1.1.f y.1).u64 (cL c8);obtain⟨p,R⟩:=M (tM a i ((cJ m).take r));obtain⟨u,A⟩:=M (row a i o);have h1:p<18446744073709551616:=R▸jd (abm a i _) (lj (n:=2) J G);have h2:u<18446744073709551616:=A▸dW G;have Q:N (Ub wr q ((bF a (km d (fD a b i))).set d p)):=Z (R▸c1.1);have U:((bF a (km d (fD a b i))).set d p)[d]? =S p:=jU (by rw[bY];exact b7.1);have g7:N (p|||u=tM a i ((cJ m).take (r+1))):=Z (by rw[bJ g1.1,tJ,R,A]);rw[<-A] at c4;have V:=Z A;clear A R v c7 c8;have c5:=Q.1.cell U;have h6:∀c,(wr.alloc c).frozen? (H q d)=δ:=λc=>aG (aC Q.1 c) _;have e3:∀c,(wr.alloc c).cell? (H q d)=S (.int .u64 (p:E)):=λc=>by rw[aj (aC Q.1 c),<-aj Q.1];exact c5
     (clear U;have v:(0:T)<=(o:T):=jD;have v:(o:T)<(a:T):=oB d8.1;have⟨v,A⟩:=dy r P;have D:=dh a6.1;have F:=λc=>dh (aC a6.1 c);have c3:=dh C.1;have e2:=λc=>dh (aC C.1 c);have e4:∀c,(wr.alloc c).cell? (H w (x+o))=S (.int .u64 (u:E)):=λc=>by rw[V.1];exact(b1.1.f (y.1.alloc c)).u64 (cL d8.1));have n:(λk:ε=>k.cell? (H X 1)=S (.slice (S (H q 0)) a a)/\k.cell? (H q d)=S (.int .u64 (p:E))/\k.cell? (H (f.heap.size+1) 1)=S (.slice (S (H w x)) a a2)/\k.cell? (H w (x+o))=S (.int .u64 (u:E))) wr.drew:=⟨c3,c5,D,c4⟩;go_wp2_with fail;refine Df (λk=>k.cell? (H X 1)=S (.slice (S (H q 0)) a a)/\k.cell? (H q d)=S (.int .u64 (p:E))/\k.cell? (H (f.heap.size+1) 1)=S (.slice (S (H w x)) a a2)/\k.cell? (H w (x+o))=S (.int .u64 (u:E))) 16 kR kR ?_;refine At.take (i:=0) (v:= ?_) Y J kR kR (λ_ _ _ e=>e) n (Or.inl ⟨by rfl,?_⟩) ?_;rotate_left
     .intro l g;obtain⟨s1,s2,s3,s4⟩:=g;go_simp;try rfl
     (try simp only[Act.put,rC]);refine At.take (i:=1) (v:= ?_) Y J kR kR (λ_ _ _ e=>e) n (Or.inl ⟨by rfl,?_⟩) ?_;rotate_left
     .intro l g;obtain⟨s1,s2,s3,s4⟩:=g;go_simp;try rfl
     (try simp only[Act.put,rC]);refine At.take (i:=2) (v:= ?_) Y J kR kR (λ_ _ _ e=>e) n (Or.inl ⟨by rfl,?_⟩) ?_;rotate_left
     .intro l g;obtain⟨s1,s2,s3,s4⟩:=g;go_simp;try rfl
     (try simp only[Act.put,rC]);refine At.take (i:=3) (v:= ?_) Y J kR kR (λ_ _ _ e=>e) n (Or.inl ⟨by rfl,?_⟩) ?_;rotate_left
     .intro l g;obtain⟨s1,s2,s3,s4⟩:=g;go_simp;try rfl
     (try simp only[Act.put,rC]);refine At.take (i:=4) (v:= ?_) Y J kR kR (λ_ _ _ e=>e) n (Or.inl ⟨by rfl,?_⟩) ?_;rotate_left
     .intro l g;obtain⟨s1,s2,s3,s4⟩:=g;go_simp;try rfl
     (try simp only[Act.put,rC]);refine At.take (i:=5) (v:= ?_) Y J kR kR (λ_ _ _ e=>e) n (Or.inl ⟨by rfl,?_⟩) ?_;rotate_left
     .intro l g;obtain⟨s1,s2,s3,s4⟩:=g;go_simp;try rfl
     (try simp only[Act.put,rC]);refine At.take (i:=6) (v:= ?_) Y J kR kR (λ_ _ _ e=>e) n (Or.inl ⟨by rfl,?_⟩) ?_;rotate_left
     .intro l g;obtain⟨s1,s2,s3,s4⟩:=g;go_simp;try rfl
     (try simp only[Act.put,rC]);refine At.take (i:=7) (v:= ?_) Y J kR kR (λ_ _ _ e=>e) n (Or.inl ⟨by rfl,?_⟩) ?_;rotate_left
     .intro l g;obtain⟨s1,s2,s3,s4⟩:=g;go_simp;try rfl
     (try simp only[Act.put,rC]);refine At.take (i:=8) (v:= ?_) Y J kR kR (λ_ _ _ e=>e) n (Or.inl ⟨by rfl,?_⟩) ?_;rotate_left
     .intro l g;obtain⟨s1,s2,s3,s4⟩:=g;go_simp;try rfl
     (try simp only[Act.put,rC]);refine At.take (i:=9) (v:= ?_) Y J kR kR (λ_ _ _ e=>e) n (Or.inl ⟨by rfl,?_⟩) ?_;rotate_left
     .intro l g;obtain⟨s1,s2,s3,s4⟩:=g;go_simp;try rfl
     (try simp only[Act.put,rC]);refine At.take (i:=10) (v:= ?_) Y J kR kR (λ_ _ _ e=>e) n (Or.inl ⟨by rfl,?_⟩) ?_;rotate_left
     .intro l g;obtain⟨s1,s2,s3,s4⟩:=g;go_simp;try rfl
     (try simp only[Act.put,rC]);refine At.take (i:=11) (v:= ?_) Y J kR kR (λ_ _ _ e=>e) n (Or.inl ⟨by rfl,?_⟩) ?_;rotate_left
     .intro l g;obtain⟨s1,s2,s3,s4⟩:=g;go_simp;try rfl
     (try simp only[Act.put,rC]);refine At.take (i:=12) (v:= ?_) Y J kR kR (λ_ _ _ e=>e) n (Or.inl ⟨by rfl,?_⟩) ?_;rotate_left
     .intro l g;obtain⟨s1,s2,s3,s4⟩:=g;go_simp;try rfl
     (try simp only[Act.put,rC]);have a7:∀c,(λk:ε=>k.cell? (H X 1)=S (.slice (S (H q 0)) a a)/\k.cell? (H q d)=S (.int .u64 (p:E))/\k.cell? (H (f.heap.size+1) 1)=S (.slice (S (H w x)) a a2)/\k.cell? (H w (x+o))=S (.int .u64 (u:E))) (wr.alloc c).drew:=λc=>⟨e2 c,e3 c,F c,e4 c⟩;refine At.one (i:=13) Y J kR (λz t=> ?_);go_simp;refine t _ _ (a7 _) ?_;clear t z;(try simp only[Act.put,rC]);refine At.one (i:=14) Y J kR (λz t=> ?_);go_simp;go_at_call 311;refine(ui p u wr.heap.size h1 h2 (wr.alloc (.cells #[.int .u64 (p:T),.int .u64 (u:T)] 336)).drew (eR (w:=wr) Y _)).mono ?_;rintro h e ⟨rfl,rfl⟩;refine t _ _ (a7 _) ?_;clear t z;(try simp only[Act.put,rC]);refine At.one (i:=15) Y J kR (λz t=> ?_);go_simp;refine t _ _ (a7 _) ?_;clear t z;(try simp only[Act.put,rC]);have k:N (∀c,Ub ((wr.alloc c).setCell (H q d) (.int .u64 ((p|||u:E):T))) q ((bF a (km d (fD a b i))).set d (tM a i ((cJ m).take (r+1))))):=Z (λc=>by
      have e:=Ub.set (Q.1.fr ((Fr.refl j wr).alloc c) id) d (p|||u);rw[L.set_set] at e;rw[<-g7.1];exact e)
     have g:N (∀c B,bT q d0 ((wr.alloc c).setCell (H q d) B)):=Z (λc B=>(b6.1.alloc c).aK d B);refine At.last Y kR kR (λz t=> ?_);go_simp;refine t _ _ ?_;clear t z a7 n c4 e4 g6 c5 e3 h6;clear D F c3 e2;go_wp2;go_roundg (gk-1)
     .exact⟨r+1,O,by go_num,(g.1 _ _).drew,(k.1 _).fr tC.drew id⟩
     omega
    have g:N (Ub wr q (bF a (km (d+1) (fD a b i)))):=Z (by
     have e:=c1.1;rw[dq An,g0.1,Zj G,Ez _ b7.1] at e;exact e)
    clear c1;go_wp2;go_roundg (g8-1)
    .exact⟨d+1,O,by go_num,FT.1,g.1⟩
    omega
  have g:N (Ub wr q (bF a (fD a b i))):=Z (by have:=c2.1;rwa[show d=a from by omega,Lh] at this);have y:=Z (b5.1.keep s.1 (λK h=>by have:=HQ.1;omega));have a4:=Z (s.1.aB b2.1 (λh=>by have:=HQ.1;omega));have a6:=Z (s.1.aB b3.1 (λh=>by have:=HQ.1;omega));have a8:=Z (s.1.aB c0.1 (λh=>by have:=HQ.1;omega));have C:=Z (s.1.aB b8.1 (λh=>by have:=HM.1;omega));clear c2;have c:=bx C.1;have c3:=dh C.1;obtain⟨c,d,e⟩:=oK a8.1;have RB:∀c d,((wr.setCell (H (f.heap.size+1+1) 0) c).setCell (H (f.heap.size+1+1) 1) d).heap[f.heap.size+1+1]? =S (.cells #[c,d] 355 (0,0)):=λc d=>(aD (aD a8.1 0 c) 1 d).trans Y;have⟨C0,h⟩:=bD (aj (RB (I a) (.slice (S (H q 0)) a a)) 0) (aj (RB (I a) (.slice (S (H q 0)) a a)) 1);clear RB;have e:¬q=f.heap.size+1+1:=oB HQ.1;have g3:N (∀c d,Ub ((wr.setCell (H (f.heap.size+1+1) 0) c).setCell (H (f.heap.size+1+1) 1) d) q (bF a (fD a b i))):=Z (λc d=>bi (bi g.1 _ e c) _ e d);have f5:N (∀c d,Fr j f ((wr.setCell (H (f.heap.size+1+1) 0) c).setCell (H (f.heap.size+1+1) 1) d)):=Z (λc d=>(y.1.cN _ (by show _<=f.heap.size+1+1;omega) c).cN _ (by show _<=f.heap.size+1+1;omega) d);clear e;go_wp2;refine aO (v:=.tuple #[.agg #[I a,.slice (S (H q 0)) a a],aI]) (by have b:=C0.1;have c:=h.1;simp[results,results268,go_sem,b,c]) Y ⟨_,Y,⟨_,Y,(g3.1 _ _).sl (bY a _) (by simp[maxLen];omega)⟩,f5.1 _ _⟩
def Lc(a:Hs)(f:T)(e:L Ch)(g:ε)(c:Ending)(b:ε):Prop:=
 (if(dw a e&&ep f)=γ then ∃d,c=.returned (.tuple #[d,aI])/\iM a.length (cP a f e) b d else c=.returned (.tuple #[.agg #[aI,aV],I 1]))/\Fr j g b
theorem ng(a:Hs)(R:T)(e:L Ch)(k4 k5:ζ)(D:ε)(l1:Gl D)(f3:eJ D k4 a)(h6:Sl 144 3 CC D k5 e):
  aQ 213 #[k4,I R,k5] D (Lc a R e D):=by
 have⟨b8,HL,l2⟩:=dt f3 h6 l1;obtain⟨f4,rfl,o5⟩:=f3;obtain⟨j3,o1,o7,j6,rfl,m5,o3,o4⟩:=h6;generalize f3:e.length=a7 at HL m5 |-;clear f3
 delta aQ;go_in
 go_wp2_with fail;refine aZ.nm (λk4 f3=> ?_);obtain⟨v,h6⟩:=M D.heap.size;rw[<-h6];generalize k5:v+1=U;have l0:=uV f3 h6;have l5:(aY k4 U #[aI,aV] 355):=(by rw[f3];exact bM sO);have f8:=lq f3;have k2:D.heap.size<=U:=O;clear f3 h6 k5;refine sg (jT a e _ _ k4 (b8.1.fr f8) (HL.1.f f8)) ?_;rintro z b4 ⟨rfl,A⟩;have a5:=Z (f8.step A);have c8:=(A.hs l0.1);have d4:=(A.hs l5);have fin:N (∀(c:ε)(b5:T)(b6:ζ),Fr j D c->aY c U #[aI,aV] 355->
   ((c.setCell (H U 0) (I b5)).setCell (H U 1) b6).heap[U]? =S (.cells #[I b5,b6] 355 (0,0))/\
   Fr j D ((c.setCell (H U 0) (I b5)).setCell (H U 1) b6)/\bT U c ((c.setCell (H U 0) (I b5)).setCell (H U 1) b6)):=Z (λc b5 b6 w b3=>⟨by
    have:=aD (aD b3 0 (I b5)) 1 b6;simpa using this,(w.cN (H U 0) k2 _).cN (H U 1) k2 _,(rF.aK 0 _).aK 1 _⟩)
 obtain⟨f1,j4,k6⟩:=oK d4;cases b3:dw a e with
 |false=>
  have d0:((dw a e&&ep R)=δ):=(by rw[b3];rfl);go_wp2;have w:=fin.1 b4 0 aV a5.1 d4;refine aO (v:=.tuple #[.agg #[aI,aV],I 1]) (by have c0:=aj w.1 0;have C:=aj w.1 1;simp[results,results213,go_sem,c0,C]) Y ⟨?_,w.2.1⟩;rw[aR (by rw[d0];exact pz)]
 |true=>
 by_cases d2:ep R=δ
 .have d0:((dw a e&&ep R)=δ):=(by rw[d2];simp)
  have f3:(R !=0)=γ:=by simp only[ep,κ.or_eq_false_iff,rR] at d2;simp;exact d2.1
  have f8:(R !=1)=γ:=by simp only[ep,κ.or_eq_false_iff,rR] at d2;simp;exact d2.2
  go_wp2;have w:=fin.1 b4 0 aV a5.1 d4;refine aO (v:=.tuple #[.agg #[aI,aV],I 1]) (by have c0:=aj w.1 0;have C:=aj w.1 1;simp[results,results213,go_sem,c0,C]) Y ⟨?_,w.2.1⟩;rw[aR (by rw[d0];exact pz)]
 have i6:ep R=γ:=by cases d8:ep R;exact absurd d8 d2;rfl
 have d0:((dw a e&&ep R)=γ):=(by rw[b3,i6];rfl);obtain⟨f,k0⟩:=M a.length;have HLN:=Z k0;have d2:f<=32:=oB (bK (fm b3).1);have c9:(vm a e=f/\iz a=f):=(by unfold vm iz;rw[b3,(fm b3).1,HLN.1];exact⟨Y,Y⟩);have i8:(R=0\/R=1):=(by simpa only[ep,eN,ef] using i6);have o2:(R !=0&&R !=1)=δ:=by rcases i8 with a|a<;>subst a<;>rfl
 clear k0;rcases i8 with k1|k1;all_goals subst k1
 all_goals go_wp2_with fail
 .refine iR [5] [8] (Mt b4.heap.size 355) [[],[0],[],[],[2,3],[2,3,4],[0,1,2,3,4,5],[],[0,1,2,3,4,5,6,7]] [.w1 0 (λt _=>t=.agg #[f4]),.w1 1 (λt c=>iM f (jo a) c t),.w1 2 (λt _=>t=.agg #[f4]),.w1 3 (λt _=>t=.slice j3 a7 j6),.w1 4 (λt c=>iM f (Jg a e) c t),.w1 5 (λt c=>∃a8,t=.slice (S (H a8 0)) 1 1/\GB f (Jg a e) c a8),.w1 6 (λt c=>iM f (lr a e) c t),.w1 7 (λt c=>∃u K,t=aP u 0/\b4.heap.size<=u/\aY c u K 355/\K.size=2),.w1 7 (λi2 c=>∃u,i2=aP u 0/\b4.heap.size<=u/\GB f (lr a e) c u)] [[0],[1],[2],[3],[4],[5],[6],[7],[7]] kR kR kR kR Y (λ_ _ _ _ z a=>⟨z.symm.trans a.1,a.2⟩) (λ_ _ A=>Mt.Rf A) (λ_ _ _ a e5=>a.trans e5) ?hstab ?hstabM ?walk
  case hstab=>
   refine⟨?_,?_,?_,?_,?_,?_,?_,?_,?_,trivial⟩<;>first|exact Lu|(intro x D X a A;simp only[bG.at] at a |-;exact a.fr A)|(intro x D X a A;simp only[bG.at] at a |-;obtain⟨a8,C,P⟩:=a;exact⟨a8,C,P.fr A⟩)|(intro x D X a A;simp only[bG.at] at a |-;obtain⟨u,K,C,P,a2,c1⟩:=a;exact⟨u,K,C,P,A.hs a2,c1⟩)|(intro x D X a A;simp only[bG.at] at a |-;obtain⟨u,C,P,a2⟩:=a;exact⟨u,C,P,a2.fr A⟩)
  case hstabM=>
   intro k3 e3;simp only[rB] at e3;subst e3;refine⟨?_,?_,?_,?_,?_,?_,?_,?_,?_,trivial⟩<;>first|exact wZ|(intro _ _ _ x D X a a7;simp only[bG.at] at a |-;exact a.mt a7 J)|(intro _ _ _ x D X a a7;simp only[bG.at] at a |-;obtain⟨u,K,C,P,a2,c1⟩:=a;obtain⟨h1,h3,h4⟩:=a7.kind u K a2;exact⟨u,h1,C,P,h3,by rw[h4];exact c1⟩)
  case walk=>
   intro x;obtain⟨s0,h⟩:∃s,x 0=s:=⟨_,Y⟩;obtain⟨s1,i⟩:∃s,x 1=s:=⟨_,Y⟩;obtain⟨s2,k⟩:∃s,x 2=s:=⟨_,Y⟩;obtain⟨s3,l⟩:∃s,x 3=s:=⟨_,Y⟩;obtain⟨s4,m⟩:∃s,x 4=s:=⟨_,Y⟩;obtain⟨s5,n⟩:∃s,x 5=s:=⟨_,Y⟩;obtain⟨s6,o⟩:∃s,x 6=s:=⟨_,Y⟩;obtain⟨s7,p⟩:∃s,x 7=s:=⟨_,Y⟩;obtain⟨s8,r⟩:∃s,x 8=s:=⟨_,Y⟩;refine⟨?_,?_,?_,?_,?_,?_,?_,?_,?_,?_⟩
   ·
    intro c g b F d;simp only[rY,ξ,h,i,k,l,m,n,o,p,r] at d |-;have a9:=g.back.aF (aj c8 0) id;go_simp;exact d _ _ rF Y
   ·
    intro c g b F d;have B:=b 0 J;simp only[rA,bG.at,h,i,k,l,m,n,o,p,r] at B;simp only[rY,ξ,h,i,k,l,m,n,o,p,r] at d |-;subst B;go_simp;go_at_call 265;refine(wP a _ c ((b8.1.fr a5.1).fr g.back)).mono ?_;rintro z d5 ⟨e7,rfl,Q,w⟩;rw[c9.2] at Q;exact d _ _ w Q
   ·
    intro c g b F d;simp only[rY,ξ,h,i,k,l,m,n,o,p,r] at d |-;have a9:=g.back.aF (aj c8 0) id;go_simp;exact d _ _ rF Y
   ·
    intro c g b F d;simp only[rY,ξ,h,i,k,l,m,n,o,p,r] at d |-;go_simp;exact d _ _ rF Y
   ·
    intro c g b F d;have v:=b 2 J;have y:=b 3 J;simp only[rA,bG.at,h,i,k,l,m,n,o,p,r] at v y;simp only[rY,ξ,h,i,k,l,m,n,o,p,r] at d |-;subst v y;go_simp;go_at_call 266;refine(Sg a e _ _ c ((b8.1.fr a5.1).fr g.back) ((HL.1.f a5.1).f g.back)).mono ?_;rintro z d5 ⟨e7,rfl,Q,w⟩;rw[c9.1] at Q;exact d _ _ w Q
   ·
    intro c g b F d;have v:=b 2 J;have y:=b 3 J;have G:=b 4 J;simp only[rA,bG.at,h,i,k,l,m,n,o,p,r] at v y G;simp only[rY,ξ,h,i,k,l,m,n,o,p,r] at d |-;subst v y;obtain⟨s9,rfl,a4⟩:=G;have g3:=Z a4;obtain⟨l7,m0,n0,m2,rfl,-,-,-⟩:=a4;go_simp;exact d _ _ cZ ⟨_,Y,⟨_,bM Y,g3.1.f cZ⟩⟩
   ·
    intro c g b F d;have B:=b 0 J;have V:=b 1 J;have v:=b 2 J;have y:=b 3 J;have G:=b 4 J;have b0:=b 5 J;simp only[rA,bG.at,h,i,k,l,m,n,o,p,r] at B V v y G b0;simp only[rY,ξ,h,i,k,l,m,n,o,p,r] at d |-;subst B v y;obtain⟨f7,rfl,h5⟩:=b0;go_simp;go_at_call 264;refine(vZ f (jo a) (Jg a e) O c _ f7 V h5).mono ?_;rintro z d5 ⟨e7,rfl,Q,w⟩;exact d _ _ w Q
   ·
    intro c g b F d;simp only[rY,ξ,h,i,k,l,m,n,o,p,r] at d |-;go_simp;exact d _ _ cZ ⟨_,_,Y,g.fr.size,bM Y,Y⟩
   ·
    intro c g b F d;have B:=b 0 J;have V:=b 1 J;have v:=b 2 J;have y:=b 3 J;have G:=b 4 J;have b0:=b 5 J;have b1:=b 6 J;have b2:=b 7 J;simp only[rA,bG.at,h,i,k,l,m,n,o,p,r] at B V v y G b0 b1 b2;simp only[rY,ξ,h,i,k,l,m,n,o,p,r] at d |-;subst B v y;obtain⟨u,K,rfl,e0,a3,e1⟩:=b2;obtain⟨n3,rfl,e4⟩:=b1;have g4:=Z e4;obtain⟨a0,g9,i1,a1,rfl,-,-,-⟩:=e4;have a9:=aj a3 0;have h0:=aj a3 1;have n8:=aG a3;rw[ju O] at a9 h0;go_simp;have c4:=aD (aD a3 0 (I f)) 1 (.slice a0 (bF f (lr a e)).length a1);rw[Bf e1] at c4;have d9:=Mt.abN a3 e0 (by rw[e1];rfl) c4 ((rF.aK 0 _).aK 1 _);exact d undef _ d9 ⟨_,Y,e0,⟨_,c4,d9.sl jR J id g4.1⟩⟩
   intro c g b;have B:=b 0 J J;have V:=b 1 J J;have v:=b 2 J J;have y:=b 3 J J;have G:=b 4 J J;have b1:=b 6 J J;have b2:=b 7 J J;have d7:=b 8 J J;simp only[rA,bG.at,h,i,k,l,m,n,o,p,r] at B V v y G b1 b2 d7;simp only[Act.put,rC,h,i,k,l,m,n,o,p,r];subst B v y;obtain⟨h2,rfl,m4,h7⟩:=d7;have b7:=Z (a5.1.step g.back);obtain⟨i3,i0⟩:=M c;subst i0;clear h i k l m n o p r;have a9:=bx (g.back.hs c8);go_wp2_with fail;refine sg (Vh a e _ _ i3 (b8.1.fr b7.1) (HL.1.f b7.1)) ?_;rintro z i4 ⟨n6,rfl,c3,b9⟩;rw[c9.1] at c3;have g1:=Z c3;obtain⟨k8,rfl,f5⟩:=c3;obtain⟨l6,l9,m9,f1,rfl,-,-,-⟩:=f5;obtain⟨n2,c2,e2⟩:=h7.fr b9;have e9:=Z e2;obtain⟨l8,m1,n1,m3,rfl,-,-,-⟩:=e2;have j7:=λc6=>bx (aC c2 c6);have j8:=λc6=>dh (aC c2 c6);go_wp2_with fail;refine aZ.nm (λi5 c5=> ?_);obtain⟨W,d3⟩:=M (i4.heap.size+1);(try rw[<-d3]);have a6:=lq c5;have g6:=dL c5 sO;clear c5 d3;refine sg (vZ f (lr a e) (jq a e) O i5 _ W ⟨_,Y,e9.1.f a6⟩ (Sv (g1.1.fr a6) g6.1)) ?_;rintro z c7 ⟨n5,rfl,f2,d1⟩;have f0:=Z (f2.congr (f':=cP a 0 e) (λb5 b6 m7 m8=>Ve b3 jE jE));have g7:=(d1.hs (a6.hs (b9.hs (g.back.hs d4))));obtain⟨k9,rfl,f6⟩:=f0.1;obtain⟨a0,g9,i1,a1,rfl,-,-,-⟩:=f6;obtain⟨f1,j4,k6⟩:=oK g7;go_wp2;have w:=fin.1 c7 f (.slice a0 (bF f (cP a 0 e)).length a1) (((b7.1.step b9).step a6).step d1) g7;refine aO (v:=.tuple #[.agg #[I f,.slice a0 (bF f (cP a 0 e)).length a1],aI]) (by have c0:=aj w.1 0;have C:=aj w.1 1;simp[results,results213,go_sem,c0,C]) Y ⟨?_,w.2.1⟩;rw[aS d0,<-HLN.1];refine⟨_,Y,?_⟩;obtain⟨e6,d6,a4⟩:=f0.1;refine⟨e6,d6,a4.aJ jR w.2.2 (λn4 e5 h9 h8 z=> ?_)⟩;have d8:=h9.resolve_right id;subst d8;exact h8.ne ⟨_,_,z▸g7⟩ J Y
 refine iR [5] [8] (Mt b4.heap.size 355) [[],[0],[],[],[2,3],[2,3,4],[0,1,2,3,4,5],[],[0,1,2,3,4,5,6,7]] [.w1 0 (λt _=>t=.agg #[f4]),.w1 1 (λt c=>iM f (jo a) c t),.w1 2 (λt _=>t=.agg #[f4]),.w1 3 (λt _=>t=.slice j3 a7 j6),.w1 4 (λt c=>iM f (Jg a e) c t),.w1 5 (λt c=>∃a8,t=.slice (S (H a8 0)) 1 1/\GB f (Jg a e) c a8),.w1 6 (λt c=>iM f (lr a e) c t),.w1 7 (λt c=>∃u K,t=aP u 0/\b4.heap.size<=u/\aY c u K 355/\K.size=2),.w1 7 (λi2 c=>∃u,i2=aP u 0/\b4.heap.size<=u/\GB f (lr a e) c u)] [[0],[1],[2],[3],[4],[5],[6],[7],[7]] kR kR kR kR Y (λ_ _ _ _ z a=>⟨z.symm.trans a.1,a.2⟩) (λ_ _ A=>Mt.Rf A) (λ_ _ _ a e5=>a.trans e5) ?hstab ?hstabM ?walk
 case hstab=>
  refine⟨?_,?_,?_,?_,?_,?_,?_,?_,?_,trivial⟩<;>first|exact Lu|(intro x D X a A;simp only[bG.at] at a |-;exact a.fr A)|(intro x D X a A;simp only[bG.at] at a |-;obtain⟨a8,C,P⟩:=a;exact⟨a8,C,P.fr A⟩)|(intro x D X a A;simp only[bG.at] at a |-;obtain⟨u,K,C,P,a2,c1⟩:=a;exact⟨u,K,C,P,A.hs a2,c1⟩)|(intro x D X a A;simp only[bG.at] at a |-;obtain⟨u,C,P,a2⟩:=a;exact⟨u,C,P,a2.fr A⟩)
 case hstabM=>
  intro k3 e3;simp only[rB] at e3;subst e3;refine⟨?_,?_,?_,?_,?_,?_,?_,?_,?_,trivial⟩<;>first|exact wZ|(intro _ _ _ x D X a a7;simp only[bG.at] at a |-;exact a.mt a7 J)|(intro _ _ _ x D X a a7;simp only[bG.at] at a |-;obtain⟨u,K,C,P,a2,c1⟩:=a;obtain⟨h1,h3,h4⟩:=a7.kind u K a2;exact⟨u,h1,C,P,h3,by rw[h4];exact c1⟩)
 case walk=>
  intro x;obtain⟨s0,h⟩:∃s,x 0=s:=⟨_,Y⟩;obtain⟨s1,i⟩:∃s,x 1=s:=⟨_,Y⟩;obtain⟨s2,k⟩:∃s,x 2=s:=⟨_,Y⟩;obtain⟨s3,l⟩:∃s,x 3=s:=⟨_,Y⟩;obtain⟨s4,m⟩:∃s,x 4=s:=⟨_,Y⟩;obtain⟨s5,n⟩:∃s,x 5=s:=⟨_,Y⟩;obtain⟨s6,o⟩:∃s,x 6=s:=⟨_,Y⟩;obtain⟨s7,p⟩:∃s,x 7=s:=⟨_,Y⟩;obtain⟨s8,r⟩:∃s,x 8=s:=⟨_,Y⟩;refine⟨?_,?_,?_,?_,?_,?_,?_,?_,?_,?_⟩
  ·
   intro c g b F d;simp only[rY,ξ,h,i,k,l,m,n,o,p,r] at d |-;have a9:=g.back.aF (aj c8 0) id;go_simp;exact d _ _ rF Y
  ·
   intro c g b F d;have B:=b 0 J;simp only[rA,bG.at,h,i,k,l,m,n,o,p,r] at B;simp only[rY,ξ,h,i,k,l,m,n,o,p,r] at d |-;subst B;go_simp;go_at_call 265;refine(wP a _ c ((b8.1.fr a5.1).fr g.back)).mono ?_;rintro z d5 ⟨e7,rfl,Q,w⟩;rw[c9.2] at Q;exact d _ _ w Q
  ·
   intro c g b F d;simp only[rY,ξ,h,i,k,l,m,n,o,p,r] at d |-;have a9:=g.back.aF (aj c8 0) id;go_simp;exact d _ _ rF Y
  ·
   intro c g b F d;simp only[rY,ξ,h,i,k,l,m,n,o,p,r] at d |-;go_simp;exact d _ _ rF Y
  ·
   intro c g b F d;have v:=b 2 J;have y:=b 3 J;simp only[rA,bG.at,h,i,k,l,m,n,o,p,r] at v y;simp only[rY,ξ,h,i,k,l,m,n,o,p,r] at d |-;subst v y;go_simp;go_at_call 266;refine(Sg a e _ _ c ((b8.1.fr a5.1).fr g.back) ((HL.1.f a5.1).f g.back)).mono ?_;rintro z d5 ⟨e7,rfl,Q,w⟩;rw[c9.1] at Q;exact d _ _ w Q
  ·
   intro c g b F d;have v:=b 2 J;have y:=b 3 J;have G:=b 4 J;simp only[rA,bG.at,h,i,k,l,m,n,o,p,r] at v y G;simp only[rY,ξ,h,i,k,l,m,n,o,p,r] at d |-;subst v y;obtain⟨s9,rfl,a4⟩:=G;have g3:=Z a4;obtain⟨l7,m0,n0,m2,rfl,-,-,-⟩:=a4;go_simp;exact d _ _ cZ ⟨_,Y,⟨_,bM Y,g3.1.f cZ⟩⟩
  ·
   intro c g b F d;have B:=b 0 J;have V:=b 1 J;have v:=b 2 J;have y:=b 3 J;have G:=b 4 J;have b0:=b 5 J;simp only[rA,bG.at,h,i,k,l,m,n,o,p,r] at B V v y G b0;simp only[rY,ξ,h,i,k,l,m,n,o,p,r] at d |-;subst B v y;obtain⟨f7,rfl,h5⟩:=b0;go_simp;go_at_call 264;refine(vZ f (jo a) (Jg a e) O c _ f7 V h5).mono ?_;rintro z d5 ⟨e7,rfl,Q,w⟩;exact d _ _ w Q
  ·
   intro c g b F d;simp only[rY,ξ,h,i,k,l,m,n,o,p,r] at d |-;go_simp;exact d _ _ cZ ⟨_,_,Y,g.fr.size,bM Y,Y⟩
  ·
   intro c g b F d;have B:=b 0 J;have V:=b 1 J;have v:=b 2 J;have y:=b 3 J;have G:=b 4 J;have b0:=b 5 J;have b1:=b 6 J;have b2:=b 7 J;simp only[rA,bG.at,h,i,k,l,m,n,o,p,r] at B V v y G b0 b1 b2;simp only[rY,ξ,h,i,k,l,m,n,o,p,r] at d |-;subst B v y;obtain⟨u,K,rfl,e0,a3,e1⟩:=b2;obtain⟨n3,rfl,e4⟩:=b1;have g4:=Z e4;obtain⟨a0,g9,i1,a1,rfl,-,-,-⟩:=e4;have a9:=aj a3 0;have h0:=aj a3 1;have n8:=aG a3;rw[ju O] at a9 h0;go_simp;have c4:=aD (aD a3 0 (I f)) 1 (.slice a0 (bF f (lr a e)).length a1);rw[Bf e1] at c4;have d9:=Mt.abN a3 e0 (by rw[e1];rfl) c4 ((rF.aK 0 _).aK 1 _);exact d undef _ d9 ⟨_,Y,e0,⟨_,c4,d9.sl jR J id g4.1⟩⟩
  intro c g b;have B:=b 0 J J;have V:=b 1 J J;have v:=b 2 J J;have y:=b 3 J J;have G:=b 4 J J;have b1:=b 6 J J;have b2:=b 7 J J;have d7:=b 8 J J;simp only[rA,bG.at,h,i,k,l,m,n,o,p,r] at B V v y G b1 b2 d7;simp only[Act.put,rC,h,i,k,l,m,n,o,p,r];subst B v y;obtain⟨h2,rfl,m4,h7⟩:=d7;have b7:=Z (a5.1.step g.back);obtain⟨i3,i0⟩:=M c;subst i0;clear h i k l m n o p r;have a9:=bx (g.back.hs c8);go_wp2_with fail;refine sg (Vh a e _ _ i3 (b8.1.fr b7.1) (HL.1.f b7.1)) ?_;rintro z i4 ⟨n6,rfl,c3,b9⟩;rw[c9.1] at c3;have f9:=Z (b7.1.step b9);have i9:=(b9.hs (g.back.hs d4));have g1:=Z c3;obtain⟨k8,rfl,f5⟩:=c3;obtain⟨l6,l9,m9,f1,rfl,-,-,-⟩:=f5;obtain⟨n2,c2,e2⟩:=h7.fr b9;have e9:=Z e2;obtain⟨l8,m1,n1,m3,rfl,-,-,-⟩:=e2;have j7:=λc6=>bx (aC c2 c6);have j8:=λc6=>dh (aC c2 c6);go_wp2_with fail;refine aZ.nm (λi5 c5=> ?_);obtain⟨W,d3⟩:=M i4.heap.size;try rw[<-d3]
  have a6:=cY c5;have g6:=dL c5 d3;have g2:(W≠h2/\W≠U/\D.heap.size<=W):=(by have:=ba c2;have:=ba i9;have:=f9.1.size;omega);clear c5 d3;refine sg (Bh f (lr a e) (jq a e) O i5 ((l2.1.fr f9.1).fr a6) _ _ ⟨_,Y,e9.1.f a6⟩ (g1.1.fr a6)) ?_;rintro z c7 ⟨n5,rfl,f2,d1⟩;have⟨f0,g0⟩:=bD f2 (a6.step d1);have g5:=(d1.hs g6.1);have i7:=(g0.1.hs c2);obtain⟨k9,rfl,f6⟩:=f2;obtain⟨a0,g9,i1,a1,rfl,-,-,-⟩:=f6;obtain⟨b,d,g⟩:=oK g5;have l4:(∀c,c=(c7.setCell (H W 0) (I f)).setCell (H W 1) (.slice a0 (bF f (fD f (lr a e) (jq a e))).length a1)->aY c W #[I f,.slice a0 (bF f (fD f (lr a e) (jq a e))).length a1] 355/\bT W c7 c):=(λc z=>by
   subst z;exact⟨by have:=aD (aD g5 0 (I f)) 1 (.slice a0 (bF f (fD f (lr a e) (jq a e))).length a1);simpa using this,(rF.aK 0 _).aK 1 _⟩)
  have j7:=bx i7;have j8:=dh i7;have b:h2≠W:=λz=>g2.1 z.symm;go_wp2_with fail;refine aZ.nm (λd c=> ?_);obtain⟨g,b⟩:=M c7.heap.size;try rw[<-b]
  have e8:N (bT W c7 d):=Z (by rw[c];exact((l4 _ Y).2).alloc _);have l3:(aY d g #[I f,.slice a0 (bF f (fD f (lr a e) (jq a e))).length a1] 355):=(by rw[c];exact bM (by rw[b];simp));have j0:=Z (show fE 355 c7 W from⟨_,_,g5⟩);clear c b;refine aZ.go ((vZ f (lr a e) (fD f (lr a e) (jq a e)) O d _ g ⟨_,Y,Ox (e9.1.f g0.1) e8.1 j0.1 J⟩ (Sv (by
   obtain⟨e6,d6,a4⟩:=f0.1;exact⟨e6,d6,Ox a4 e8.1 j0.1 J⟩) l3)).mono ?_)
  rintro z n7 ⟨b,rfl,m6,j9⟩;have j1:=Z (m6.congr (f':=cP a 1 e) (λb5 b6 m7 m8=>by rw[HLN.1];exact Za b3 jE jE));have g8:=(j9.hs (e8.1.aB (g0.1.hs i9) (λz=>g2.2.1 z.symm)));obtain⟨n9,rfl,k7⟩:=j1.1;obtain⟨j2,o0,o6,j5,rfl,-,-,-⟩:=k7;obtain⟨f1,j4,k6⟩:=oK g8;go_wp2;have w:=fin.1 n7 f (.slice j2 (bF f (cP a 1 e)).length j5) ((((f9.1.step a6).step d1).keep e8.1 (λk3 z=>by have:=g2.2.2;omega)).step j9) g8;refine aO (v:=.tuple #[.agg #[I f,.slice j2 (bF f (cP a 1 e)).length j5],aI]) (by have c0:=aj w.1 0;have C:=aj w.1 1;simp[results,results213,go_sem,c0,C]) Y ⟨?_,w.2.1⟩;rw[aS d0,<-HLN.1];refine⟨_,Y,?_⟩;obtain⟨e6,d6,a4⟩:=j1.1;refine⟨e6,d6,a4.aJ jR w.2.2 (λn4 e5 h9 h8 z=> ?_)⟩;have d8:=h9.resolve_right id;subst d8;exact h8.ne ⟨_,_,z▸g8⟩ J Y
theorem Bz(c a b d)(e:a<=b)(g:b<=maxLen):Calls prog 169 #[.slice c a b] d λf e=>f=.returned (.slice c a a)/\d=e:=by
 have d:(0:T)<=(a:T):=T.natCast_nonneg _;have a:(a:T)<=(b:T):=O;unfold maxLen at g;cases c with
 |none=>
  go_in
  go_wp2;go_ret;exact⟨Y,Y⟩
 |some a=>
  go_in
  go_wp2;go_ret;exact⟨Y,Y⟩
theorem abd(c a b d)(e:a<=b)(g:b<=maxLen):Calls prog 181 #[.slice c a b] d λf e=>f=.returned (.slice c a a)/\d=e:=by
 have d:(0:T)<=(a:T):=T.natCast_nonneg _;have a:(a:T)<=(b:T):=O;unfold maxLen at g;cases c with
 |none=>
  go_in
  go_wp2;go_ret;exact⟨Y,Y⟩
 |some a=>
  go_in
  go_wp2;go_ret;exact⟨Y,Y⟩
inductive Kd
 |ses
 |rd
 |wr (l:L Ch) (v:ζ)
 |ov (l:L Ch) (v:ζ)
def Zo:Kd->ζ
 |.ses=>.iface 478 (.agg #[])
 |.rd=>.iface 479 (.agg #[])
 |.wr _ a=>.iface 480 a
 |.ov _ a=>.iface 481 a
def Hj(a:Kd):L ζ:=[Zo a]
def CD:ε->L ζ->Kd->Prop:=Pl Hj
instance:SC CD:=⟨λ_=>False,Pl.aJ _ _⟩
def evv(a:Ev):ζ:=.agg #[I a.k,I a.s,I a.y,I a.v]
theorem TZ:Vt 144 3 CC iP 383 fxo:=ifS
theorem Db:Vt 144 3 CC iP 380 ano:=cfS TZ
theorem Sn:Vt 491 1 CD Zo 341 fxo:=ifS
theorem pw:Vt 491 1 CD Zo 338 ano:=cfS Sn
theorem aM{a b:κ}(d:a=b)(c:Fr j W V):Ending.returned (.bool a)=.returned (.bool b)/\Fr j W V:=⟨by rw[d],c⟩
theorem BV(a k b d e)(r:Sl 77 3 CT e k a)(h:b<a.length):
  dr 382 #[.agg #[k],I b,I d] e (.bool ((tx a (b:T)).w.contains d)):=by
 obtain⟨u,m,s,n,rfl,o,y,f⟩:=r;obtain⟨t,c⟩:=gE a b h;rw[iJ c];obtain rfl:=f.addr c;generalize p:a.length=i at h o |-;obtain⟨k,h,a,c,e,g,f⟩:=(f.f ((Fr.refl j e).alloc (.cells #[.slice (S (H m s)) i n] 54))).tn c;have l:=g;obtain⟨v,w,z,x,rfl,-,-,-⟩:=g;have⟨a,b⟩:=dy b i;clear p
 delta dr aQ;go_in
 go_wp
 refine sg (dC _ t.w d _ l) ?_;rintro a b ⟨rfl,rfl⟩;go_wp2;go_ret;exact aM sI cZ
theorem Wl(c x b a r)(F:Sl 77 3 CT r x c)(u:b<c.length)(v:a<c.length):
  dr 376 #[.agg #[],.agg #[x],I b,I a] r (.bool (IP c b a)):=by
 obtain⟨Q,g,p,A,rfl,B,U,k⟩:=F;obtain⟨y,n⟩:∃a,c[b]? =S a:=⟨_,cF u⟩;obtain⟨z,w⟩:∃P,c[a]? =S P:=⟨_,cF v⟩;have e:IP c b a=(decide (b<a)&&y.s==z.s):=(by unfold IP;rw[iJ n,iJ w];congr 1;simp);obtain rfl:=k.addr n;generalize D:c.length=o at u v B |-;obtain⟨_,_,h,_,_,_,_⟩:=k.tn n;obtain⟨_,_,i,_,_,_,_⟩:=k.tn w;generalize G:y.s=s1 at h e;generalize K:z.s=s2 at i e;have⟨V,W⟩:=dy b o;have⟨X,a0⟩:=dy a o;clear D G K
 delta dr aQ;go_in
 go_wp2;refine cT (λs m=> ?_);obtain⟨q,t⟩:=M (r.heap.size+1)
 try rw[<-t]
 have d:=lq m;have R:s.cell? (H q 0)=S (.slice (S (H g p)) o A):=by rw[m];exact aj (bM sO) 0
 replace h:s.cell? (H g (p+b*3))=S (I s1):=d.aF h id;replace i:s.cell? (H g (p+a*3))=S (I s2):=d.aF i id;clear m t;by_cases f:b<a
 .have C:decide ((b:T)<(a:T))=γ:=sU f
  have l:decide (b<a)=γ:=sU f;go_quiet (fail);go_wp2;go_ret;exact aM (by rw[e,l];simp) (d.drewN _)
 have C:decide ((b:T)<(a:T))=δ:=sU f;have l:decide (b<a)=δ:=sU f;go_quiet (fail);go_wp2;go_ret;exact aM (by rw[e,l];simp) (d.drewN _)
theorem XM(a d b c)(e:aY c b #[I d] 3):
  dr 378 #[mC a,aP b 0] c (.bool (a.f==d)):=by
 obtain⟨b,a⟩:=a;have a:=λa=>bx (aC e a);unfold mC
 delta dr aQ;go_in
 go_wp2;go_ret;exact aM sI cZ
theorem XV(c m a b d)(w:Sl 77 3 CT d m c)(l:b<c.length):
  dr 377 #[.agg #[],.agg #[m],I a,I b] d (.bool (rdB c a b)):=by
 obtain⟨y,p,x,A,rfl,u,B,i⟩:=w;obtain⟨e,f⟩:∃g,c[b]? =S g:=⟨_,cF l⟩;have h:rdB c a b=e.r.any (λg=>g.f==a):=(by unfold rdB;rw[iJ f]);obtain rfl:=i.addr f;generalize c:c.length=m at l u |-;have⟨l,m⟩:=dy b m;generalize v:e.r.any (λg=>g.f==a)=q at h;clear c;obtain⟨m,l,c,f,s,i,k⟩:=i.tn f;have n:=k;obtain⟨o,z,C,r,rfl,-,-,-⟩:=k;have b:∀c f g,(((d.alloc c).alloc f).alloc g).cell? (H p (x+b*3+2))=S (.slice o e.r.length r):=λb c f=>((((Fr.refl j d).alloc b).alloc c).alloc f).aF s id
 delta dr aQ;go_in
 go_wp
 refine aZ.nm (λi b=> ?_);obtain⟨c,d⟩:=M (d.heap.size+1);try rw[<-d]
 obtain⟨c,f⟩:=M (c+1);try rw[<-f]
 have g:=Ol b;have k:aY i c #[I a] 3:=(by rw[b];exact bM sO);clear b d f;refine sg (lS 378 #[aP c 0] _ e.r (λb=>b.f==a) i (λb d=>by simp[go_sem]) (n.f g) (λi e b f d=>XM e a c b (d.hs k))) ?_;rintro a b ⟨rfl,t⟩;rw[v];go_wp2;go_ret;exact aM h.symm (g.step t)
def wwQ(d:Hs)(b c:E)(a:Ch):κ:=a.a==(b:T)&&a.b==(c:T)&&(b:T) !=(c:T)&&(tx d (b:T)).w.contains a.k&&(tx d (c:T)).w.contains a.k
theorem Xs(c l n a b t u s e)(r:Sl 77 3 CT e l c)(C:a<c.length)(D:b<c.length)(A:aY e t #[I a] 3)(B:aY e u #[I b] 3)(z:aY e s #[l] 54):
  dr 381 #[iP n,aP t 0,aP u 0,aP s 0] e (.bool (wwQ c a b n)):=by
 obtain⟨d,h,i⟩:=n;have n:=λf=>bx (aC A f);have G:=λf=>bx (aC B f);have F:=λf=>bx (aC z f);have g:(∀f,Fr j e (e.alloc f)):=(λf=>rF.alloc f);have f:N (wwQ c a b ⟨d,h,i⟩=(h==(a:T)&&i==(b:T)&&(a:T) !=(b:T)&&(tx c (a:T)).w.contains d&&(tx c (b:T)).w.contains d)):=Z Y;unfold iP;simp only;by_cases o:h=(a:T)
 .have v:(h==(a:T))=γ:=sU o
  by_cases p:i=(b:T)
  .have w:(i==(b:T))=γ:=sU p
   by_cases n:a=b
   .have k:((a:T) !=(b:T))=δ:=by simp[n]
    delta dr aQ;go_in
    go_wp2;go_ret;exact aM (by rw[f.1,k];simp) (g _)
   have x:((a:T) !=(b:T))=γ:=sO;obtain⟨K,k⟩:=M ((tx c (a:T)).w.contains d);obtain⟨q,m⟩:=M ((tx c (b:T)).w.contains d);have⟨HP,HQ⟩:=bD k m;rw[<-k,<-m] at f;clear k m
   delta dr aQ;go_in
   go_wp2_with fail;refine sg (BV c l a d _ (r.f (g _)) C) ?_;rintro n P ⟨rfl,k⟩;rw[<-HP.1];have m:=((g _).step k);cases K
   .go_wp2
    go_ret;exact aM (by rw[f.1];simp) m
   have n:=k.aF (F _) id;have n:=k.aF (G _) id;have e:P.cell? (H e.heap.size 0)=S (I d):=k.aF (aj (bM Y) 0) id;go_wp2_with fail;refine sg (BV c l b d _ (r.f m) D) ?_;rintro c d ⟨rfl,y⟩;rw[<-HQ.1];go_wp2;go_ret;exact aM (by rw[f.1,v,w,x];simp) (m.step y)
  have b:(i==(b:T))=δ:=sU p
  delta dr aQ;go_in
  go_wp2;go_ret;exact aM (by rw[f.1,b];simp) (g _)
 have a:(h==(a:T))=δ:=sU o
 delta dr aQ;go_in
 go_wp2;go_ret;exact aM (by rw[f.1,a];simp) (g _)
theorem Zh(a l d h b c f)(u:Sl 77 3 CT f l a)(e:Sl 144 3 CC f h d)(v:b<a.length)(w:c<a.length):
  dr 379 #[h,.agg #[l],I b,I c] f (.bool (wwB a d b c)):=by
 have HL:=e;obtain⟨i,k,p,m,rfl,-,-,-⟩:=e;generalize g:d.length=e at HL |-;have n:N (wwB a d b c=d.any (wwQ a b c)):=Z Y;obtain⟨q,e⟩:=M (d.any (wwQ a b c));have HQ:=Z e;rw[<-e] at n;clear g e
 delta dr aQ;go_in
 go_wp
 refine aZ.nm (λm e=> ?_);obtain⟨i,h⟩:=M f.heap.size;try rw[<-h]
 obtain⟨f,o⟩:=M (i+1);try rw[<-o]
 obtain⟨k,p⟩:=M (f+1);try rw[<-p]
 have g:=Ol e;have r:=qb2 e h;have s:(aY m f #[I b] 3):=(by rw[e];exact aC (bM sO) _);have t:(aY m k #[I c] 3):=(by rw[e];exact bM sO);clear e h o p;refine aZ.go ((Db 381 #[aP f 0,aP k 0,aP i 0] _ d (wwQ a b c) m (λd e=>by simp[go_sem]) (HL.f g)
  (λo h e m d=>Xs a l h b c f k i e ((u.f g).f d) v w (d.hs s) (d.hs t) (d.hs r.1))).mono ?_)
 rintro a b ⟨rfl,o⟩;rw[<-HQ.1];go_wp2;go_ret;exact aM n.1.symm (g.step o)
def ovQ(c:Hs)(d:L Ch)(b:E)(a:Tk):κ:=(tx c (b:T)).w.contains a.k&&(decide (a.f<0)||a.f !=(b:T)&&d.contains ⟨a.k,a.f,(b:T)⟩)
theorem Wf(d l h m k b t u s c)(B:Sl 77 3 CT c l d)(A:Sl 144 3 CC c m h)(C:b<d.length)(y:aY c t #[l] 54)(z:aY c u #[I b] 3)(x:aY c s #[m] 481):
  dr 385 #[mC k,aP t 0,aP u 0,aP s 0] c (.bool (ovQ d h b k)):=by
 obtain⟨e,a⟩:=k;have F:=λf=>bx (aC z f);have k:=λf=>bx (aC y f);have D:=λf=>bx (aC x f);have p:(∀f,Fr j c (c.alloc f)):=(λf=>rF.alloc f);obtain⟨r,f⟩:=M ((tx d (b:T)).w.contains e);obtain⟨q,g⟩:=M (h.contains (⟨e,a,(b:T)⟩:Ch));have i:(ovQ d h b ⟨e,a⟩=(r&&(decide (a<0)||a !=(b:T)&&q))):=(by rw[f,g];rfl);have⟨HP,HQ⟩:=bD f g;unfold mC;simp only;clear f g
 delta dr aQ;go_in
 go_wp2_with fail;refine sg (BV d l b e _ (B.f (p _)) C) ?_;rintro d n ⟨rfl,g⟩;rw[<-HP.1];have f:=((p _).step g);cases r
 .go_wp2
  go_ret;exact aM (by rw[i];simp) f
 have d:=g.aF (F _) id;have d:=g.aF (D _) id;have d:n.cell? (H c.heap.size 0)=S (I e):=g.aF (aj (bM Y) 0) id;have c:n.cell? (H c.heap.size 1)=S (I a):=g.aF (aj (bM Y) 1) id;by_cases c:a<0
 .have d:decide (a<0)=γ:=sU c
  go_wp2;go_ret;exact aM (by rw[i,d];simp) f
 have o:decide (a<0)=δ:=sU c;by_cases c:a=(b:T)
 .have d:(a !=(b:T))=δ:=by simp[c]
  go_wp2;go_ret;exact aM (by rw[i,o,d];simp) f
 have v:(a !=(b:T))=γ:=sU c;go_wp2_with fail;refine sg (Jo m h ⟨e,a,(b:T)⟩ n (A.f f)) ?_;rintro a b ⟨rfl,w⟩;rw[<-HQ.1];go_wp2;go_ret;exact aM (by rw[i,o,v];simp) (f.step w)
theorem XT(b r e s c a d)(m:Sl 77 3 CT d r b)(l:Sl 144 3 CC d s e)(o:c<b.length)(D:a<b.length):
  dr 384 #[s,.agg #[r],I c,I a] d (.bool (ovB b e c a)):=by
 have HS:=m;have HL:=l;obtain⟨G,K,U,Q,rfl,-,-,-⟩:=l;generalize n:e.length=l at HL |-;obtain⟨h,g⟩:∃f,b[c]? =S f:=⟨_,cF o⟩;have k:N (ovB b e c a=((c:T) !=(a:T)&&h.r.any (ovQ b e a))):=Z (by unfold ovB;rw[iJ g];rfl);obtain⟨q,f⟩:=M (h.r.any (ovQ b e a));have HQ:=Z f;rw[<-f] at k;obtain⟨F,p,u,y,rfl,C,R,i⟩:=m;obtain rfl:=i.addr g;generalize l:b.length=t at o C HS |-;have⟨m,o⟩:=dy c t;clear n f l;obtain⟨o,m,g,i,A,l,n⟩:=i.tn g;have w:=n;obtain⟨x,P,V,z,rfl,-,-,-⟩:=n;have g:∀f g i,(((d.alloc f).alloc g).alloc i).cell? (H p (u+c*3+2))=S (.slice x h.r.length z):=λf g i=>((((Fr.refl j d).alloc f).alloc g).alloc i).aF A id;have o:(∀f g i,Fr j d (((d.alloc f).alloc g).alloc i)):=(λf g i=>(((Fr.refl j d).alloc f).alloc g).alloc i);by_cases g:c=a
 .have f:((c:T) !=(a:T))=δ:=by simp[g]
  delta dr aQ;go_in
  go_wp2;go_ret;exact aM (by rw[k.1,f];simp) (o _ _ _)
 have v:((c:T) !=(a:T))=γ:=sO
 delta dr aQ;go_in
 go_wp
 refine aZ.nm (λi c=> ?_);obtain⟨m,l⟩:=M d.heap.size;try rw[<-l]
 obtain⟨g,r⟩:=M (m+1);try rw[<-r]
 obtain⟨n,s⟩:=M (g+1);try rw[<-s]
 have f:Fr j d i:=(by rw[c];exact o _ _ _);have d:=qb2 c l;have o:(aY i g #[.slice (S (H p u)) t y] 54):=(by rw[c];exact aC (bM sO) _);have p:(aY i n #[I a] 3):=(by rw[c];exact bM sO);clear c l r s;refine aZ.go ((lS 385 #[aP g 0,aP n 0,aP m 0] _ h.r (ovQ b e a) i (λc h=>by simp[go_sem]) (w.f f)
  (λr i h l c=>Wf b _ e _ i a g n m h ((HS.f f).f c) ((HL.f f).f c) D (c.hs o) (c.hs p) (c.hs d.1))).mono ?_)
 rintro a b ⟨rfl,B⟩;rw[<-HQ.1];go_wp2;go_ret;exact aM (by rw[k.1,v];simp) (f.step B)
def Fx(a:Hs)(b c:E):Kd->κ
 |.ses=>IP a b c
 |.rd=>rdB a b c
 |.wr d _=>wwB a d b c
 |.ov d _=>ovB a d b c
def KdR(a:ε):Kd->Prop
 |.wr b c=>Sl 144 3 CC a c b
 |.ov b c=>Sl 144 3 CC a c b
 |_=>True
theorem KdR.fr{w b:ε}{a:Kd}(d:KdR w a)(c:Fr j w b):KdR b a:=by
 cases a with
 |ses=>trivial
 |rd=>trivial
 |wr a b=>exact Sl.f d c
 |ov a b=>exact Sl.f d c
noncomputable def Be:String:=((((prog.info? 478).bind (λa=>a.methods[0]?)).map (λa=>a.name)).getD default)
set_option maxRecDepth 1000000 in
theorem aav(b c a)(d:a=Be):(Go.method 628 478 b a).run prog c=.ok (376,b) c:=by subst d;kernel_rfl
set_option maxRecDepth 1000000 in
theorem abw(b c a)(d:a=Be):(Go.method 628 479 b a).run prog c=.ok (377,b) c:=by subst d;kernel_rfl
set_option maxRecDepth 1000000 in
theorem aas(b c a)(d:a=Be):(Go.method 628 480 b a).run prog c=.ok (379,b) c:=by subst d;kernel_rfl
set_option maxRecDepth 1000000 in
theorem aat(b c a)(d:a=Be):(Go.method 628 481 b a).run prog c=.ok (384,b) c:=by subst d;kernel_rfl
theorem AN(b e l c d s t u a)(i:Sl 77 3 CT a e b)(r:KdR a l)(m:c<b.length)(k:d<b.length)(n:aY a s #[e] 54)(o:aY a t #[I c] 3)(p:aY a u #[I d] 3):
  dr 339 #[Zo l,aP s 0,aP t 0,aP u 0] a (.bool (Fx b c d l)):=by
 have f:=bx n;have g:=bx o;have h:=bx p;clear n o p;cases l with
 |ses=>
  unfold Zo Fx;simp only
  delta dr aQ;go_in
  go_wp2_with fail;rw[aav _ _ _ kR];go_wp2_with fail;refine sg (Wl b e c d a i m k) ?_;rintro l o ⟨rfl,n⟩;clear f g h;go_wp2;go_ret;exact aM Y n
 |rd=>
  unfold Zo Fx;simp only
  delta dr aQ;go_in
  go_wp2_with fail;rw[abw _ _ _ kR];go_wp2_with fail;refine sg (XV b e c d a i k) ?_;rintro l o ⟨rfl,n⟩;clear f g h;go_wp2;go_ret;exact aM Y n
 |wr l o=>
  unfold Zo Fx;simp only
  delta dr aQ;go_in
  go_wp2_with fail;rw[aas _ _ _ kR];go_wp2_with fail;refine sg (Zh b e l o c d a i r m k) ?_;rintro l o ⟨rfl,n⟩;clear f g h;go_wp2;go_ret;exact aM Y n
 |ov l o=>
  unfold Zo Fx;simp only
  delta dr aQ;go_in
  go_wp2_with fail;rw[aat _ _ _ kR];go_wp2_with fail;refine sg (XT b e l o c d a i r m k) ?_;rintro a b ⟨rfl,n⟩;clear f g h;go_wp2;go_ret;exact aM Y n
def fR(a:Hs)(b c:T)(d:L Kd):κ:=(bm a&&kN a b&&kN a c)&&d.any (Fx a b.toNat c.toNat)
theorem Cx(b b3 a c f b4 u)(a6:eJ u b3 b)(s:Sl 491 1 CD u b4 f)(w:∀o∈f,KdR u o):
  dr 334 #[b3,I a,I c,b4] u (.bool (fR b a c f)):=by
 have a4:=a6;have⟨HK,Q⟩:=bD s w;obtain⟨d6,rfl,b1⟩:=a6;have HS:=b1;obtain⟨c6,c8,d4,c9,rfl,b9,d1,-⟩:=b1;generalize a8:b.length=l at b9 HS a4 |-;have HLN:=Z a8;obtain⟨c7,bk,d5,d0,rfl,-,-,-⟩:=s;generalize c0:f.length=d3 at HK |-;clear w c0 a8
 delta dr aQ;go_in
 go_wp2_with fail;refine aZ.nm (λa1 F=> ?_);obtain⟨x,a0⟩:=M u.heap.size;try rw[<-a0]
 obtain⟨t,a9⟩:=M (x+1);try rw[<-a9]
 obtain⟨y,b0⟩:=M (t+1);try rw[<-b0]
 have a3:=Ol F;have b6:=qb2 F a0;have b7:N (aY a1 t #[I a] 3):=Z (by rw[F];exact aC (bM sO) _);have b8:N (aY a1 y #[I c] 3):=Z (by rw[F];exact bM sO);clear F a0 a9 b0;refine sg (dV b _ a1 (a4.fr a3)) ?_;rintro X a2 ⟨rfl,e⟩;have h:=(a3.step e);have⟨G,K,P⟩:=dt (e.hs b6.1) (e.hs b7.1) (e.hs b8.1);clear e;cases w:bm b
 .have g:N (fR b a c f=δ):=Z (by unfold fR;rw[w];rfl)
  clear w;go_wp2;go_ret;exact aM g.1.symm h
 have R:=Z w;have U:=bx G.1;have V:=bx K.1;have W:=bx P.1;clear w;by_cases d2:c<a
 .have c3:¬a<c:=O
  have c4:¬a<=c:=O;have c1:min a c=c:=O;have c2:max a c=a:=O;by_cases k:c<0
  .have D:decide (c<0)=γ:=sU k
   have g:N (fR b a c f=δ):=Z (by
    unfold fR kN;by_cases B:a<0
    .rw[bV (show ¬0<=a by omega)];simp
    rw[bV (show ¬0<=c by omega)];simp)
   clear k;go_wp2;go_ret;exact aM g.1.symm h
  have D:decide (c<0)=δ:=sU k;by_cases m:a<(l:T)
  .have C:decide ((l:T)<=a)=δ:=sU m
   obtain⟨d,rfl⟩:∃p:E,a=(p:T):=⟨a.toNat,O⟩;obtain⟨i,rfl⟩:∃p:E,c=(p:T):=⟨c.toNat,O⟩;have r:d<b.length:=jE;have v:i<b.length:=jE;have g:N (fR b (d:T) (i:T) f=f.any (Fx b d i)):=Z (by
    unfold fR kN;rw[R.1,cD (show(0:T)<=(d:T) by omega),cD (show(0:T)<=(i:T) by omega),cD (show(d:T)<(b.length:T) by have:=r;omega),cD (show(i:T)<(b.length:T) by have:=v;omega)];simp)
   obtain⟨q,n⟩:=M (f.any (Fx b d i));have HQ:=Z n;rw[<-n] at g;have a7:decide (l<=d)=δ:=sO;clear k m n;go_wp2_with fail;clear U V W;refine aZ.go ((pw 339 #[aP x 0,aP t 0,aP y 0] _ f (Fx b d i) a2 (λa5 u=>by simp[go_sem]) (HK.1.f h)
    (λb2 o A s e=>AN b _ o d i x t y A ((HS.f h).f e) (((Q.1 o (bQ s)).fr h).fr e) r v (e.hs G.1) (e.hs K.1) (e.hs P.1))).mono ?_)
   rintro X b5 ⟨rfl,e⟩;rw[<-HQ.1];have z:=(h.step e);clear e;go_wp2;go_ret;exact aM g.1.symm z
  have C:decide ((l:T)<=a)=γ:=sO;have g:N (fR b a c f=δ):=Z (by
   unfold fR kN
   have:=HLN.1;by_cases B:a<(l:T)
   .rw[bV (show ¬c<(b.length:T) by omega)];simp
   rw[bV (show ¬a<(b.length:T) by omega)];simp)
  clear k m;go_wp2;go_ret;exact aM g.1.symm h
 by_cases c4:a<c
 .have c3:a<=c:=O
  have c5:¬c<a:=O;have c1:min a c=a:=O;have c2:max a c=c:=O;by_cases k:a<0
  .have D:decide (a<0)=γ:=sU k
   have g:N (fR b a c f=δ):=Z (by
    unfold fR kN;by_cases B:a<0
    .rw[bV (show ¬0<=a by omega)];simp
    rw[bV (show ¬0<=c by omega)];simp)
   clear k;go_wp2;go_ret;exact aM g.1.symm h
  have D:decide (a<0)=δ:=sU k;by_cases m:c<(l:T)
  .have C:decide ((l:T)<=c)=δ:=sU m
   obtain⟨d,rfl⟩:∃p:E,a=(p:T):=⟨a.toNat,O⟩;obtain⟨i,rfl⟩:∃p:E,c=(p:T):=⟨c.toNat,O⟩;have r:d<b.length:=jE;have v:i<b.length:=jE;have g:N (fR b (d:T) (i:T) f=f.any (Fx b d i)):=Z (by
    unfold fR kN;rw[R.1,cD (show(0:T)<=(d:T) by omega),cD (show(0:T)<=(i:T) by omega),cD (show(d:T)<(b.length:T) by have:=r;omega),cD (show(i:T)<(b.length:T) by have:=v;omega)];simp)
   obtain⟨q,n⟩:=M (f.any (Fx b d i));have HQ:=Z n;rw[<-n] at g;have a7:decide (l<=i)=δ:=sO;clear k m n;go_wp2_with fail;clear U V W;refine aZ.go ((pw 339 #[aP x 0,aP t 0,aP y 0] _ f (Fx b d i) a2 (λa5 u=>by simp[go_sem]) (HK.1.f h)
    (λb2 o A s e=>AN b _ o d i x t y A ((HS.f h).f e) (((Q.1 o (bQ s)).fr h).fr e) r v (e.hs G.1) (e.hs K.1) (e.hs P.1))).mono ?_)
   rintro X b5 ⟨rfl,e⟩;rw[<-HQ.1];have z:=(h.step e);clear e;go_wp2;go_ret;exact aM g.1.symm z
  have C:decide ((l:T)<=c)=γ:=sO;have g:N (fR b a c f=δ):=Z (by
   unfold fR kN
   have:=HLN.1;by_cases B:a<(l:T)
   .rw[bV (show ¬c<(b.length:T) by omega)];simp
   rw[bV (show ¬a<(b.length:T) by omega)];simp)
  clear k m;go_wp2;go_ret;exact aM g.1.symm h
 obtain rfl:a=c:=O;have c5:¬a<a:=O;by_cases k:a<0
 .have D:decide (a<0)=γ:=sU k
  have g:N (fR b a a f=δ):=Z (by
   unfold fR kN;by_cases B:a<0
   .rw[bV (show ¬0<=a by omega)];simp
   rw[bV (show ¬0<=a by omega)];simp)
  clear k;go_wp2;go_ret;exact aM g.1.symm h
 have D:decide (a<0)=δ:=sU k;by_cases m:a<(l:T)
 .have C:decide ((l:T)<=a)=δ:=sU m
  obtain⟨d,rfl⟩:∃p:E,a=(p:T):=⟨a.toNat,O⟩;have r:d<b.length:=jE;have v:d<b.length:=jE;have g:N (fR b (d:T) (d:T) f=f.any (Fx b d d)):=Z (by
   unfold fR kN;rw[R.1,cD (show(0:T)<=(d:T) by omega),cD (show(d:T)<(b.length:T) by have:=r;omega)];simp)
  obtain⟨q,n⟩:=M (f.any (Fx b d d));have HQ:=Z n;rw[<-n] at g;have a7:decide (l<=d)=δ:=sO;clear k m n;go_wp2_with fail;clear U V W;refine aZ.go ((pw 339 #[aP x 0,aP t 0,aP y 0] _ f (Fx b d d) a2 (λa5 u=>by simp[go_sem]) (HK.1.f h)
   (λb2 o A s e=>AN b _ o d d x t y A ((HS.f h).f e) (((Q.1 o (bQ s)).fr h).fr e) r v (e.hs G.1) (e.hs K.1) (e.hs P.1))).mono ?_)
  rintro X b5 ⟨rfl,e⟩;rw[<-HQ.1];have z:=(h.step e);clear e;go_wp2;go_ret;exact aM g.1.symm z
 have C:decide ((l:T)<=a)=γ:=sO;have g:N (fR b a a f=δ):=Z (by
  unfold fR kN
  have:=HLN.1;by_cases B:a<(l:T)
  .rw[bV (show ¬a<(b.length:T) by omega)];simp
  rw[bV (show ¬a<(b.length:T) by omega)];simp)
 clear k m;go_wp2;go_ret;exact aM g.1.symm h
theorem Fi{c:θ ζ}{a:L Kd}(d:aY W m c 491)(e:c.toList=a.map Zo)(h:a.length<=maxLen)(i:q=a.length):Sl 491 1 CD W (.slice (S (H m 0)) q q) a:=by
 subst i;refine⟨_,m,0,_,Y,eG,h,.inr ⟨Y,_,_,d⟩,λa k g=>⟨_,Y,Y,λa c b=> ?_⟩⟩;have f:a=0:=by
  rcases jc a with c|c
  .exact c
  have:(Hj k)[a]? =η:=by simp[Hj];omega
  rw[this] at b;cases b
 subst f;rw[aj d,<-kp,e];simp only[de,gA,fI,fN,g,rM];exact b
theorem Mi(a e f c d):fR a c d [.ses,.rd,.wr e f]=qy a e c d:=by
 unfold fR qy;cases b:(bm a&&kN a c&&kN a d)
 .rfl
 simp only[bA,gY] at b;simp only[L.any_cons,L.any_nil,κ.or_false,Fx,nB];rw[iK b.1.2.1,iK b.2.1,κ.or_assoc]
theorem Np(a e f c d):fR a c d [.ov e f]=yd a e c d:=by
 unfold fR yd;cases b:(bm a&&kN a c&&kN a d)
 .rfl
 simp only[bA,gY] at b;simp only[L.any_cons,L.any_nil,κ.or_false,Fx,nB];rw[iK b.1.2.1,iK b.2.1]
theorem nA(b a m n d e c)(g:eJ c m b)(k:Sl 144 3 CC c n a):
  dr 317 #[m,n,I d,I e] c (.bool (qy b a d e)):=by
 have o:=g;have HL:=k;obtain⟨v,rfl,-⟩:=g;obtain⟨h,t,u,i,rfl,-,-,-⟩:=k;generalize f:a.length=l at HL |-;clear f
 delta dr aQ;go_in
 go_wp2_with fail;refine aZ.nm (λm g=> ?_);obtain⟨q,c⟩:=M (c.heap.size+1);try rw[<-c]
 have f:=lq g;have k:=dL g sO;clear g c;refine aZ.go ((Cx b _ d e [.ses,.rd,.wr a (.slice h l i)] _ m (o.fr f) (Fi k.1 Y (by simp[maxLen]) Y) (λg c=>by
  rcases cK.1 c with rfl|p
  .trivial
  rcases cK.1 p with rfl|r
  .trivial
  rcases cK.1 r with rfl|s
  .exact HL.f f
  cases s)).mono ?_)
 rw[(Mi b a (.slice h l i) d e)];rintro a b ⟨rfl,p⟩;go_wp2;go_ret;exact aM Y (f.step p)
theorem Dh(b a m n d e c)(g:eJ c m b)(k:Sl 144 3 CC c n a):
  dr 321 #[m,n,I d,I e] c (.bool (yd b a d e)):=by
 have o:=g;have HL:=k;obtain⟨t,rfl,-⟩:=g;obtain⟨h,r,s,i,rfl,-,-,-⟩:=k;generalize f:a.length=l at HL |-;clear f
 delta dr aQ;go_in
 go_wp2_with fail;refine aZ.nm (λm g=> ?_);obtain⟨q,c⟩:=M (c.heap.size+1);try rw[<-c]
 have f:=lq g;have k:=dL g sO;clear g c;refine aZ.go ((Cx b _ d e [.ov a (.slice h l i)] _ m (o.fr f) (Fi k.1 Y (by simp[maxLen]) Y) (λg c=>by
  rcases cK.1 c with rfl|p
  .exact HL.f f
  cases p)).mono ?_)
 rw[(Np b a (.slice h l i) d e)];rintro a b ⟨rfl,p⟩;go_wp2;go_ret;exact aM Y (f.step p)
def siQ(b:Hs)(c:L Ch)(e d:T)(a:E):κ:=qy b c e (a:T)&&((a:T)==d||yd b c (a:T) d)
theorem Ju{a:E->κ}(b:q<m)(c:a q=γ):(L.range m).any a=γ:=eH.2 ⟨q,eC.2 b,c⟩
theorem PG{b:E->κ}(c:∀a,a<m->b a=δ):(L.range m).any b=δ:=L.any_eq_false.2 (λb a=>by rw[c b (eC.1 a)];exact pz)
theorem aaX(b h c D F d a f)(y:eJ f D b)(z:Sl 144 3 CC f F c):
  dr 298 #[D,I h,F,I d,I a] f (.bool (Gd b h c d a)):=by
 have n:=y;have HL:=z;obtain⟨a5,rfl,V⟩:=y;obtain⟨G,a0,a3,K,rfl,R,U,-⟩:=V;obtain⟨i,e⟩:=M b.length;rw[<-e] at R n |-;have HLN:=Z e;obtain⟨X,a1,a4,a2,rfl,-,-,-⟩:=z;obtain⟨y,g⟩:=M c.length;rw[<-g] at HL |-;unfold maxLen at U;have y:i<=9223372036854775807:=O;obtain⟨y,k⟩:=M f.heap.size;have m:(∀l,Fr j f (f.alloc l)):=(λl=>rF.alloc l);clear g e k;by_cases s:h=0
 .subst s
  have g:N (Gd b 0 c d a=(qy b c d a||yd b c d a)):=Z (by unfold Gd;rw[aS Y]);obtain⟨o,e⟩:=M (qy b c d a);obtain⟨q,k⟩:=M (yd b c d a);rw[<-e,<-k] at g;have⟨HP,HQ⟩:=bD e k;clear e k
  delta dr aQ;go_in
  go_wp2_with fail;refine sg (nA b c _ _ d a _ (n.fr (m _)) (HL.f (m _))) ?_;rintro r p ⟨rfl,k⟩;rw[<-HP.1];have e:=((m _).step k);have k:p.cell? (H f.heap.size 0)=S (.slice G i K):=k.aF (aj (bM Y) 0) id;cases o with
  |true=>
   go_wp2;go_ret;exact aM (by rw[g.1];simp) e
  |false=>
   go_wp2_with fail;refine sg (Dh b c _ _ d a _ (n.fr e) (HL.f e)) ?_;rintro k o ⟨rfl,l⟩;rw[<-HQ.1];go_wp2;go_ret;exact aM (by rw[g.1];simp) (e.step l)
 have y:(h==0)=δ:=sU s;by_cases t:h=1
 .subst t
  have r:(Gd b 1 c d a=(L.range i).any (siQ b c d a)):=(by unfold Gd;rw[aR J,aS Y,HLN.1];rfl)
  delta dr aQ;go_in
  go_wp2_with fail;refine cT (λp k=> ?_);obtain⟨y,e⟩:=M f.heap.size;try rw[<-e]
  have g:Fr j f p:=(by rw[k];exact m _);have x:=dL k e;clear k e;go_loopg [32] i (λgk s32 wr=>∃e:E,e+gk=i/\s32=I e/\(∀f,f<e->siQ b c d a f=δ)/\Fr j p wr)
  .exact⟨0,du,Y,λf e=>by omega,rF⟩
  case round=>
   obtain⟨e,HJ,rfl,B,l⟩:=hrel;have f:e<=i:=O;by_cases A:e<i
   .obtain⟨C,k⟩:=M (qy b c d (e:T))
    obtain⟨q,u⟩:=M (yd b c (e:T) a);have o:(siQ b c d a e=(C&&((e:T)==a||q))):=(by rw[k,u];rfl);have⟨HP,HQ⟩:=bD k u;have f:=bx (l.hs x.1);have w:(∀(f:siQ b c d a e=δ),∀f,f<e+1->siQ b c d a f=δ):=(λP v f=>by
     rcases dP v e with f|f
     .exact B v f
     obtain rfl:v=e:=O;exact P)
    clear k u;go_wp2_with fail;refine sg (nA b c _ _ d (e:T) wr ((n.fr g).fr l) ((HL.f g).f l)) ?_;rintro f W ⟨rfl,P⟩;rw[<-HP.1];have k:=(l.step P);cases C
    .go_wp2
     go_roundg (gk-1)
     .exact⟨e+1,O,by go_num,w (by rw[o];rfl),k⟩
     omega
    by_cases f:(e:T)=a
    .have i:((e:T)==a)=γ:=sU f
     have RT:(Gd b 1 c d a=γ):=(by rw[r];exact Ju A (by rw[o,i];rfl));go_wp2;go_ret;exact aM RT.symm (g.step k)
    have v:((e:T)==a)=δ:=sU f;have f:=bx (k.hs x.1);go_wp2_with fail;refine sg (Dh b c _ _ (e:T) a W ((n.fr g).fr k) ((HL.f g).f k)) ?_;rintro f i ⟨rfl,Q⟩;rw[<-HQ.1];have u:=(k.step Q);cases q with
    |true=>
     have RT:(Gd b 1 c d a=γ):=(by rw[r];exact Ju A (by rw[o];simp));go_wp2;go_ret;exact aM RT.symm (g.step u)
    |false=>
     go_wp2;go_roundg (gk-1)
     .exact⟨e+1,O,by go_num,w (by rw[o,v];rfl),u⟩
     omega
   have RT:(Gd b 1 c d a=δ):=(by rw[r];exact PG (λe f=>B e O));go_wp2;go_ret;exact aM RT.symm (g.step l)
 have e:(h==1)=δ:=sU t;have a:(Gd b h c d a=δ):=(by unfold Gd;rw[aR s,aR t])
 delta dr aQ;go_in
 go_wp2;go_ret;exact aM a.symm (m _)
theorem Sl.take(c:Sl t m C W (.slice A q n1) X){i:E}(g:i<=X.length):Sl t m C W (.slice A i n1) (X.take i):=by
 obtain⟨c,b,f,g,a,h,d,e⟩:=c;simp only[cM] at a;obtain⟨rfl,-,rfl⟩:=a;have a:(X.take i).length=i:=by rw[cV];omega
 exact⟨_,b,f,_,by rw[a],O,d,e.take i⟩
def VE(b:Hs)(d:T)(c:L Ch)(row:L T)(a:E):κ:=!(row.take a).contains (row.getD a 0)&&Gd b d c (row.getD a 0) (row.getD ((a+1) % row.length) 0)
theorem Wo(a:Hs)(c:T)(b:L Ch)(row:L T):xD a c b row=((L.range row.length).all (VE a c b row)&&decide (0<row.length)):=Y
theorem Jv(a:e[m]? =S i1):e.getD m 0=i1:=by simp[L.getD,a]
theorem zQ(c:Hs)(b:T)(d:L Ch)(row:L T)(Q m R:ζ)(k:ε)(F:eJ k Q c)(a1:Sl 144 3 CC k m d)(G:Sl 3 1 CI k R row):
  dr 255 #[Q,I b,m,R] k (.bool (xD c b d row)):=by
 have⟨U,HL,z⟩:=dt F a1 G;obtain⟨a7,rfl,-⟩:=F;obtain⟨a8,a9,b0,C,rfl,a3,a4,-⟩:=G;generalize a:row.length=e at a3 z |-;have B:(xD c b d row=((L.range e).all (VE c b d row)&&decide (0<e))):=(by rw[Wo,a]);have HN:=Z a;unfold maxLen at a4;have F:e<=9223372036854775807:=O;clear a
 delta dr aQ;go_in
 go_wp2_with fail;refine cT (λF i=> ?_);obtain⟨q,a⟩:=M k.heap.size;try rw[<-a]
 have g:=cY i;have W:=dL i a;clear i a;go_loopg [13] e (λgk s13 wr=>∃a:E,a+gk=e/\s13=I a/\(∀f,f<a->VE c b d row f=γ)/\Fr j F wr)
 .exact⟨0,du,Y,λf a=>by omega,rF⟩
 case round=>
  obtain⟨a,HJ,rfl,P,f⟩:=hrel;have k:a<=e:=O;by_cases a2:a<e
  .obtain⟨h,t⟩:=gE row a fU
   (obtain⟨n,l⟩:=M ((a+1) % e);have k:n<e:=by rw[l];exact E.mod_lt _ O);obtain⟨x,K⟩:=gE row n fU;have A:=Z ((z.1.f g).f f);obtain⟨k,a0,a6,z,D,-,-,p⟩:=A.1;simp only[cM] at D;obtain⟨rfl,-,rfl⟩:=D;obtain rfl:=p.addr t;have k:=p.int t;have k:=aX.cell (p.int K);have k:=aX.cell (aj (f.hs W.1) 0);obtain⟨v,r⟩:=M ((row.take a).contains h);obtain⟨w,s⟩:=M (Gd c b d h x);have o:(VE c b d row a=(!v&&w)):=(by unfold VE;rw[Jv t,HN.1,<-l,Jv K,r,s]);have y:(∀k:aX wr,aQ 110 #[.slice (S (H a0 a6)) a C,I h] k.w λt p=>t=.returned (.bool v)/\k.w=p):=(λk=>by
    rw[r];exact dC _ (row.take a) h k.w ((A.1.f k.fr).take fU))
   have V:(∀k:aX wr,aQ 298 #[.agg #[a7],I b,m,I h,I x] k.w λt p=>t=.returned (.bool w)/\Fr j k.w p):=(λk=>by
    rw[s];exact aaX c b d _ m h x k.w (((U.1.fr g).fr f).fr k.fr) (((HL.1.f g).f f).f k.fr))
   have X:(∀(h:VE c b d row a=γ),∀h,h<a+1->VE c b d row h=γ):=(λa5 u h=>by
    rcases dP u a with h|h
    .exact P u h
    obtain rfl:u=a:=O;exact a5)
   have u:(∀(h:VE c b d row a=δ),xD c b d row=δ):=(λh=>by
    rw[B];have:(L.range e).all (VE c b d row)=δ:=lG.2 ⟨a,eC.2 a2,by rw[h];exact pz⟩;rw[this];rfl)
   have⟨h,k⟩:=dy a e;have h:(a:T)<=(C:T):=O;clear r s;cases v with
   |true=>
    go_wp2_with fail;refine bj kR kR ?_;(repeat(go_big_quiet_step ((go_at_call 110;exact aX.rU _ (y _)))));refine wpQuiet_nil ?_;intro k h;go_wp2;go_ret;exact aM (u (by rw[o];rfl)).symm (g.step (f.step (bI h)))
   |false=>
    have⟨h,k⟩:=dy n e;have i:IntKind.i64.wrap ((a:T)+1)=(a:T)+1:=kH _ O;have h:((a:T)+1).tmod (e:T)=(n:T):=by
     rw[T.tmod_eq_emod_of_nonneg O,l];rfl
    clear l;go_wp2_with fail;refine bj kR kR ?_;(repeat(go_big_quiet_step ((first|(go_at_call 110;exact aX.rU _ (y _))|(go_at_call 298;exact aX.call _ (V _))))));refine wpQuiet_nil ?_;intro k h;have l:=(bI h);clear i;cases w with
    |true=>
     go_wp2;go_roundg (gk-1)
     .exact⟨a+1,O,by go_num,X (by rw[o];rfl),f.step l⟩
     omega
    |false=>
     go_wp2;go_ret;exact aM (u (by rw[o];rfl)).symm (g.step (f.step l))
  have RT:(xD c b d row=decide (0<e)):=(by
   rw[B];have:(L.range e).all (VE c b d row)=γ:=fY.2 (λb a=>P b (oB (eC.1 a)));rw[this];rfl)
  go_wp2;go_ret;exact aM (by rw[RT];try simp) (g.step f)
def fV:E:=1000000000000
def CF(d:ε)(c:L ζ)(a:Fc):Prop:=∃b,c=[I a.c.k,I a.c.a,I a.c.b,I a.kind,I a.i,I a.j,b]/\Sl 3 1 CI d b a.cy
def fS(a:TypeId):Prop:=a=3
theorem CF.aJ:dU fS CF:=by
 rintro g i f h x a d ⟨e,b,c⟩;exact⟨e,b,c.aJ (Pl.aJ cW (λ_=>False)) a (λc b a=>d c b (a.resolve_right id))⟩
instance:SC CF:=⟨_,CF.aJ⟩
theorem fF.fc(d:fF 276 7 CF W A m q F){a:Fc}(e:F[n1]? =S a):
  ∃b,W.cell? (H m (q+n1*7))=S (I a.c.k)/\W.cell? (H m (q+n1*7+1))=S (I a.c.a)/\W.cell? (H m (q+n1*7+2))=S (I a.c.b)/\W.cell? (H m (q+n1*7+3))=S (I a.kind)/\
   W.cell? (H m (q+n1*7+4))=S (I a.i)/\W.cell? (H m (q+n1*7+5))=S (I a.j)/\W.cell? (H m (q+n1*7+6))=S b/\Sl 3 1 CI W b a.cy:=by
 obtain⟨g,-,⟨f,rfl,c⟩,b⟩:=d.2 n1 a e;exact⟨f,b 0 _ Y,b 1 _ Y,b 2 _ Y,b 3 _ Y,b 4 _ Y,b 5 _ Y,b 6 _ Y,c⟩
def Qd(a:Fc)(b:ζ):ζ:=.agg #[I a.c.k,I a.c.a,I a.c.b,I a.kind,I a.i,I a.j,b]
theorem eQ(a:L Fc)(n:ζ)(d:ε)(z:Sl 276 7 CF d n a)(m:a.length<=fV):
  aQ 121 #[n] d λf b=>∃c e,f=.returned c/\cC d.heap.size 144 3 CC b c (fe a) e/\Fr j d b:=by
 obtain⟨B,F,U,G,rfl,y,Q,k⟩:=z;generalize n:a.length=c at y m |-;unfold fV at m;obtain⟨m,l⟩:=M d.heap.size;rw[<-l]
 delta aQ;go_in
 go_wp2_with fail;go_loopg [3,8] c (λgk s3 s8 wr=>∃(b:E)(e:L (L ζ)),b+gk=c/\s8=I b/\cC m 144 3 CC wr s3 (fe (a.take b)) e/\Fr j d wr)
 .exact⟨0,[],du,Y,qG,rF⟩
 case round=>
  obtain⟨b,x,HJ,rfl,i,f⟩:=hrel;have d:b<=c:=O;obtain⟨h,e⟩:∃d,(fe (a.take b)).length=d:=⟨_,Y⟩;obtain⟨C,K,rfl,-,-⟩:=i.shape e;have d:h<=c:=by rw[<-e,fe,eo,cV];omega
  by_cases d:b<c
  .obtain⟨o,g⟩:=gE a b O
   obtain rfl:=k.addr g;obtain⟨d,p,r,s,t,u,v,w,A⟩:=(k.f f).fc g;obtain⟨D,bc,R,P,rfl,-,-,-⟩:=A;have k:fe (a.take (b+1))=fe (a.take b)++[o.c]:=(by unfold fe;rw[bJ g];simp);obtain⟨⟨o,m,n⟩,z,d,y,A⟩:=o;simp only at p r s t u v w k;have⟨c,d⟩:=dy b c;have y:(h+1)*24<=140737488355328:=O;have z:h+1<=maxLen:=mL;clear g;go_wp2_with (at_builtin;refine stop ?_);refine aZ.go (AM (λA d=> ?_));have c:=lq d;have g:A.heap[wr.heap.size+1]? =S (.cells #[I o,I m,I n] 144 (0,0)):=(by rw[d];exact bM sI);clear d p r s t u v w;refine bH Y (.tmp 12) (.tmp 15) Y lD h e Y (i.f c) (Pl.aJ eM (λ_=>False)) id (⟨o,m,n⟩:Ch) Y Y (eF.block g oC) (λ_ _=>Y) y z ?p6 ?p7
   case p6=>have:=f.size;have:=c.size;omega
   case p7=>
    intro h m n g d _ _;have c:=(d.fr (gh l.symm) (f.step c));clear d;go_wp2;go_roundg (gk-1)
    .exact⟨b+1,_,O,by go_num,by rw[k];exact g,c⟩
    omega
  have g:a.take b=a:=(dq O);go_wp2;go_ret;exact⟨_,x,Y,by have:=i;rw[g] at this;rw[<-e,g];rw[<-e,g] at this;exact this,f⟩
theorem Lt(b:Hs)(a:T)(h:ζ)(i:ε)(g:eJ i h b):dr 204 #[h,I a] i (.bool (bm b&&ep a)):=by
 have k:=g;obtain⟨l,rfl,c⟩:=g;clear c
 delta dr aQ;go_in
 go_wp2_with fail;refine aZ.nm (λg c=> ?_);have e:=cY c;clear c;refine sg (dV b _ g (k.fr e)) ?_;rintro g h ⟨rfl,d⟩;have c:=(e.step d);clear d;have f:ep a=(a==0||a==1):=Y;cases d:bm b
 .go_wp2
  go_ret;exact aM (by try rw[d];try simp) c
 by_cases b:a=0
 .have e:(a==0)=γ:=sU b
  have e:=e;clear b;go_wp2;go_ret;exact aM (by rw[f,e];try rw[d];try simp) c
 have a:(a==0)=δ:=sU b;have a:=a;clear b;go_wp2;go_ret;exact aM (by rw[f,a];try rw[d];try simp) c
theorem rG(b:Hs)(s:ζ)(e:Ch)(d:T)(p r:E)(f:ε)(u:Sl 77 3 CT f s b)(a:aY f p #[s] 54)(g:aY f r #[I e.k,I e.a,I e.b] 144):
  dr 283 #[I d,aP p 0,aP r 0] f (.bool (fG b d e.k)):=by
 obtain⟨c,e,p⟩:=e;simp only at g |-;obtain⟨v,w,z,x,rfl,t,y,m⟩:=u;generalize e:b.length=h at t a;have k:=aX.cell (aj a 0);have l:=aX.cell (aj g 0);clear a g;by_cases n:0<=d
 .obtain⟨a,rfl⟩:∃e:E,d=(e:T):=⟨d.toNat,O⟩
  have e:decide ((0:T)<=(a:T))=γ:=sI;by_cases o:(a:T)<(h:T)
  .have e:=cD o
   have e:decide (a<h)=γ:=sO;obtain⟨i,g⟩:=gE b a O;obtain rfl:=m.addr g;obtain⟨p,r,t,e,u,m,w⟩:=m.tn g;have s:fG b (a:T) c=i.w.contains c:=(by unfold fG kN;rw[iJ g,cD (show(0:T)<=(a:T) by omega),cD (show(a:T)<(b.length:T) by omega)];simp);have x:=aX.cell e;have f:∀r:aX f,aQ 110 #[p,I c] r.w λv f=>v=.returned (.bool (i.w.contains c))/\r.w=f:=(λf=>dC p i.w c f.w (m.f f.fr));clear g m w t e u
   delta dr aQ;go_in
   go_wp2_with fail;refine bj kR kR ?_;(repeat(go_big_quiet_step ((go_at_call 110;exact aX.rU _ (f _)))));refine wpQuiet_nil ?_;intro f e;have f:=bI e;clear e x k l;go_wp2;go_ret;exact aM (by rw[s];try simp) f
  have e:=bV o;have e:decide (a<h)=δ:=sO;have e:fG b (a:T) c=δ:=(by unfold fG kN;rw[bV (show ¬(a:T)<(b.length:T) by omega)];simp)
  delta dr aQ;go_in
  go_wp2_with fail;refine bj kR kR ?_;repeat(go_big_quiet_step (fail))
  refine wpQuiet_nil ?_;intro f a;have f:=bI a;clear a k l;go_wp2;go_ret;exact aM (by rw[e];try simp) f
 have a:=bV n;have b:fG b d c=δ:=(by unfold fG kN;rw[bV n];simp)
 delta dr aQ;go_in
 go_wp2_with fail;refine bj kR kR ?_;repeat(go_big_quiet_step (fail))
 refine wpQuiet_nil ?_;intro c a;have c:=bI a;clear a k l;go_wp2;go_ret;exact aM (by rw[b];try simp) c
theorem sx(b:Hs)(s:ζ)(e:Ch)(d:T)(p r:E)(f:ε)(u:Sl 77 3 CT f s b)(a:aY f p #[s] 54)(g:aY f r #[I e.k,I e.a,I e.b] 144):
  dr 299 #[I d,aP p 0,aP r 0] f (.bool (fG b d e.k)):=by
 obtain⟨c,e,p⟩:=e;simp only at g |-;obtain⟨v,w,z,x,rfl,t,y,m⟩:=u;generalize e:b.length=h at t a;have k:=aX.cell (aj a 0);have l:=aX.cell (aj g 0);clear a g;by_cases n:0<=d
 .obtain⟨a,rfl⟩:∃e:E,d=(e:T):=⟨d.toNat,O⟩
  have e:decide ((0:T)<=(a:T))=γ:=sI;by_cases o:(a:T)<(h:T)
  .have e:=cD o
   have e:decide (a<h)=γ:=sO;obtain⟨i,g⟩:=gE b a O;obtain rfl:=m.addr g;obtain⟨p,r,t,e,u,m,w⟩:=m.tn g;have s:fG b (a:T) c=i.w.contains c:=(by unfold fG kN;rw[iJ g,cD (show(0:T)<=(a:T) by omega),cD (show(a:T)<(b.length:T) by omega)];simp);have x:=aX.cell e;have f:∀r:aX f,aQ 110 #[p,I c] r.w λv f=>v=.returned (.bool (i.w.contains c))/\r.w=f:=(λf=>dC p i.w c f.w (m.f f.fr));clear g m w t e u
   delta dr aQ;go_in
   go_wp2_with fail;refine bj kR kR ?_;(repeat(go_big_quiet_step ((go_at_call 110;exact aX.rU _ (f _)))));refine wpQuiet_nil ?_;intro f e;have f:=bI e;clear e x k l;go_wp2;go_ret;exact aM (by rw[s];try simp) f
  have e:=bV o;have e:decide (a<h)=δ:=sO;have e:fG b (a:T) c=δ:=(by unfold fG kN;rw[bV (show ¬(a:T)<(b.length:T) by omega)];simp)
  delta dr aQ;go_in
  go_wp2_with fail;refine bj kR kR ?_;repeat(go_big_quiet_step (fail))
  refine wpQuiet_nil ?_;intro f a;have f:=bI a;clear a k l;go_wp2;go_ret;exact aM (by rw[e];try simp) f
 have a:=bV n;have b:fG b d c=δ:=(by unfold fG kN;rw[bV n];simp)
 delta dr aQ;go_in
 go_wp2_with fail;refine bj kR kR ?_;repeat(go_big_quiet_step (fail))
 refine wpQuiet_nil ?_;intro c a;have c:=bI a;clear a k l;go_wp2;go_ret;exact aM (by rw[b];try simp) c
theorem wM(d:Hs)(g:Ch)(n:ζ)(f:ε)(u:eJ f n d):
  (dr 226 #[n,iP g] f (.bool (dA d g)))/\
  (dr 257 #[n,iP g] f (.bool (dA d g))):=by
 refine⟨(λ(c:eZ 0)=> ?_) (.of 0),(λ(c:eZ 1)=> ?_) (.of 1)⟩;all_goals
  have n:=u;obtain⟨m,rfl,HS⟩:=u;obtain⟨e,a,b⟩:=g;unfold iP;simp only;obtain⟨x,g⟩:=M (fG d a e);obtain⟨q,h⟩:=M (fG d b e);have t:N (dA d ⟨e,a,b⟩=(a !=b&&x&&q)):=Z (by rw[g,h];rfl);have⟨HP,HQ⟩:=bD g h;have u:N (∀i k,Fr j f ((f.alloc i).alloc k)):=Z (λi k=>(rF.alloc i).alloc k);clear g h;by_cases g:a=b
  .have h:(a !=b)=δ:=by simp[g]
   have h:=Z h;clear g;(first|(have i:eZ 0:=c;go_enter func226,ntmps226)|(have i:eZ 1:=c;go_enter func257,ntmps257));go_wp2;go_ret;exact aM (by rw[t.1,h.1];rfl) (u.1 _ _)
  have n:(a !=b)=γ:=sU g;have v:=Z n;clear g;first|(have g:eZ 0:=c;go_enter func226,ntmps226;go_wp2_with (go_at_call 283;refine stop ?_))|(have g:eZ 1:=c;go_enter func257,ntmps257;go_wp2_with (go_at_call 299;refine stop ?_))
  refine aZ.nm (λn g=> ?_);obtain⟨h,k⟩:=M f.heap.size;try rw[<-k]
  obtain⟨i,l⟩:=M (h+1);try rw[<-l]
  have o:Fr j f n:=(by rw[g];exact u.1 _ _);have p:=uV g k;have r:N (aY n i #[I e,I a,I b] 144):=Z (by rw[g];exact bM sO);clear g k l;first|(have f:eZ 0:=c;refine aZ.go ((rG d m ⟨e,a,b⟩ a h i n (HS.f o) p.1 r.1).mono ?_))|(have f:eZ 1:=c;refine aZ.go ((sx d m ⟨e,a,b⟩ a h i n (HS.f o) p.1 r.1).mono ?_))
  simp only;rintro f y ⟨rfl,l⟩;rw[<-HP.1];have k:=(o.step l);have⟨w,s⟩:=bD (l.hs p.1) (l.hs r.1);clear l;cases x
  .go_wp2
   go_ret;exact aM (by rw[t.1,v.1];rfl) k
  have f:=iU s.1;first|(have g:eZ 0:=c;go_wp2_with (go_at_call 283;refine stop ?_))|(have g:eZ 1:=c;go_wp2_with (go_at_call 299;refine stop ?_))
  clear f;first|(have f:eZ 0:=c;refine aZ.go ((rG d m ⟨e,a,b⟩ b h i y (HS.f k) w.1 s.1).mono ?_))|(have c:eZ 1:=c;refine aZ.go ((sx d m ⟨e,a,b⟩ b h i y (HS.f k) w.1 s.1).mono ?_))
  simp only;rintro a b ⟨rfl,l⟩;rw[<-HQ.1];have a:=(k.step l);clear l;go_wp2;go_ret;exact aM (by rw[t.1,v.1];simp) a
theorem De(b:Hs)(a:Ch)(c:ζ)(d:ε)(e:eJ d c b):dr 226 #[c,iP a] d (.bool (dA b a)):=(wM b a c d e).1
theorem DV(b:Hs)(a:Ch)(c:ζ)(d:ε)(e:eJ d c b):dr 257 #[c,iP a] d (.bool (dA b a)):=(wM b a c d e).2
def NC(d:ε)(c:L ζ)(a:Nd):Prop:=∃b,c=[I a.c.k,I a.c.a,I a.c.b,b]/\Sl 3 1 CI d b a.cy
theorem NC.aJ:dU fS NC:=by
 rintro g i f h x a d ⟨e,b,c⟩;exact⟨e,b,c.aJ (Pl.aJ cW (λ_=>False)) a (λc b a=>d c b (a.resolve_right id))⟩
instance:SC NC:=⟨_,NC.aJ⟩
theorem fF.nd(c:fF 146 4 NC W A m q N1){k:E}{x:Nd}(d:N1[k]? =S x):
  ∃a,W.cell? (H m (q+k*4))=S (I x.c.k)/\W.cell? (H m (q+k*4+1))=S (I x.c.a)/\W.cell? (H m (q+k*4+2))=S (I x.c.b)/\W.cell? (H m (q+k*4+3))=S a/\Sl 3 1 CI W a x.cy:=by
 obtain⟨f,-,⟨e,rfl,b⟩,a⟩:=c.2 k x d;exact⟨e,a 0 _ Y,a 1 _ Y,a 2 _ Y,a 3 _ Y,b⟩
def ndv(a:Nd)(b:ζ):ζ:=.agg #[I a.c.k,I a.c.a,I a.c.b,b]
def wt(a d:ε)(b:E)(e:L Nd):Prop:=Fr j a d/\a.heap.size<=b/\∃c,aY d b #[c] 349/\Sl 146 4 NC a c e
def uh:PanicEntry:={v:=.iface 441 (.agg #[]),recovered:=δ}
theorem wt.slot(c:wt W V m N1)(a:Fr S1 V U)(g:∀b,S1 b->W.heap.size<=b)(f:¬S1 m):wt W U m N1:=by
 obtain⟨b,e,h,c,d⟩:=c;exact⟨b.keep a g,e,h,a.aB c f,d⟩
theorem VH(e:ε)(b:E)(a:ε)(d:wt e a b []):
  aQ 254 #[aP b 0] a λc b=>c=.panicked [uh]/\Fr j a b:=by
 obtain⟨-,-,k,c,f,g,i,h,rfl,-,-,-⟩:=d;have a:=λa=>bx (aC c a)
 delta aQ;go_in
 go_wp2;exact⟨Y,Y,cZ⟩
theorem uu(e:ε)(c:E)(a:Nd)(u:L Nd)(b:ε)(K:wt e b c (a::u)):
  aQ 254 #[aP c 0] b λg d=>∃f,g=.returned (ndv a f)/\Sl 3 1 CI e f a.cy/\wt e d c u/\bT c b d:=by
 obtain⟨k,B,K,h,p⟩:=K;have HS:=p;have P:=p.f k;have w:=h;obtain⟨U,l,m,f,rfl,D,F,s⟩:=p;have r:=s.aJ NC.aJ k (λ_ _ _ _ d=>d);obtain⟨i,t⟩:=M u.length;simp only[bW,<-t] at h w HS D |-;unfold maxLen at F;obtain rfl:=r.addr (k:=0) (x:=a) Y;obtain⟨Q,y,z,A,g,G⟩:=r.nd (k:=0) (x:=a) Y;obtain⟨d,C,x⟩:=pU (w:=e) 32 underlying32 (λe=>by kernel_rfl) (by rw[bW,<-t]) HS 1 O;have e:=λe=>C 1 e Y;simp only[E.add_sub_cancel] at e x;obtain⟨R,-,-,-,n,v⟩:=s.nd (k:=0) (x:=a) Y;obtain rfl:R=Q:=by have:=k.aF n id;rw[this] at g;exact cI g
 clear n;obtain⟨n,bc,V,o,rfl,-,-,-⟩:=G;obtain⟨p,u⟩:=M a.cy.length;rw[<-u] at v g;have e:=(fJ.1 h).1;have e:=e;have e:∀e,Fr j b (b.alloc e):=λe=>cZ;have D:=λD=>bx (aC h D);have D:∀D,(b.alloc D).cell? (H l m)=S (I a.c.k):=λD=>(e D).aF (sU y) id;have D:∀D,(b.alloc D).cell? (H l (m+1))=S (I a.c.a):=λD=>(e D).aF (sU z) id;have D:∀D,(b.alloc D).cell? (H l (m+2))=S (I a.c.b):=λD=>(e D).aF (sU A) id;have l:∀D,(b.alloc D).cell? (H l (m+3))=S (.slice n p o):=λl=>(e l).aF (sU g) id;clear y z A g e;have e:=aG h 0;clear C r s t u P
 delta aQ;go_in
 go_wp2;have h:(prog.info? 146).map (·.size)=S 4:=kR;have r:(b.setCell (H c 0) (.slice d i (f-1))).heap[c]? =S (.cells #[.slice d i (f-1)] 349 (0,0)):=sU (aD w 0 (.slice d i (f-1)));have e:bT c b (b.setCell (H c 0) (.slice d i (f-1))):=rF.aK 0 _;obtain⟨d,c⟩:=M (b.setCell (H c 0) (.slice d i (f-1)));rw[<-c] at r e |-;have c:d.heap.size=b.heap.size:=by rw[c];simp
 obtain⟨b,c⟩:=M b.heap.size;rw[<-c];have c:=e.alloc (.cells #[I a.c.k,I a.c.a,I a.c.b,.slice n p o] 146);have g:=c.alloc (.cells #[I a.c.k,I a.c.a,I a.c.b,.slice n p o] 146);have a:∀a c:Obj,((d.alloc a).alloc c).heap[b]? =S a:=λc a=>aC (bM O) _;exact aO (gp Y _ _ b 146 _ (0,0) _ Y (a _ _) underlying146 Y (by rw[h];rfl)) Y ⟨_,Y,v,⟨k.keep g (λb a=>a▸B),B,_,aC (aC r _) _,x _ HS⟩,g⟩
theorem aay(e:ε)(b:E)(a:ε)(d:wt e a b []):
  aQ 253 #[aP b 0] a λc b=>c=.returned (.tuple #[])/\b=a:=by
 obtain⟨-,-,k,c,f,g,i,h,rfl,-,-,-⟩:=d;have a:=bx c
 delta aQ;go_in
 go_wp2;exact bodyPost_end (io Y _ _ _) Y ⟨Y,Y⟩
theorem aac(f:ε)(b:E)(g:Nd)(d:L Nd)(a:ε)(e:wt f a b (g::d)):
  aQ 253 #[aP b 0] a λc b=>c=.panicked [uh]/\b=a:=by
 obtain⟨-,-,m,c,h,i,l,k,rfl,-,-,-⟩:=e;obtain⟨b,a⟩:=M d.length;simp only[bW,<-a] at c;have a:=bx c
 delta aQ;go_in
 go_wp2;exact⟨Y,Y,Y⟩
theorem Wu(a:i1=i2)(b:i3=i4):Ending.returned (.tuple #[I i1,I i3])=.returned (.tuple #[I i2,I i4]):=by rw[a,b]
theorem kW:∀a:Tr,a.leaves<=a.flat.length/\a.deep<=a.flat.length
 |.leaf a=>by simp[Tr.leaves,Tr.deep,Tr.flat]
 |.br c a b=>by
  have a:=kW a;have a:=kW b;simp only[Tr.leaves,Tr.deep,Tr.flat,bW,cA];omega
theorem xE{a:Nd}(b:a.cy.length=0):ze (m+1) (a::N1)=(match ze m N1 with
  |none=>η
  |some (b,c)=>match ze m c with
   |none=>η
   |some (c,d)=>S (.br a b c,d)):=by
 rw[ze,aR O];rfl
theorem Ak(g:ε)(a:E):∀(c:E)(b:L Nd)(d:ε),b.length<c->b.length<=fV->wt g d a b->
  aQ 252 #[aP a 0] d λf e=>bT a d e/\
   (ze c b=η/\f=.panicked [uh]\/∃d h,ze c b=S (d,h)/\f=.returned (.tuple #[I d.leaves,I d.deep])/\wt g e a h)
 |0,b,c,hm,_,_=>by omega
 |d+1,[],c,hm,hB,hr=>by
  delta aQ;go_in
  go_wp2_with fail;refine sg (VH g a c hr) ?_;rintro c d ⟨rfl,b⟩;go_wp2;exact⟨Y,b.mono (λ_ _ b=>b.elim),.inl ⟨Y,Y⟩⟩
 |l+1,n::e,F,hm,hB,hr=>by
  have x:=hr;have t:=(Ak g a l);clear hr
  delta aQ;go_in
  go_wp2_with fail;refine sg (uu g a n e F x) ?_;rintro a G ⟨g,rfl,z,u,o⟩;obtain⟨v,bc,P,w,rfl,-,-,-⟩:=z;generalize h:n.cy.length=b;unfold ndv;have a:∀a,(Instr.field 146 (.agg #[I n.c.k,I n.c.a,I n.c.b,.slice v b w]) 1).run prog a=.ok (.slice v b w) a:=λa=>by kernel_rfl
  by_cases a:0<b
  .have a:decide ((b:T)>0)=γ:=sO
   have a:decide (0<(b:T))=γ:=sO;have a:decide (0<b)=γ:=sO;go_wp2;refine aO (results_tmp2 Y _ _ _) Y ?_;exact⟨o,.inr ⟨.leaf n,e,by rw[ze,aS O],Y,u⟩⟩
  obtain rfl:b=0:=O;go_wp2_with fail;refine sg (t e G (by have:=hm;simp at this;omega) (by have:=hB;simp at this;omega) u) ?_;rintro g K ⟨a,b⟩;have p:=(o.tr a);clear a;rcases b with⟨A,rfl⟩|⟨c,f,d,rfl,C⟩
  .go_wp2
   exact⟨Y,p,.inl ⟨by rw[xE h,A],Y⟩⟩
  have s:=d;have g:=(pj l e c f d);have a:=kW c;have b:=a;clear d a;have i:e.length=c.flat.length+f.length:=by rw[g.1];simp
  have y:c.leaves<=fV/\c.deep<=fV:=by have:=b;have:=hB;simp at this;omega
  go_wp2_with fail;refine sg (t f K (by have:=hm;have:=i;simp at*;omega) (by have:=hB;have:=i;simp at*;omega) C) ?_;rintro e g ⟨a,b⟩;have r:=(p.tr a);clear a;rcases b with⟨B,rfl⟩|⟨d,m,k,rfl,D⟩
  .go_wp2
   exact⟨Y,r,.inl ⟨by rw[xE h,s];simp only[B],Y⟩⟩
  have a:=k;have b:=(pj l f d m k);have e:=kW d;have b:d.leaves<=fV/\d.deep<=fV:=by
   have g:=i;have b:f.length=d.flat.length+m.length:=by rw[b.1];simp
   have:=hB;simp at this;omega
  clear k e;unfold fV at y b;go_wp2;refine aO (results_tmp2 Y _ _ _) Y ?_;exact⟨r,.inr ⟨.br n c d,m,by rw[xE h,s];simp only[a],Wu (by simp[Tr.leaves]) (by simp[Tr.deep];omega),D⟩⟩
theorem Ka(d:∀a∈L1,a.length=m)(e:0<m)(b:L1.flatten[q]? =S x):∃a,L1[q / m]? =S a/\a[q % m]? =S x:=by
 have a:q<L1.length*m:=by
  have:=(cj.1 b).1;rwa[iw d] at this
 have c:q / m<L1.length:=E.div_lt_of_lt_mul (by rw[lK];exact a);obtain⟨a,c⟩:∃a,L1[q / m]? =S a:=⟨_,cF c⟩;refine⟨a,c,?_⟩;have a:=E.div_add_mod q m;rw[lK] at a;rw[<-sY d c (E.mod_lt _ e),a,b]
theorem fF.rows:∀{b:L α},fF t m C W A q n1 b->
  ∃c:L (L ζ),c.length=b.length/\∀a d,b[a]? =S d->∃b,c[a]? =S b/\b.length=m/\C W b d/\∀c d,b[c]? =S d->W.cell? (H q (n1+a*m+c))=S d:=by
 intro c f;have i:=f.2;have p:∀b,b<=c.length->∃d:L (L ζ),d.length=b/\∀a e,a<b->c[a]? =S e->∃b,d[a]? =S b/\b.length=m/\C W b e/\∀d e,b[d]? =S e->W.cell? (H q (n1+a*m+d))=S e:=by
  intro k;induction k with
  |zero=>intro _;exact⟨[],Y,λa d b=>by omega⟩
  |succ b f=>
   intro k;obtain⟨f,g,k⟩:=f O;obtain⟨r,h⟩:=gE c b O;obtain⟨e,l,n,o⟩:=i b r h;refine⟨f++[e],by simp[g],λa i f d=> ?_⟩;rcases dP a b with f|f
   .obtain⟨k,f,i⟩:=k a i f d
    exact⟨k,by rw[jf O];exact f,i⟩
   obtain rfl:a=b:=O;rw[h] at d;obtain rfl:=cI d;exact⟨e,by rw[iV O,g];simp,l,n,o⟩
 obtain⟨b,c,d⟩:=p c.length eG;exact⟨b,c,λa c b=>d a c (cj.1 b).1 b⟩
theorem pK{P:Program}{a5:TypeId->Prop}{w:ε}{o:Oper}{a:Act}{K:Act->ε->Prop}{Q:Exit->Act->ε->Prop}
  (a0:o.guard=η)(U k:Operand){v:TypeId}(c2:o.op=Op.call {callee:=Callee.builtin Builtin.append,args:=#[U,k],argTypes:=#[v,v]})(r:dK P v t m q)(g:Nat)(b9:X.length=g)(c3:a.eval U=.slice A g g)(a4:Sl t m C w (.slice A g g) X)(b2:dU a5 C)
  {z:Addr}(a3:α)(n:a.eval k=.slice (S z) 1 n1)(b8:Y1.length=m)(c7:∀b d,Y1[b]? =S d->w.cell? (z.add b)=S d)(b0:∀d∈Y1,d.oneCell'=γ)(c9:∀f,Fr j w f->C f Y1 a3)(b4:(g+1)*q<=140737488355328)(b1:g+1<=maxLen)
  (b3:∀y s f p,cC w.heap.size t m C f (.slice y (g+1) s) (X++[a3]) p->Fr j w f->g+1<=s->s<=maxLen->K (a.put o.dst (.slice y (g+1) s)) f):Oper.wp P o a w K Q:=by
 subst b9;obtain⟨d1,d4,b7,d0,c4,c5,c6⟩:=r.adz;obtain⟨y,d5,d9,d6,c,d7,d8,R⟩:=a4;simp only[cM,ll] at c;obtain⟨rfl,rfl⟩:=c;obtain⟨p,F,G⟩:=R.rows;have a1:∀n1∈p,n1.length=m:=λn1 b5=>by
  obtain⟨b,h⟩:=kc b5;obtain⟨k,n⟩:=gE X b (oB ((cj.1 h).1));obtain⟨Y1,l,u,-⟩:=G b k n;rw[h] at l;obtain rfl:=cI l;exact u
 have c0:A=η->X.length=0/\X.length=0:=λc=>by
  rcases R.1 with e|⟨e,-⟩
  .simp[e]
  rw[e] at c;cases c
 have c1:∀B,A=S B->∀b d,p.flatten[b]? =S d->w.cell? (B.add b)=S d:=λB c b d i=>by
  obtain⟨a8,W,c8⟩:=Ka a1 r.pos i;obtain⟨k,n⟩:∃k,X[b / m]? =S k:=⟨_,cF (oB ((cj.1 W).1))⟩;obtain⟨a9,l,u,-,D⟩:=G _ k n;rw[W] at l;obtain rfl:=cI l;rcases R.1 with e|⟨e,-⟩
  .rw[e] at n;simp at n
  rw[e] at c;obtain rfl:=cI c
  have:=D _ d c8;rw[eV];rw[nT,lK,Nat.div_add_mod] at this;exact this
 have e:=step_append_grows (P:=P) (ops:=#[]) (E:=True) (o:=o) (a:=a) (w:=w) (K:=K) (Q:=Q) a0 U k v c2 t d1 d4 m q r.under b7 d0 c4 c5 c6 r.pos A X.length X.length p.flatten c3 c0 (by rw[iw a1,F]) c1 z 1 n1 Y1 n O c7 b0 O b1 b4 (λe0 f a2 b6=> ?_)
 .rwa[aS (by simp[Region.wanted,a0])] at e
 have x:Fr j w f:=(gJ b6).mono (λ_ _ c=>by cases c);obtain⟨a6,a7,rfl,d2,d3⟩:=bB a2;refine b3 a6 a7 f (p++[Y1]) ⟨sU a2,by simp[F],λb a8 d h i=> ?_⟩ x d2 d3;rcases dP b X.length with e|e
 .rw[jf O] at h i
  obtain⟨a9,l,u,D,-⟩:=G b d i;rw[h] at l;obtain rfl:=cI l;exact⟨u,b2 j w f _ d x (λ_ _ _ _ c=>c) D⟩
 rw[iV O] at h i;have V:b-X.length=0:=by
  have:=(cj.1 i).1;simpa using this
 rw[F,V] at h;rw[V] at i;simp at h i;subst h i;exact⟨b8,c9 f x⟩
theorem Pb(a:Ch)(b:ε):dr 256 #[iP a] b (iP a.back):=by
 obtain⟨d,a,c⟩:=a;unfold iP Ch.back;simp only;have a:(prog.info? 144).map (·.size)=S 3:=kR
 delta dr aQ;go_in
 go_wp2;refine aO (gp Y _ _ (b.heap.size+1) 144 _ (0,0) _ Y (bM sI) underlying144 Y (by rw[a];rfl)) Y ⟨Y,cZ.alloc _⟩
theorem iH{P:Program}{id:E}(e d g:L E)(a:ε->ε->Prop)(b:L (L E))(c:L bG)(Rd:L (L E))
  (r:P.follows .mixedOrders=γ)(k:Gv r1.toArray b=γ)(l:ddB b.length b e d=γ)(s:g.all (λf=>d.all (λq=>decide (f=q)||(b.getD q []).contains f))=γ)(n:yR b 0 Rd=γ)(o:c.map bG.reads=Rd)(m:∀h(a1 f:Act) W,a1.defers=f.defers->Q (.panic h) a1 W->Q (.panic h) f W)
  (p:∀W f,Fr j W f->a W f)(v:∀a1 f h,a a1 f->a f h->a a1 h)
  (t:kZ (λ_ f=>f.Fy (Fr j)) 0 c)
  (u:∀h∈d,kZ (λf i=>h≠f->h ∉ b.getD f []->f ∉ e->i.Fy a) 0 c)
  (f:∀i,kA P r1.toArray Q e (λh=>if h∈d then a else Fr j) (λh=>if h∈g then Fr j W else a W) (a W) b (λh=>(c.getD h .w0).at) i 0 r1 a1):(Code.region id r1.toArray γ).wp P Q a1 W:=
 rgG r e d g (λ_=>a) a b c Rd k l s n o m p v (λ_ _ _ _ a=>a) t u f
theorem Sl.rd{a:TypeId->Prop}(c:Sl t m C V x X)(f:dU a C)(g:wt W V q N1)(b:bT q V U)(d:t≠349)(e:¬a 349):Sl t m C U x X:=by
 obtain⟨-,-,a,g,-⟩:=g;exact c.aJ f b (λh f c b a=>b.ne ⟨_,_,a▸g⟩ (λa=>c.elim (λb=>d (b.symm.trans a)) (λb=>e (a▸b))) Y)
theorem Sl.clip(c:Sl t m C W (.slice A q n1) X):Sl t m C W (.slice A q q) X:=by
 obtain⟨c,b,e,f,a,g,h,d⟩:=c;simp only[cM] at a;obtain⟨rfl,rfl,rfl⟩:=a;exact⟨_,b,e,_,Y,eG,O,d⟩
def PI(e:ε)(a:E)(g:Hs)(h:T)(d:Tr):Prop:=
 ∀(c:L Ch)(f k:ζ)(i:L Nd)(b:ε),wt e b a (d.flat++i)->eJ e f g->Sl 144 3 CC b k c->c.length+d.deep<=fV->
  aQ 209 #[aP a 0,f,I h,k] b λk f=>k=.returned (.bool (qO g h c d))/\wt e f a i/\bT a b f
theorem wX(z:ε)(i:E)(f:Hs)(D:T):∀f6:Tr,f6.wu=γ->PI z i f D f6
 |.leaf a5=>λd4=>by
  intro C k7 k9 R A G c4 c6 a4;have⟨c0,HL,U⟩:=dt c4 c6 a4;obtain⟨d8,rfl,-⟩:=c4;obtain⟨d3,j3,k5,h2,rfl,d5,h7,-⟩:=c6;obtain⟨B,a7⟩:=M C.length;rw[<-a7] at HL U d5 |-;have HM:=Z a7;have h4:i<A.heap.size:=by obtain⟨-,-,k6,g1,-⟩:=G;exact(fJ.1 g1).1
  clear a7;go_enter func209,ntmps209;go_wp2_with (go_at_call 254;refine stop ?_);refine aZ.nm (λd9 a9=> ?_);obtain⟨g2,a8⟩:=M A.heap.size;rw[<-a8];have b8:=cY a9;have d0:=dL a9 a8;clear a9;refine sg (uu z i a5 _ d9 (by have:=G.slot b8 (λ_ e=>e.elim) id;simpa[Tr.flat] using this)) ?_;rintro s K ⟨k8,rfl,c3,d7,h⟩;have b2:=(b8.trans (U:=λb0=>b0=i) h (λ_ _ e=>e.elim) (λ_ _ e=>e));have c1:=(h.aB d0.1 O);have h5:i<K.heap.size:=oB b2.size;have b4:=Z c3;obtain⟨j1,bc,k4,k1,rfl,-,-,-⟩:=c3;obtain⟨b6,X⟩:=M a5.cy.length;rw[<-X] at b4 |-;clear a8;obtain⟨⟨p,n,o⟩,c2⟩:=a5;unfold ndv;simp only at X b4 |-;obtain⟨c9,c7⟩:=M K.heap.size;have e8:N (c9≠i):=Z O;have b3:(∀u,Fr j K (K.alloc u)):=(λu=>rF.alloc u);have d1:(∀u,wt z (K.alloc u) i _):=(λu=>d7.slot (b3 u) (λ_ e=>e.elim) id);have h1:=λu=>bx (aC c1 u);have e2:=Z c7;clear c7;have h8:0<b6:=by have:=d4;simp only[Tr.wu,cS] at this;rw[X];exact this
  have d6:decide ((b6:T)>0)=γ:=sO;have f6:decide (0<(b6:T))=γ:=sO;have f6:decide (0<b6)=γ:=sO;have h6:=λA=>qY A ⟨p,n,o⟩ ⟨0,0,0⟩;simp only at h6;obtain⟨b1,f6⟩:=M ((⟨p,n,o⟩:Ch)==⟨0,0,0⟩);rw[<-f6] at h6;have b5:N (qO f D C (.leaf ⟨⟨p,n,o⟩,c2⟩)=(b1&&xD f D C c2)):=Z (by rw[qO,f6]);clear X f6;cases b1
  .go_wp2
   go_ret;exact⟨by rw[b5.1];rfl,d1 _,b2.step (b3 _)⟩
  go_wp2_with (go_at_call 255;refine stop ?_);refine aZ.nm (λv a0=> ?_);have e4:N (wt z v i R):=Z (by rw[a0];exact d1 _);have b9:(bT i A v):=(by rw[a0];exact b2.step (b3 _));have e1:=Z (Sl.rd HL.1 (Pl.aJ eM (λ_=>False)) G b9 J id);clear a0;refine sg (zQ f D C c2 _ _ _ v (c0.1.fr e4.1.1) e1.1 (b4.1.f e4.1.1)) ?_;rintro s l0 ⟨rfl,h⟩;have⟨h9,i6⟩:=bD (b9.step h) (e4.1.slot h (λ_ e=>e.elim) id);clear h;go_wp2;go_ret;exact⟨by rw[b5.1];rfl,i6.1,h9.1⟩
 |.br a5 k Q=>λd4=>by
  intro C k7 k9 R A G c4 c6 a4;have⟨e3,c0,HL,U,g4⟩:=va G c4 c6 a4 d4;obtain⟨d8,rfl,-⟩:=c4;obtain⟨d3,j3,k5,h2,rfl,d5,h7,-⟩:=c6;obtain⟨B,a7⟩:=M C.length;rw[<-a7] at HL U d5 |-;have HM:=Z a7;have h4:i<A.heap.size:=by obtain⟨-,-,k6,g1,-⟩:=G;exact(fJ.1 g1).1
  clear a7 G a4 d4;go_enter func209,ntmps209;go_wp2_with (go_at_call 254;refine stop ?_);refine aZ.nm (λd9 a9=> ?_);obtain⟨g2,a8⟩:=M A.heap.size;rw[<-a8];have e7:N (g2≠i):=Z O;have b8:=cY a9;have d0:=dL a9 a8;clear a9;have g9:N (wt z d9 i (a5::((k.flat++Q.flat)++R))):=Z (by have:=e3.1.slot b8 (λ_ e=>e.elim) id;simpa[Tr.flat] using this);refine sg (uu z i a5 _ d9 g9.1) ?_;rintro s K ⟨k8,rfl,c3,d7,h⟩;have⟨b2,c1⟩:=bD (b8.trans (U:=λb0=>b0=i) h (λ_ _ e=>e.elim) (λ_ _ e=>e)) (h.aB d0.1 e7.1);have h5:i<K.heap.size:=oB b2.1.size;have⟨h0,b4⟩:=bD d7 c3;obtain⟨j1,bc,k4,k1,rfl,-,-,-⟩:=c3;obtain⟨b6,X⟩:=M a5.cy.length;rw[<-X] at b4 |-;clear h d7 d0 h4 a8;obtain⟨⟨p,n,o⟩,c2⟩:=a5;unfold ndv;simp only at X b4 |-;obtain⟨c9,c7⟩:=M K.heap.size;have e8:N (c9≠i):=Z O;have b3:N (∀u,Fr j K (K.alloc u)):=Z (λu=>rF.alloc u);have d1:N (∀u,wt z (K.alloc u) i _):=Z (λu=>h0.1.slot (b3.1 u) (λ_ e=>e.elim) id);have h1:=λu=>bx (aC c1.1 u);have e2:=Z c7;clear h5 g9 c7;have h8:b6=0:=by have:=g4.1;simp only[Tr.wu,bA,ef] at this;rw[X];exact this.1.1
  obtain rfl:=h8;have u:N (k.wu=γ/\Q.wu=γ):=Z (by have:=g4.1;simp only[Tr.wu,bA] at this;exact⟨this.1.2,this.2⟩);have i2:N (PI z i f D k):=Z (wX z i f D k u.1.1);have i3:N (PI z i f D Q):=Z (wX z i f D Q u.1.2);obtain⟨b1,d6⟩:=M (qO f D (C++[⟨p,n,o⟩]) k);obtain⟨q,u⟩:=M (qO f D (C++[⟨p,o,n⟩]) Q);have b5:N (qO f D C (.br ⟨⟨p,n,o⟩,c2⟩ k Q)=(b1&&q&&dA f ⟨p,n,o⟩)):=Z (by rw[qO,d6,u];rfl);have⟨HP,HQ⟩:=bD d6 u;clear X d6 u;go_wp2_with (go_at_call 169;refine stop ?_);refine aZ.nm (λv a0=> ?_);rw[<-e2.1];have i5:N (wt z v i (k.flat++(Q.flat++R))):=Z (by rw[a0,<-dm];exact d1.1 _);have b9:N (bT i A v):=Z (by rw[a0];exact b2.1.step (b3.1 _));have g5:N (aY v g2 #[d8] 54):=Z (by rw[a0];exact aC c1.1 _);have g7:=dL a0 e2.1;clear a0 h1 c1 h0;refine sg (Bz d3 B h2 v d5 h7) ?_;rintro s l0 ⟨rfl,rfl⟩;go_wp2_with fail;have e1:=Z ((Sl.rd HL.1 (Pl.aJ eM (λ_=>False)) e3.1 b9.1 J id).clip);refine iH [6,7] [8] [0,1,2,3,4,5,6,7,8] (bT i) [[],[],[],[],[],[4],[4,5],[3,4,5,6],[0,1,2,3,4,5,6,7],[0,1,2,3,4,5,8]] [.w1 0 (λk _=>k=aP i 0),.w1 1 (λk _=>k=.agg #[d8]),.w1 2 (λk _=>k=I D),.w1 3 (λk _=>k=.slice d3 B B),.w1 4 (λk _=>k=aP c9 0),.w1 5 (λk _=>k=.agg #[I p,I n,I o]),.w1 6 (λe c=>∃F,e=.slice (S (H F 0)) 1 1/\aY c F #[I p,I n,I o] 144),.w1 7 (λe c=>∃W V,e=.slice V (B+1) W/\Sl 144 3 CC c e (C++[⟨p,n,o⟩])),.w1 8 (λe c=>e=.bool b1/\wt z c i (Q.flat++R)),.w1 9 (λe c=>e=.bool b1/\wt z c i (Q.flat++R))] [[0],[1],[2],[3],[4],[5],[6],[7],[8],[9]] kR kR kR kR kR Y (λ_ _ _ _ s f=>⟨s.symm.trans f.1,f.2⟩) (λ_ _ h=>h.mono (λ_ _ e=>e.elim)) (λ_ _ _ f b0=>f.tr b0) ?hstab ?hstabM ?walk
  case hstab=>
   refine⟨?_,?_,?_,?_,?_,?_,?_,?_,?_,?_,trivial⟩<;>first|exact Lu|(intro a1 A b7 f h;simp only[bG.at] at f |-;obtain⟨F,f2,f3⟩:=f;exact⟨F,f2,h.hs f3⟩)|(intro a1 A b7 f h;simp only[bG.at] at f |-;obtain⟨W,V,s,e5⟩:=f;exact⟨W,V,s,e5.f h⟩)|(intro a1 A b7 f h;simp only[bG.at] at f |-;exact⟨f.1,f.2.slot h (λ_ e=>e.elim) id⟩)
  case hstabM=>
   intro k3 c5;simp only[rB] at c5;subst c5;refine⟨?_,?_,?_,?_,?_,?_,?_,?_,?_,?_,trivial⟩<;>first|exact wZ
  case walk=>
   intro a1;obtain⟨s0,s1,s2,s3,s4,s5,s6,s7,s8,s9,HS⟩:=aar a1;refine⟨?_,?_,?_,?_,?_,?_,?_,?_,?_,?_,?_⟩
   ·
    intro c b a r d;replace b:Fr j v c:=b;clear a;simp only[rY,reduceIte,ξ,ο,HS] at d |-;go_simp;exact d _ _ rF Y
   ·
    intro c b a r d;replace b:Fr j v c:=b;clear a;simp only[rY,reduceIte,ξ,ο,HS] at d |-;have f0:=bx (b.hs g5.1);go_simp;exact d _ _ rF Y
   ·
    intro c b a r d;replace b:Fr j v c:=b;clear a;simp only[rY,reduceIte,ξ,ο,HS] at d |-;go_simp;exact d _ _ rF Y
   ·
    intro c b a r d;replace b:Fr j v c:=b;clear a;simp only[rY,reduceIte,ξ,ο,HS] at d |-;go_simp;exact d _ _ rF Y
   ·
    intro c b a r d;replace b:Fr j v c:=b;clear a;simp only[rY,reduceIte,ξ,ο,HS] at d |-;go_simp;exact d _ _ rF Y
   ·
    intro c b a r d;replace b:Fr j v c:=b;have g:=a 4 J;simp only[rA,bG.at,HS] at g;clear a;simp only[rY,reduceIte,ξ,ο,HS] at d |-;subst g;obtain⟨f0,j4,j5,-⟩:=mD (b.hs g7.1);go_simp;exact d _ _ rF Y
   ·
    intro c b a r d;replace b:Fr j v c:=b;have g:=a 4 J;have l:=a 5 J;simp only[rA,bG.at,HS] at g l;clear a;simp only[rY,reduceIte,ξ,ο,HS] at d |-;subst g l;go_simp;exact d _ _ cZ ⟨_,Y,bM Y⟩
   ·
    (intro c b a r d;replace b:Fr j v c:=b;have m:=a 3 J;have g:=a 4 J;have l:=a 5 J;have t:=a 6 J;simp only[rA,bG.at,HS] at m g l t;clear a;simp only[rY,reduceIte,ξ,ο,HS] at d |-;subst m g l;obtain⟨F,rfl,a4⟩:=t;have f4:(B+1)*24<=140737488355328:=by have:=U.1;unfold fV at this;omega);(have f5:B+1<=maxLen:=by have:=U.1;unfold fV at this;simp only[maxLen];omega);obtain⟨j2,s,f9⟩:=(eF.block a4 oC).1.resolve_left sI;obtain rfl:=cI s;rw[aS fX];refine pK fX (.tmp 35) (.tmp 38) fX lD B HM.1.symm fX (e1.1.f b) (Pl.aJ eM (λ_=>False)) (⟨p,n,o⟩:Ch) fX Y f9 oC (λ_ _=>Y) f4 f5 ?_;intro j0 j7 i9 i4 e6 f1 _ _;exact d _ _ f1 ⟨_,_,Y,e6.read⟩
   ·
    intro c b a r d;replace b:Fr j v c:=b;have w:=a 0 J;have x:=a 1 J;have y:=a 2 J;have m:=a 3 J;have g:=a 4 J;have l:=a 5 J;have t:=a 6 J;have a6:=a 7 J;simp only[rA,bG.at,HS] at w x y m g l t a6;clear a;simp only[rY,reduceIte,ξ,ο,HS] at d |-;subst w x y m g l;obtain⟨W,V,rfl,g0⟩:=a6;go_simp;go_at_call 209;have f8:=i5.1.slot b (λ_ e=>e.elim) id;refine(i2.1 (C++[⟨p,n,o⟩]) _ _ (Q.flat++R) c f8 c0.1 g0 (by have:=U.1;have:=HM.1;simp only[Tr.deep] at*;simp only[cA,eK];omega)).mono ?_;rintro s e9 ⟨rfl,G,h⟩;exact d _ _ h ⟨by rw[HP.1],G⟩
   ·
    intro c b a r d;replace b:(bT i) v c:=b;have w:=a 0 J;have x:=a 1 J;have y:=a 2 J;have m:=a 3 J;have g:=a 4 J;have l:=a 5 J;have a2:=a 8 J;simp only[rA,bG.at,HS] at w x y m g l a2;clear a;simp only[rY,reduceIte,ξ,ο,HS] at d |-;subst w x y m g l;obtain⟨rfl,f7⟩:=a2;go_simp;exact d _ _ rF ⟨Y,f7.slot tC (λ_ e=>e.elim) id⟩
   intro c b a;have w:=a 0 J J;have x:=a 1 J J;have y:=a 2 J J;have m:=a 3 J J;have g:=a 4 J J;have l:=a 5 J J;have a2:=a 8 J J;have a3:=a 9 J J;simp only[rA,bG.at,HS] at w x y m g l a2 a3;clear a;simp only[Act.put,rC,HS];subst w x y m g l;obtain⟨rfl,c8⟩:=a3;obtain⟨rfl,-⟩:=a2;have⟨g3,i7,g6,g8⟩:=gB (b9.1.tr b) c8 (b.aB g5.1 e7.1) (b.aB g7.1 e8.1);clear b c8 HS;have i1:=Z ((Sl.rd HL.1 (Pl.aJ eM (λ_=>False)) e3.1 g3.1 J id).clip);obtain⟨P,k2⟩:=M c;subst k2;go_wp2_with fail;refine iH [7,8] [9] [0,1,2,3,4,5,6,7,8,9] (bT i) [[],[],[],[],[],[4],[4,5],[4,5,6],[3,4,5,6,7],[0,1,2,3,4,5,6,7,8],[0,1,2,3,4,5,6,9]] [.w1 0 (λk _=>k=aP i 0),.w1 1 (λk _=>k=.agg #[d8]),.w1 2 (λk _=>k=I D),.w1 3 (λk _=>k=.slice d3 B B),.w1 4 (λk _=>k=aP c9 0),.w1 5 (λk _=>k=.agg #[I p,I n,I o]),.w1 6 (λk _=>k=.agg #[I p,I o,I n]),.w1 7 (λe c=>∃F,e=.slice (S (H F 0)) 1 1/\aY c F #[I p,I o,I n] 144),.w1 8 (λe c=>∃W V,e=.slice V (B+1) W/\Sl 144 3 CC c e (C++[⟨p,o,n⟩])),.w1 9 (λe c=>e=.bool q/\wt z c i R),.w1 10 (λe c=>e=.bool q/\wt z c i R)] [[0],[1],[2],[3],[4],[5],[6],[7],[8],[9],[10]] kR kR kR kR kR Y (λ_ _ _ _ s f=>⟨s.symm.trans f.1,f.2⟩) (λ_ _ h=>h.mono (λ_ _ e=>e.elim)) (λ_ _ _ f b0=>f.tr b0) ?hstab ?hstabM ?walk
   case hstab=>
    refine⟨?_,?_,?_,?_,?_,?_,?_,?_,?_,?_,?_,trivial⟩<;>first|exact Lu|(intro a1 A b7 f h;simp only[bG.at] at f |-;obtain⟨F,f2,f3⟩:=f;exact⟨F,f2,h.hs f3⟩)|(intro a1 A b7 f h;simp only[bG.at] at f |-;obtain⟨W,V,s,e5⟩:=f;exact⟨W,V,s,e5.f h⟩)|(intro a1 A b7 f h;simp only[bG.at] at f |-;exact⟨f.1,f.2.slot h (λ_ e=>e.elim) id⟩)
   case hstabM=>
    intro k3 c5;simp only[rB] at c5;subst c5;refine⟨?_,?_,?_,?_,?_,?_,?_,?_,?_,?_,?_,trivial⟩<;>first|exact wZ
   case walk=>
    intro a1;obtain⟨s0,s1,s2,s3,s4,s5,s6,s7,s8,s9,s10,HS⟩:=acm a1;refine⟨?_,?_,?_,?_,?_,?_,?_,?_,?_,?_,?_,?_⟩
    ·
     intro c b a r d;replace b:Fr j P c:=b;clear a;simp only[rY,reduceIte,ξ,ο,HS] at d |-;go_simp;exact d _ _ rF Y
    ·
     intro c b a r d;replace b:Fr j P c:=b;clear a;simp only[rY,reduceIte,ξ,ο,HS] at d |-;have f0:=bx (b.hs g6.1);go_simp;exact d _ _ rF Y
    ·
     intro c b a r d;replace b:Fr j P c:=b;clear a;simp only[rY,reduceIte,ξ,ο,HS] at d |-;go_simp;exact d _ _ rF Y
    ·
     intro c b a r d;replace b:Fr j P c:=b;clear a;simp only[rY,reduceIte,ξ,ο,HS] at d |-;go_simp;exact d _ _ rF Y
    ·
     intro c b a r d;replace b:Fr j P c:=b;clear a;simp only[rY,reduceIte,ξ,ο,HS] at d |-;go_simp;exact d _ _ rF Y
    ·
     intro c b a r d;replace b:Fr j P c:=b;have g:=a 4 J;simp only[rA,bG.at,HS] at g;clear a;simp only[rY,reduceIte,ξ,ο,HS] at d |-;subst g;obtain⟨f0,j4,j5,-⟩:=mD (b.hs g8.1);go_simp;exact d _ _ rF Y
    ·
     intro c b a r d;replace b:Fr j P c:=b;have g:=a 4 J;have l:=a 5 J;simp only[rA,bG.at,HS] at g l;clear a;simp only[rY,reduceIte,ξ,ο,HS] at d |-;subst g l;go_simp;go_at_call 256;refine(Pb ⟨p,n,o⟩ c).mono ?_;rintro s e9 ⟨rfl,h⟩;exact d _ _ h Y
    ·
     intro c b a r d;replace b:Fr j P c:=b;have g:=a 4 J;have l:=a 5 J;have t:=a 6 J;simp only[rA,bG.at,HS] at g l t;clear a;simp only[rY,reduceIte,ξ,ο,HS] at d |-;subst g l t;go_simp;exact d _ _ cZ ⟨_,Y,bM Y⟩
    ·
     (intro c b a r d;replace b:Fr j P c:=b;have m:=a 3 J;have g:=a 4 J;have l:=a 5 J;have t:=a 6 J;have a6:=a 7 J;simp only[rA,bG.at,HS] at m g l t a6;clear a;simp only[rY,reduceIte,ξ,ο,HS] at d |-;subst m g l t;obtain⟨F,rfl,a4⟩:=a6;have f4:(B+1)*24<=140737488355328:=by have:=U.1;unfold fV at this;omega);(have f5:B+1<=maxLen:=by have:=U.1;unfold fV at this;simp only[maxLen];omega);obtain⟨j2,s,f9⟩:=(eF.block a4 oC).1.resolve_left sI;obtain rfl:=cI s;rw[aS fX];refine pK fX (.tmp 44) (.tmp 48) fX lD B HM.1.symm fX (i1.1.f b) (Pl.aJ eM (λ_=>False)) (⟨p,o,n⟩:Ch) fX Y f9 oC (λ_ _=>Y) f4 f5 ?_;intro j0 j7 i9 i4 e6 f1 _ _;exact d _ _ f1 ⟨_,_,Y,e6.read⟩
    ·
     intro c b a r d;replace b:Fr j P c:=b;have w:=a 0 J;have x:=a 1 J;have y:=a 2 J;have m:=a 3 J;have g:=a 4 J;have l:=a 5 J;have t:=a 6 J;have a6:=a 7 J;have a2:=a 8 J;simp only[rA,bG.at,HS] at w x y m g l t a6 a2;clear a;simp only[rY,reduceIte,ξ,ο,HS] at d |-;subst w x y m g l t;obtain⟨W,V,rfl,g0⟩:=a2;go_simp;go_at_call 209;have f8:=i7.1.slot b (λ_ e=>e.elim) id;refine(i3.1 (C++[⟨p,o,n⟩]) _ _ R c f8 c0.1 g0 (by have:=U.1;have:=HM.1;simp only[Tr.deep] at*;simp only[cA,eK];omega)).mono ?_;rintro s e9 ⟨rfl,G,h⟩;exact d _ _ h ⟨by rw[HQ.1],G⟩
    ·
     intro c b a r d;replace b:(bT i) P c:=b;have w:=a 0 J;have x:=a 1 J;have y:=a 2 J;have m:=a 3 J;have g:=a 4 J;have l:=a 5 J;have t:=a 6 J;have a3:=a 9 J;simp only[rA,bG.at,HS] at w x y m g l t a3;clear a;simp only[rY,reduceIte,ξ,ο,HS] at d |-;subst w x y m g l t;obtain⟨rfl,f7⟩:=a3;go_simp;exact d _ _ rF ⟨Y,f7.slot tC (λ_ e=>e.elim) id⟩
    intro c b a;have w:=a 0 J J;have x:=a 1 J J;have y:=a 2 J J;have m:=a 3 J J;have g:=a 4 J J;have l:=a 5 J J;have t:=a 6 J J;have a3:=a 9 J J;have h3:=a 10 J J;simp only[rA,bG.at,HS] at w x y m g l t a3 h3;clear a;simp only[Act.put,rC,HS];subst w x y m g l t;obtain⟨rfl,c8⟩:=h3;obtain⟨rfl,-⟩:=a3;have⟨e0,d2⟩:=bD (g3.1.tr b) c8;have j6:=bx (b.aB g6.1 e7.1);obtain⟨j8,j9,k0,-⟩:=mD (b.aB g8.1 e8.1);clear b c8 HS;cases b1
    .go_wp2
     go_ret;exact⟨by rw[b5.1];rfl,d2.1,e0.1⟩
    cases q
    .go_wp2
     go_ret;exact⟨by rw[b5.1];rfl,d2.1,e0.1⟩
    go_wp2_with (go_at_call 257;refine stop ?_);clear j6 j8 j9 k0;refine sg (DV f ⟨p,n,o⟩ _ c (c0.1.fr d2.1.1)) ?_;rintro s e9 ⟨rfl,h⟩;have⟨i0,i8⟩:=bD (e0.1.step h) (d2.1.slot h (λ_ e=>e.elim) id);clear h;go_wp2;go_ret;exact⟨by rw[b5.1];rfl,i8.1,i0.1⟩
structure Fu(w:ε)(h:Hs)(l:L Fc)(f:Fc)(sv vl vc:ζ):Prop where
 h:eJ w (.agg #[sv]) h
 l:Sl 276 7 CF w vl l
 c:Sl 3 1 CI w vc f.cy
def DO(b:T)(a:Fc)(c e d:ζ):ζ:=.agg #[c,I b,e,I a.c.k,I a.c.a,I a.c.b,I a.kind,I a.i,I a.j,d]
theorem Fu.fr{w c:ε}{e:Hs}{d:Fc}(a:Fu w e F d x v1 v2)(b:Fr j w c):Fu c e F d x v1 v2:=
 ⟨a.h.fr b,a.l.f b,a.c.f b⟩
theorem Yr(c:Hs)(t:T)(s:L Fc)(e:Fc)(h m l:ζ)(f:ε)(p:Fu f c s e h m l):
  dr 284 #[DO t e h m l] f (.bool (UZ c e)):=by
 obtain⟨⟨l,e,h⟩,m,a,b,s⟩:=e;unfold DO;simp only;have d:(∀g,Fr j f (f.alloc g)):=(λf=>rF.alloc f);obtain⟨t,f⟩:=M (qy c [] e h);have HP:=Z f;have g:(UZ c ⟨⟨l,e,h⟩,m,a,b,s⟩=(a==0&&b==0&&t)):=(by rw[f];rfl);clear f;by_cases i:a=0
 .have n:(a==0)=γ:=sU i
  by_cases k:b=0
  .have o:(b==0)=γ:=sU k
   delta dr aQ;go_in
   go_wp2_with fail;refine sg (nA c [] _ _ e h _ (p.fr (d _)).h dJ) ?_;rintro c e ⟨rfl,r⟩;rw[<-HP.1];go_wp2;go_ret;exact aM (by rw[g,n,o];simp) ((d _).step r)
  have b:(b==0)=δ:=sU k
  delta dr aQ;go_in
  go_wp2;go_ret;exact aM (by rw[g,b];simp) (d _)
 have a:(a==0)=δ:=sU i
 delta dr aQ;go_in
 go_wp2;go_ret;exact aM (by rw[g,a];simp) (d _)
theorem Xi(b:Hs)(b1:T)(b0:L Fc)(h:Fc)(X a1 a0:ζ)(k:ε)(A:Fu k b b0 h X a1 a0):
  dr 286 #[DO b1 h X a1 a0] k (.bool (Mh b h)):=by
 obtain⟨⟨g,d,f⟩,Q,a,e,R⟩:=h;have B:=Z A;unfold DO;simp only;have m:N (∀h,Fr j k (k.alloc h)):=Z (λh=>rF.alloc h);obtain⟨h,P,a9⟩:=A.h;simp only[ku,kI,iY,gT] at P;subst P;obtain⟨b3,F,W,a5,rfl,a8,b5,U⟩:=a9;generalize h:b.length=i at a8 B |-;have HLN:=Z h;have n:N (Mh b ⟨⟨g,d,f⟩,Q,a,e,R⟩=(e==0&&a !=d&&kN b a&&(tx b a).r.contains ⟨g,f⟩&&qy b [] d a)):=Z Y;clear h;by_cases p:e=0
 .have a2:(e !=0)=δ:=by simp[p]
  have t:((e==0)=γ):=(sU p);by_cases h:a=d
  .have A:(a==d)=γ:=sU h
   have r:((a !=d)=δ):=(by simp[h])
   delta dr aQ;go_in
   go_wp2;go_ret;exact aM (by rw[n.1,r];simp) (m.1 _)
  have A:(a==d)=δ:=sU h;have r:((a !=d)=γ):=(sU h);by_cases h:a<0
  .have A:decide (a<0)=γ:=cD h
   have P:(kN b a=δ):=(by unfold kN;rw[bV (show ¬0<=a by omega)];rfl)
   delta dr aQ;go_in
   go_wp2;go_ret;exact aM (by rw[n.1,P];simp) (m.1 _)
  have A:decide (a<0)=δ:=bV h;by_cases v:(i:T)<=a
  .have a3:decide ((i:T)<=a)=γ:=cD v
   have u:N (kN b a=δ):=Z (by unfold kN;rw[bV (show ¬a<(b.length:T) by have:=HLN.1;omega)];simp);clear h v
   delta dr aQ;go_in
   go_wp2;go_ret;exact aM (by rw[n.1,u.1];simp) (m.1 _)
  obtain⟨c,rfl⟩:∃c:E,a=(c:T):=⟨a.toNat,O⟩;have a3:decide ((i:T)<=(c:T))=δ:=bV v;have a:decide (i<=c)=δ:=sO;have a:(0:T)<=(c:T):=O;have h:(c:T)<(i:T):=O;have u:(kN b (c:T)=γ):=(by unfold kN;rw[cD a,cD (show(c:T)<(b.length:T) by have:=HLN.1;omega)];rfl);obtain⟨s,y⟩:=gE b c jE;obtain rfl:=U.addr y;obtain⟨z,w⟩:=M (s.r.contains (⟨g,f⟩:Tk));obtain⟨q,x⟩:=M (qy b [] d (c:T));have C:(Mh b ⟨⟨g,d,f⟩,Q,(c:T),e,R⟩=(z&&q)):=(by rw[n.1,t,r,u,iJ y,w,x];simp);obtain⟨v,u,a,h,a6,r,V⟩:=U.tn y;have a4:=Z V;obtain⟨D,b4,b6,G,rfl,-,-,-⟩:=V;have⟨HP,HQ⟩:=bD w x;clear w x
  delta dr aQ;go_in
  go_wp2_with fail;refine cT (λh v=> ?_);obtain⟨r,u⟩:=M k.heap.size;try rw[<-u]
  have l:N (Fr j k h):=Z (by rw[v];exact m.1 _);have k:=dL v u;have w:∀a:aX h,a.w.cell? (H r 0)=S (.slice (S (H F W)) i a5):=aX.cell (aj k.1 0);have i:∀a:aX h,a.w.cell? (H r 3)=S (I g):=aX.cell (aj k.1 3);have i:∀a:aX h,a.w.cell? (H r 5)=S (I f):=aX.cell (aj k.1 5);have i:∀a:aX h,a.w.cell? (H r 7)=S (I c):=aX.cell (aj k.1 7);have i:∀a:aX h,a.w.cell? (H F (W+c*3+2))=S (.slice D s.r.length G):=aX.cell (l.1.aF a6 id);have i:N (∀a:aX h,aQ 309 #[.slice D s.r.length G,.agg #[I g,I f]] a.w λK h=>K=.returned (.bool z)/\Fr j a.w h):=Z (λa=>by rw[HP.1];exact yh _ s.r ⟨g,f⟩ a.w ((a4.1.f l.1).f a.fr));clear v u;refine bj kR kR ?_;repeat(go_big_quiet_step ((go_at_call 309;exact aX.call _ (i.1 _))))
  refine wpQuiet_nil ?_;intro b2 f;have o:=(bI f);have a:=o.hs k.1;have g:=bx a;have g:=xW a;have g:=Ep a;clear f;cases z
  .go_wp2
   go_ret;exact aM (by rw[C];simp) (l.1.step o)
  go_wp2_with fail;refine sg (nA b [] _ _ d (c:T) b2 ((B.1.fr l.1).fr o).h dJ) ?_;rintro K a ⟨rfl,a7⟩;rw[<-HQ.1];go_wp2;go_ret;exact aM (by rw[C];simp) ((l.1.step o).step a7)
 have a2:(e !=0)=γ:=sU p;have t:((e==0)=δ):=(sU p)
 delta dr aQ;go_in
 go_wp2;go_ret;exact aM (by rw[n.1,t];simp) (m.1 _)
theorem Bs(a:L Fc):(fe a).length=a.length:=by simp[fe]
theorem FrS.back(a:Fr (λb=>W.heap.size<=b) W V):Fr j W V:=a.mono (λb a c=>by omega)
theorem Qm(a:cC m t n1 C W x X L1)(b:q<=m):cC q t n1 C W x X L1:=
 ⟨kt a.row (λd c=>bX b (aW a.row c).1),a.len,a.each⟩
theorem Xw(x:Hs)(a0:T)(y:L Fc)(C:Fc)(b5 c4 c3:ζ)(b6:ε)(z:Fu b6 x y C b5 c4 c3)(a4:y.length<=fV):
  dr 287 #[DO a0 C b5 c4 c3] b6 (.bool (Rt x a0 y C)):=by
 obtain⟨⟨G,D,F⟩,b5,U,V,b3⟩:=C;have a1:=Z z;unfold DO;simp only;obtain⟨c3,c⟩:=M (xD x a0 (fe y++[⟨G,F,D⟩]) b3);have HP:=Z c;have b2:N (Rt x a0 y ⟨⟨G,D,F⟩,b5,U,V,b3⟩=(U==0&&V==0&&c3)):=Z (by rw[c];rfl);obtain⟨c7,d2,d3,c8,rfl,-,-,-⟩:=z.l;generalize z:y.length=K at a1 a4 |-;have⟨HM,b1⟩:=bD z a4;clear c z
 delta dr aQ;go_in
 go_wp2_with fail;refine cT (λc3 b5=> ?_);obtain⟨z,c⟩:=M b6.heap.size;try rw[<-c]
 have b7:=cY b5;have Q:=dL b5 c;clear b5 c;refine iR [2,16] [17] (Fr (λX=>c3.heap.size<=X)) [[],[0],[0,1],[],[3],[3,4],[3,4,5],[],[7],[7,8],[7,8,9],[],[11],[11,12],[11,12,13],[3,4,5,6,7,8,9,10,11,12,13,14],[3,4,5,6,7,8,9,10,11,12,13,14,15],[0,1,2,3,4,5,6,7,8,9,10,11,12,13,14,15,16],[0,1,3,4,5,6,7,8,9,10,11,12,13,14,15,17]] [.w1 0 (λc _=>c=aP z 2),.w1 1 (λc _=>c=.slice c7 K c8),.w1 2 (λc d=>∃a2 B A,c=.slice A K B/\cC c3.heap.size 144 3 CC d c (fe y) a2),.w1 3 (λc _=>c=aP z 3),.w1 4 (λc _=>c=aP z 3),.w1 5 (λc _=>c=aP z 3),.w1 6 (λc _=>c=I G),.w1 7 (λc _=>c=aP z 3),.w1 8 (λc _=>c=aP z 3),.w1 9 (λc _=>c=aP z 5),.w1 10 (λc _=>c=I F),.w1 11 (λc _=>c=aP z 3),.w1 12 (λc _=>c=aP z 3),.w1 13 (λc _=>c=aP z 4),.w1 14 (λc _=>c=I D),.w1 15 (λc _=>c=.agg #[I G,I F,I D]),.w1 16 (λc d=>∃a8,c=.slice (S (H a8 0)) 1 1/\aY d a8 #[I G,I F,I D] 144),.w1 17 (λc d=>∃B A,c=.slice A (K+1) B/\Sl 144 3 CC d c (fe y++[⟨G,F,D⟩])),.w1 18 (λc d=>∃B A,c=.slice A (K+1) B/\Sl 144 3 CC d c (fe y++[⟨G,F,D⟩]))] [[0],[1],[2],[3],[4],[5],[6],[7],[8],[9],[10],[11],[12],[13],[14],[15],[16],[17],[18]] kR kR kR kR Y (λ_ _ _ _ R x=>⟨R.symm.trans x.1,x.2⟩) (λ_ _ C=>C.mono (λ_ _ c=>c.elim)) (λ_ _ _ x X=>x.tr X) ?hstab ?hstabM ?walk
 case hstab=>exact Il
 case hstabM=>
  intro c c2;simp only[rB] at c2;subst c2;refine⟨?_,?_,?_,?_,?_,?_,?_,?_,?_,?_,?_,?_,?_,?_,?_,?_,?_,?_,?_,trivial⟩<;>first|exact wZ
 case walk=>
  intro c;obtain⟨s0,s1,s2,s3,s4,s5,s6,s7,s8,s9,s10,s11,s12,s13,s14,s15,s16,s17,s18,HS⟩:=adN c;refine⟨?_,?_,?_,?_,?_,?_,?_,?_,?_,?_,?_,?_,?_,?_,?_,?_,?_,?_,?_,?_⟩
  ·
   intro d e a m b;simp only[rY,ξ,HS] at b |-;go_simp;exact b _ _ rF Y
  ·
   intro d e a m b;have r:=a 0 J;simp only[rA,bG.at,HS] at r;simp only[rY,ξ,HS] at b |-;subst r;have c:=iU ((FrS.back e).hs Q.1);go_simp;exact b _ _ rF Y
  ·
   intro d e a m b;have r:=a 0 J;have v:=a 1 J;simp only[rA,bG.at,HS] at r v;simp only[rY,ξ,HS] at b |-;subst r v;go_simp;go_at_call 121;refine(eQ y _ d ((a1.1.fr b7).fr (FrS.back e)).l (by rw[HM.1];exact b1.1)).mono ?_;rintro R c6 ⟨c,a2,rfl,a5,d0⟩;obtain⟨A,B,c9,-,-⟩:=a5.shape (m:=K) (by rw[Bs,<-HM.1]);subst c9;exact b _ _ d0 ⟨a2,B,A,Y,Qm a5 e.size⟩
  ·
   intro d e a m b;simp only[rY,ξ,HS] at b |-;go_simp;exact b _ _ rF Y
  ·
   intro d e a m b;have g:=a 3 J;simp only[rA,bG.at,HS] at g;simp only[rY,ξ,HS] at b |-;subst g;go_simp;exact b _ _ rF Y
  ·
   intro d e a m b;have g:=a 3 J;have k:=a 4 J;simp only[rA,bG.at,HS] at g k;simp only[rY,ξ,HS] at b |-;subst g k;go_simp;exact b _ _ rF Y
  ·
   intro d e a m b;have g:=a 3 J;have k:=a 4 J;have o:=a 5 J;simp only[rA,bG.at,HS] at g k o;simp only[rY,ξ,HS] at b |-;subst g k o;have c:=iT ((FrS.back e).hs Q.1);go_simp;exact b _ _ rF Y
  ·
   intro d e a m b;simp only[rY,ξ,HS] at b |-;go_simp;exact b _ _ rF Y
  ·
   intro d e a m b;have h:=a 7 J;simp only[rA,bG.at,HS] at h;simp only[rY,ξ,HS] at b |-;subst h;go_simp;exact b _ _ rF Y
  ·
   intro d e a m b;have h:=a 7 J;have l:=a 8 J;simp only[rA,bG.at,HS] at h l;simp only[rY,ξ,HS] at b |-;subst h l;go_simp;exact b _ _ rF Y
  ·
   intro d e a m b;have h:=a 7 J;have l:=a 8 J;have p:=a 9 J;simp only[rA,bG.at,HS] at h l p;simp only[rY,ξ,HS] at b |-;subst h l p;have c:=BY ((FrS.back e).hs Q.1);go_simp;exact b _ _ rF Y
  ·
   intro d e a m b;simp only[rY,ξ,HS] at b |-;go_simp;exact b _ _ rF Y
  ·
   intro d e a m b;have f:=a 11 J;simp only[rA,bG.at,HS] at f;simp only[rY,ξ,HS] at b |-;subst f;go_simp;exact b _ _ rF Y
  ·
   intro d e a m b;have f:=a 11 J;have i:=a 12 J;simp only[rA,bG.at,HS] at f i;simp only[rY,ξ,HS] at b |-;subst f i;go_simp;exact b _ _ rF Y
  ·
   intro d e a m b;have f:=a 11 J;have i:=a 12 J;have n:=a 13 J;simp only[rA,bG.at,HS] at f i n;simp only[rY,ξ,HS] at b |-;subst f i n;have c:=xW ((FrS.back e).hs Q.1);go_simp;exact b _ _ rF Y
  ·
   intro d e a m b;have g:=a 3 J;have k:=a 4 J;have o:=a 5 J;have u:=a 6 J;have h:=a 7 J;have l:=a 8 J;have p:=a 9 J;have s:=a 10 J;have f:=a 11 J;have i:=a 12 J;have n:=a 13 J;have t:=a 14 J;simp only[rA,bG.at,HS] at g k o u h l p s f i n t;simp only[rY,ξ,HS] at b |-;subst g k o u h l p s f i n t;go_simp;exact b _ _ rF Y
  ·
   intro d e a m b;have g:=a 3 J;have k:=a 4 J;have o:=a 5 J;have u:=a 6 J;have h:=a 7 J;have l:=a 8 J;have p:=a 9 J;have s:=a 10 J;have f:=a 11 J;have i:=a 12 J;have n:=a 13 J;have t:=a 14 J;have w:=a 15 J;simp only[rA,bG.at,HS] at g k o u h l p s f i n t w;simp only[rY,ξ,HS] at b |-;subst g k o u h l p s f i n t w;go_simp;exact b _ _ cZ ⟨_,Y,bM Y⟩
  ·
   (intro d e a m b;have r:=a 0 J;have v:=a 1 J;have c1:=a 2 J;have g:=a 3 J;have k:=a 4 J;have o:=a 5 J;have u:=a 6 J;have h:=a 7 J;have l:=a 8 J;have p:=a 9 J;have s:=a 10 J;have f:=a 11 J;have i:=a 12 J;have n:=a 13 J;have t:=a 14 J;have w:=a 15 J;have b9:=a 16 J;simp only[rA,bG.at,HS] at r v c1 g k o u h l p s f i n t w b9;simp only[rY,ξ,HS] at b |-;subst r v g k o u h l p s f i n t w;obtain⟨a2,B,A,rfl,a5⟩:=c1;obtain⟨a8,rfl,a4⟩:=b9;have c:(K+1)*24<=140737488355328:=by have:=b1.1;unfold fV at this;omega);(have y:K+1<=maxLen:=by have:=b1.1;unfold fV at this;simp only[maxLen];omega);rw[aS fX];refine pM fX (.tmp 6) (.tmp 20) fX lD K (by rw[Bs,<-HM.1]) fX a5 (Pl.aJ eM (λ_=>False)) id (⟨G,F,D⟩:Ch) fX Y (eF.block a4 oC) (λ_ _=>Y) c y e.size ?_;intro z b8 y c5 c _ _;refine b _ _ (c.1.mono (λX _ R=>c.2 X R)) ⟨_,_,Y,?_⟩;exact c5.read
  ·
   intro d e a m b;have r:=a 0 J;have v:=a 1 J;have g:=a 3 J;have k:=a 4 J;have o:=a 5 J;have u:=a 6 J;have h:=a 7 J;have l:=a 8 J;have p:=a 9 J;have s:=a 10 J;have f:=a 11 J;have i:=a 12 J;have n:=a 13 J;have t:=a 14 J;have w:=a 15 J;have W:=a 17 J;simp only[rA,bG.at,HS] at r v g k o u h l p s f i n t w W;simp only[rY,ξ,HS] at b |-;subst r v g k o u h l p s f i n t w;go_simp;exact b _ _ rF W
  intro d e a;have r:=a 0 J J;have v:=a 1 J J;have g:=a 3 J J;have k:=a 4 J J;have o:=a 5 J J;have u:=a 6 J J;have h:=a 7 J J;have l:=a 8 J J;have p:=a 9 J J;have s:=a 10 J J;have f:=a 11 J J;have i:=a 12 J J;have n:=a 13 J J;have t:=a 14 J J;have w:=a 15 J J;have W:=a 17 J J;have c0:=a 18 J J;simp only[rA,bG.at,HS] at r v g k o u h l p s f i n t w W c0;simp only[Act.put,rC,HS];subst r v g k o u h l p s f i n t w;obtain⟨B,A,rfl,d1⟩:=c0;have⟨b,P⟩:=bD d1 (b7.step (FrS.back e));have a:=(FrS.back e).hs Q.1;have c:=bx a;have f:=dh a;have b8:=Ep a;have g:=Tg a;have h:=oc9 a;clear e W;by_cases b4:U=0
  .have a6:(U==0)=γ:=sU b4
   have a9:=Z a6;clear b4;by_cases a3:V=0
   .have a7:(V==0)=γ:=sU a3
    have b0:=Z a7;clear a3;go_wp2_with fail;clear c f b8 g h;refine sg (zQ x a0 _ b3 _ _ _ d (a1.1.fr P.1).h b.1 (a1.1.fr P.1).c) ?_;rintro R c6 ⟨rfl,C⟩;rw[<-HP.1];have a:=Z (P.1.step C);clear C;go_wp2;go_ret;exact aM (by rw[b2.1,a9.1,b0.1];simp) a.1
   have a7:(V==0)=δ:=sU a3;have b0:=Z a7;clear a3;go_wp2;go_ret;exact aM (by rw[b2.1,b0.1];simp) P.1
  have a6:(U==0)=δ:=sU b4;have a9:=Z a6;go_wp2;go_ret;exact aM (by rw[b2.1,a9.1];simp) P.1
theorem abA{b:Fc}{a c:Fc}(f:F[m]? =S a)(g:F[q]? =S c)(d:b.i=(m:T))(e:b.j=(q:T)):yM F b=(a.c.b==c.c.a&&a.c.k==c.c.k&&b.c==⟨a.c.k,a.c.a,c.c.b⟩):=by
 unfold yM;rw[d,e];simp only[gu,f,g];simp
theorem abZ{a:Fc}(e:a.i<0\/a.j<0\/(F.length:T)<=a.i\/(F.length:T)<=a.j):yM F a=δ:=by
 unfold yM;split
 .rename_i h i c d
  have f:=(cj.1 c).1;have g:=(cj.1 d).1;by_cases b:0<=a.i
  .rw[bV (show ¬0<=a.j by omega)];simp
  rw[bV b];simp
 rfl
theorem Xg(U:Hs)(a1:T)(f:L Fc)(u:Fc)(K Q P:ζ)(h:ε)(b:Fu h U f u K Q P):
  dr 285 #[DO a1 u K Q P] h (.bool (yM f u)):=by
 obtain⟨⟨o,m,n⟩,F,a,e,G⟩:=u;have HL:=b.l;unfold DO;simp only;have w:∀c,Fr j h (h.alloc c):=(λc=>rF.alloc c);obtain⟨a2,a3,a4,R,rfl,V,W,-⟩:=b.l;generalize u:f.length=l at HL V |-;have k:(a<0\/e<0\/(l:T)<=a\/(l:T)<=e)->yM f ⟨⟨o,m,n⟩,F,a,e,G⟩=δ:=(λc=>abZ (by rw[u];exact c));unfold maxLen at W;clear b;by_cases d:min a e<0
 .have b:=cD d
  have RT:=(k O);clear d
  delta dr aQ;go_in
  go_wp2;go_ret;exact aM (by rw[RT]) (w _)
 have u:=bV d;by_cases g:(l:T)<=max a e
 .have b:=cD g
  have RT:=(k O);clear g d
  delta dr aQ;go_in
  go_wp2;go_ret;exact aM (by rw[RT]) (w _)
 have u:=bV g;obtain⟨b,X⟩:∃c:E,a=(c:T):=⟨a.toNat,O⟩;obtain⟨c,a0⟩:∃a:E,e=(a:T):=⟨e.toNat,O⟩;subst X a0;have a:(0:T)<=(b:T):=O;have a:(b:T)<(l:T):=O;have a:(0:T)<=(c:T):=O;have a:(c:T)<(l:T):=O;obtain⟨⟨⟨i,z,r⟩,a,e,u,K⟩,x⟩:∃a,f[b]? =S a:=⟨_,cF O⟩;obtain⟨⟨⟨t,s,A⟩,a,e,u,K⟩,C⟩:∃a,f[c]? =S a:=⟨_,cF O⟩;have y:yM f ⟨⟨o,m,n⟩,F,(b:T),(c:T),G⟩=(r==s&&i==t&&((⟨o,m,n⟩:Ch)==⟨i,z,A⟩)):=(abA x C Y Y);clear g d k
 delta dr aQ;go_in
 go_wp2_with fail;refine cT (λp d=> ?_);obtain⟨q,a⟩:=M h.heap.size;try rw[<-a]
 have B:Fr j h p:=(by rw[d];exact w _);have k:=dL d a;clear d a;obtain⟨a,d,g,e,D,-,-,v⟩:=HL.f B;simp only[cM] at D;obtain⟨rfl,-,rfl⟩:=D;obtain rfl:=v.addr x;obtain⟨_,e,f,u,-,-,-,-,-⟩:=v.fc x;obtain⟨_,w,x,C,-,-,-,-,-⟩:=v.fc C;simp only at e f u w x C;have D:=iU k.1;have F:=Ep k.1;have G:=Tg k.1;have a:∀a K,((p.alloc a).alloc K).cell? (H q 3)=S (I o):=λa K=>aj (aC (aC k.1 a) K) 3;have a:∀a K,((p.alloc a).alloc K).cell? (H q 4)=S (I m):=λa K=>aj (aC (aC k.1 a) K) 4;have a:∀a K,((p.alloc a).alloc K).cell? (H q 5)=S (I n):=λa K=>aj (aC (aC k.1 a) K) 5;have a:=λa=>qY a ⟨o,m,n⟩ ⟨i,z,A⟩;simp only at a;clear v;have a:=Dm;go_region_held3 (λa=>a.cell? (H q 2)=S (.slice (S (H d g)) l R)/\a.cell? (H q 7)=S (I b)/\a.cell? (H q 8)=S (I c)/\
  a.cell? (H d (g+b*7))=S (I i)/\a.cell? (H d (g+b*7+1))=S (I z)/\a.cell? (H d (g+b*7+2))=S (I r)/\
  a.cell? (H d (g+c*7))=S (I t)/\a.cell? (H d (g+c*7+1))=S (I s)/\a.cell? (H d (g+c*7+2))=S (I A)) (go_keep) ((fail))
 all_goals
  clear D F G e f u w x C;have c:∀a b,Fr j h ((p.alloc a).alloc b).drew:=(λa b=>((B.alloc a).alloc b).drew);by_cases a:r=s
  .have b:(r==s)=γ:=sU a
   have e:=b;clear a;by_cases b:i=t
   .have d:(i==t)=γ:=sU b
    have d:=d;clear b;go_wp2;go_ret;exact aM (by rw[y,e,d];simp) (c _ _)
   have d:(i==t)=δ:=sU b;have d:=d;clear b;go_wp2;go_ret;exact aM (by rw[y,d];simp) (c _ _)
  have b:(r==s)=δ:=sU a;have b:=b;clear a;go_wp2;go_ret;exact aM (by rw[y,b];simp) (c _ _)
def Xb:θ ζ:=#[I 1,.func (.func 284) #[] #[],I 2,.func (.func 285) #[] #[],I 3,.func (.func 286) #[] #[],I 4,.func (.func 287) #[] #[]]
theorem jM(a:ε):aQ 227 #[] a λc b=>c=.returned (.slice (S (H a.heap.size 0)) 4 4)/\b=a.alloc (.cells Xb 379):=by
 delta aQ;go_in
 go_wp2;go_ret;exact⟨Y,Y⟩
theorem aaI{h:Hs}{lev:T}{l:L Fc}{f:Fc}(a:(bm h&&ep lev)=δ\/dA h f.c=δ\/(f.kind !=4&&decide (0<f.cy.length))=γ):oZ h lev l f=δ:=by
 unfold oZ;rcases a with h|h|h
 .rw[h];rfl
 .rw[h];simp
 rw[h];simp
theorem Ye{h:Hs}{lev:T}{l:L Fc}{f:Fc}(a:(bm h&&ep lev)=γ)(b:dA h f.c=γ)(c:(f.kind !=4&&decide (0<f.cy.length))=δ):
  oZ h lev l f=(if f.kind=1 then UZ h f else if f.kind=2 then yM l f else if f.kind=3 then Mh h f else if f.kind=4 then Rt h lev l f else δ):=by
 unfold oZ;rw[a,b,c];rfl
theorem pH(c:Hs)(f:T)(e:L Fc)(i:Fc)(a8 b0 a9:ζ)(r:ε)(a2:eJ r a8 c)(a7:Sl 276 7 CF r b0 e)(a1:Sl 3 1 CI r a9 i.cy)(b:e.length<=fV):
  dr 179 #[a8,I f,b0,Qd i a9] r (.bool (oZ c f e i)):=by
 have m:=a2;have HL:=a7;have s:=a1;have b4:=b;obtain⟨G,rfl,-⟩:=a2;obtain⟨u,bc,b9,x,rfl,-,-,-⟩:=a1;obtain⟨B,b8,c0,C,rfl,-,-,-⟩:=a7;generalize l:e.length=F at HL |-;generalize d:i.cy.length=h at s |-;have⟨V,a,A⟩:=dt d (aaI (h:=c) (lev:=f) (l:=e) (f:=i)) (Ye (h:=c) (lev:=f) (l:=e) (f:=i));obtain⟨b5,g⟩:=M (bm c&&ep f);obtain⟨b6,k⟩:=M (dA c i.c);have⟨P,Q⟩:=bD g k;clear d l b g k;obtain⟨⟨p,n,o⟩,b,y,z,D⟩:=i;unfold Qd;simp only
 delta dr aQ;go_in
 go_wp2_with fail;refine aZ.nm (λa1 d=> ?_);obtain⟨i,g⟩:=M r.heap.size;try rw[<-g]
 obtain⟨r,i⟩:=M (i+1);try rw[<-i]
 have U:=lq d;have k:=uV d g;have l:N (aY a1 r #[I p,I n,I o,I b,I y,I z,.slice u h x] 276):=Z (by rw[d];exact bM sO);clear d g i;refine sg (Lt c f _ a1 (m.fr U)) ?_;rintro i b7 ⟨rfl,d⟩;rw[<-P.1];have K:=(U.step d);have⟨v,w⟩:=bD (d.hs k.1) (d.hs l.1);clear d k l;cases b5 with
 |false=>
  have RT:=Z (a.1 (.inl P.1.symm));go_wp2;go_ret;exact aM RT.1.symm K
 |true=>
 have d:=bx v.1;obtain⟨g,i,k,-⟩:=mD w.1;go_wp2_with fail;clear d g i k;refine sg (De c ⟨p,n,o⟩ _ b7 (m.fr K)) ?_;rintro i g ⟨rfl,d⟩;rw[<-Q.1];have k:=(K.step d);have⟨t,l⟩:=bD (d.hs v.1) (d.hs w.1);clear d v w;cases b6 with
 |false=>
  have RT:=Z (a.1 (.inr (.inl Q.1.symm)));go_wp2;go_ret;exact aM RT.1.symm k
 |true=>
 have v:=iT l.1;have w:=Bl l.1;by_cases i:b≠4/\0<h
 .have d:(b !=4)=γ:=sU i.1
  have r:decide (0<h)=γ:=sO;have RT:=Z (a.1 (.inr (.inr (by rw[d,V.1];simpa using i.2))));clear i;go_wp2;go_ret;exact aM RT.1.symm k
 have RT:=Z (A.1 P.1.symm Q.1.symm (by
  try simp only
  by_cases d:b=4
  .simp[d]
  have:¬0<h:=λr=>i ⟨d,r⟩;rw[V.1,bV this];simp))
 clear a A;try simp only at RT
 by_cases a3:b=1
 .subst a3
  have a:((1:T) !=4)=γ:=Y;obtain rfl:h=0:=O;go_wp2_with fail;clear v w a;refine sg (jM g) ?_;rintro a i ⟨rfl,A⟩;obtain⟨a,i⟩:=M g.heap.size;rw[<-i];have r:=dL A i;have d:=cY A;have K:=(k.step d);have⟨P,a⟩:=bD (d.hs t.1) (d.hs l.1);clear A i d;go_wp2_with fail;refine eE 1 ?_;rw[bN];have i:=bx r.1;have r:=dh r.1;have P:=λd=>bx (aC P.1 d);have Q:=λd=>bx (aC a.1 d);have R:=λd=>dh (aC a.1 d);have U:=λd=>iU (aC a.1 d);have V:=λd=>iT (aC a.1 d);have W:=λd=>xW (aC a.1 d);have X:=λd=>BY (aC a.1 d);have a:=λd=>Bl (aC a.1 d);go_wp2_with fail;refine aZ.nm (λA d=> ?_);have A:=Z (K.step (cY d));clear d i r P Q R U V W X a;refine sg (Yr c f e ⟨⟨p,n,o⟩,1,y,z,D⟩ G (.slice B F C) (.slice u 0 x) _ ?ask) ?_
  case ask=>exact⟨m.fr A.1,HL.f A.1,s.f A.1⟩
  rintro a i ⟨rfl,R⟩;have a:=(A.1.step R);clear R;go_wp2;go_ret;exact aM (by rw[RT.1];try simp) a
 have W:=Z a3;by_cases a4:b=2
 .subst a4
  have X:N (((1:T)==2)=δ):=Z J;have a:((2:T) !=4)=γ:=Y;obtain rfl:h=0:=O;go_wp2_with fail;clear v w a;refine sg (jM g) ?_;rintro i r ⟨rfl,A⟩;obtain⟨i,r⟩:=M g.heap.size;rw[<-r];have i:=dL A r;have a:=cY A;have P:=(k.step a);have⟨Q,K⟩:=bD (a.hs t.1) (a.hs l.1);clear A r a;go_wp2_with fail;refine eE 2 ?_;rw[bN];have A:=bx i.1;have R:=dh i.1;have V:=λa=>iT (aC K.1 a);have U:=X.1;go_wp2;refine Tb (λr a=> ?_);have r:=cY a;have P:=(P.step r);have⟨K,Q,i⟩:=dt (r.hs i.1) (r.hs Q.1) (r.hs K.1);clear A R V U a r;rw[bN];have r:=iU K.1;have K:=iT K.1;have Q:=λA=>bx (aC Q.1 A);have R:=λA=>bx (aC i.1 A);have U:=λA=>dh (aC i.1 A);have V:=λA=>iU (aC i.1 A);have X:=λA=>iT (aC i.1 A);have a0:=λA=>xW (aC i.1 A);have a1:=λA=>BY (aC i.1 A);have i:=λA=>Bl (aC i.1 A);go_wp2_with fail;refine aZ.nm (λA d=> ?_);have A:=Z (P.step (cY d));clear d r K Q R U V X a0 a1 i;refine sg (Xg c f e ⟨⟨p,n,o⟩,2,y,z,D⟩ G (.slice B F C) (.slice u 0 x) _ ?ask) ?_
  case ask=>exact⟨m.fr A.1,HL.f A.1,s.f A.1⟩
  rintro i r ⟨rfl,R⟩;have i:=(A.1.step R);clear R;go_wp2;go_ret;exact aM (by rw[RT.1];try simp) i
 have X:=Z a4;by_cases a5:b=3
 .subst a5
  have a0:N (((1:T)==3)=δ):=Z J;have a6:N (((2:T)==3)=δ):=Z J;have A:((3:T) !=4)=γ:=Y;obtain rfl:h=0:=O;go_wp2_with fail;clear v w A;refine sg (jM g) ?_;rintro i r ⟨rfl,R⟩;obtain⟨i,A⟩:=M g.heap.size;rw[<-A];have r:=dL R A;have i:=cY R;have P:=(k.step i);have⟨U,K⟩:=bD (i.hs t.1) (i.hs l.1);clear R A i;go_wp2_with fail;refine eE 3 ?_;rw[bN];have A:=bx r.1;have R:=dh r.1;have a1:=λi=>iT (aC K.1 i);have V:=a0.1;go_wp2;refine Tb (λi a=> ?_);have i:=cY a;have Q:=(P.step i);have⟨K,U,P⟩:=dt (i.hs r.1) (i.hs U.1) (i.hs K.1);clear A R a1 V a i;rw[bN];have A:=iU K.1;have R:=iT K.1;have a0:=λi=>iT (aC P.1 i);have V:=a6.1;go_wp2;refine Tb (λi a=> ?_);have r:=cY a;have Q:=(Q.step r);have⟨K,P,i⟩:=dt (r.hs K.1) (r.hs U.1) (r.hs P.1);clear A R a0 V a r;rw[bN];have r:=xW K.1;have K:=BY K.1;have P:=λA=>bx (aC P.1 A);have R:=λA=>bx (aC i.1 A);have U:=λA=>dh (aC i.1 A);have V:=λA=>iU (aC i.1 A);have a0:=λA=>iT (aC i.1 A);have a1:=λA=>xW (aC i.1 A);have a2:=λA=>BY (aC i.1 A);have i:=λA=>Bl (aC i.1 A);go_wp2_with fail;refine aZ.nm (λA d=> ?_);have A:=Z (Q.step (cY d));clear d r K P R U V a0 a1 a2 i;refine sg (Xi c f e ⟨⟨p,n,o⟩,3,y,z,D⟩ G (.slice B F C) (.slice u 0 x) _ ?ask) ?_
  case ask=>exact⟨m.fr A.1,HL.f A.1,s.f A.1⟩
  rintro i r ⟨rfl,R⟩;have i:=(A.1.step R);clear R;go_wp2;go_ret;exact aM (by rw[RT.1];try simp) i
 have a0:=Z a5;by_cases a6:b=4
 .subst a6
  have b1:N (((1:T)==4)=δ):=Z J;have b2:N (((2:T)==4)=δ):=Z J;have b3:N (((3:T)==4)=δ):=Z J;have i:((4:T) !=4)=δ:=Y;go_wp2_with fail;clear v w i;refine sg (jM g) ?_;rintro i r ⟨rfl,R⟩;obtain⟨i,A⟩:=M g.heap.size;rw[<-A];have r:=dL R A;have i:=cY R;have P:=(k.step i);have⟨Q,K⟩:=bD (i.hs t.1) (i.hs l.1);clear R A i;go_wp2_with fail;refine eE 4 ?_;rw[bN];have A:=bx r.1;have U:=dh r.1;have a1:=λi=>iT (aC K.1 i);have V:=b1.1;go_wp2;refine Tb (λi a=> ?_);have i:=cY a;have P:=(P.step i);have⟨r,R,K⟩:=dt (i.hs r.1) (i.hs Q.1) (i.hs K.1);clear A U a1 V a i;rw[bN];have A:=iU r.1;have U:=iT r.1;have a1:=λi=>iT (aC K.1 i);have V:=b2.1;go_wp2;refine Tb (λi a=> ?_);have i:=cY a;have Q:=(P.step i);have⟨K,R,P⟩:=dt (i.hs r.1) (i.hs R.1) (i.hs K.1);clear A U a1 V a i;rw[bN];have A:=xW K.1;have U:=BY K.1;have a1:=λi=>iT (aC P.1 i);have V:=b3.1;go_wp2;refine Tb (λi a=> ?_);have r:=cY a;have Q:=(Q.step r);have⟨K,P,i⟩:=dt (r.hs K.1) (r.hs R.1) (r.hs P.1);clear A U a1 V a r;rw[bN];have r:=Bl K.1;have K:=Ep K.1;have P:=λA=>bx (aC P.1 A);have R:=λA=>bx (aC i.1 A);have U:=λA=>dh (aC i.1 A);have V:=λA=>iU (aC i.1 A);have a1:=λA=>iT (aC i.1 A);have a2:=λA=>xW (aC i.1 A);have a3:=λA=>BY (aC i.1 A);have i:=λA=>Bl (aC i.1 A);go_wp2_with fail;refine aZ.nm (λA d=> ?_);have A:=Z (Q.step (cY d));clear d r K P R U V a1 a2 a3 i;refine sg (Xw c f e ⟨⟨p,n,o⟩,4,y,z,D⟩ G (.slice B F C) (.slice u h x) _ ?ask b4) ?_
  case ask=>exact⟨m.fr A.1,HL.f A.1,s.f A.1⟩
  rintro c e ⟨rfl,d⟩;have c:=(A.1.step d);clear d;go_wp2;go_ret;exact aM (by rw[RT.1];try simp) c
 have d:=Z a6;have A:N (((1:T)==b)=δ):=Z (by have:=W.1;simp;omega);have R:N (((2:T)==b)=δ):=Z (by have:=X.1;simp;omega);have b1:N (((3:T)==b)=δ):=Z (by have:=a0.1;simp;omega);have b2:N (((4:T)==b)=δ):=Z (by have:=d.1;simp;omega);have b3:(b !=4)=γ:=sU d.1;obtain rfl:h=0:=oB d.1;go_wp2_with fail;clear v w b3;refine sg (jM g) ?_;rintro b c ⟨rfl,v⟩;obtain⟨b,e⟩:=M g.heap.size;rw[<-e];have c:=dL v e;have b:=cY v;have g:=(k.step b);have⟨h,f⟩:=bD (b.hs t.1) (b.hs l.1);clear v e b;go_wp2_with fail;refine eE 5 ?_;rw[bN];have i:=bx c.1;have k:=dh c.1;have m:=λb=>iT (aC f.1 b);have l:=A.1;go_wp2;refine Tb (λb a=> ?_);have b:=cY a;have g:=(g.step b);have⟨c,h,e⟩:=dt (b.hs c.1) (b.hs h.1) (b.hs f.1);clear i k m l a b;rw[bN];have i:=iU c.1;have k:=iT c.1;have m:=λb=>iT (aC e.1 b);have l:=R.1;go_wp2;refine Tb (λb a=> ?_);have b:=cY a;have f:=(g.step b);have⟨c,g,e⟩:=dt (b.hs c.1) (b.hs h.1) (b.hs e.1);clear i k m l a b;rw[bN];have h:=xW c.1;have i:=BY c.1;have l:=λb=>iT (aC e.1 b);have k:=b1.1;go_wp2;refine Tb (λb a=> ?_);have b:=cY a;have f:=(f.step b);have⟨c,g,e⟩:=dt (b.hs c.1) (b.hs g.1) (b.hs e.1);clear h i l k a b;rw[bN];have g:=Bl c.1;have h:=Ep c.1;have i:=λb=>iT (aC e.1 b);have e:=b2.1;go_wp2;refine Tb (λb a=> ?_);have b:=cY a;have c:=(f.step b);clear g h i e a b;rw[bN];go_wp2;go_ret;exact aM (by rw[RT.1,aR W.1,aR X.1,aR a0.1,aR d.1]) c
theorem qU(c:Hs)(b:T)(a:L Fc)(D F:ζ)(k:ε)(y:eJ k D c)(z:Sl 276 7 CF k F a)(Q:a.length<=fV):
  dr 166 #[D,I b,F] k (.bool (iu c b a)):=by
 have o:=y;have HL:=z;have D:=Q;obtain⟨C,rfl,-⟩:=y;obtain⟨W,X,a1,v,rfl,R,U,-⟩:=z;generalize d:a.length=f at R HL |-;have HN:=Z d;unfold maxLen at U;clear d
 delta dr aQ;go_in
 go_wp2_with fail;refine cT (λy e=> ?_);obtain⟨q,d⟩:=M k.heap.size;try rw[<-d]
 have h:=cY e;have r:=dL e d;clear e d;go_loopg [11] f (λgk s11 wr=>∃d:E,d+gk=f/\s11=I d/\jN c b (a.take d) (a.drop d)=jN c b [] a/\Fr j y wr)
 .exact⟨0,du,Y,sI,rF⟩
 case round=>
  obtain⟨d,HJ,rfl,B,g⟩:=hrel;have k:d<=f:=O;by_cases k:d<f
  .obtain⟨e,i⟩:=gE a d fU
   obtain⟨k,K,V,y,u,-,-,x⟩:=(HL.f h).f g;simp only[cM] at u;obtain⟨rfl,-,rfl⟩:=u;obtain rfl:=x.addr i;obtain⟨F,k,u,x,y,z,D,P,A⟩:=x.fc i;have p:=A;obtain⟨s,bc,a0,t,rfl,-,-,-⟩:=A;generalize l:e.cy.length=u at p P;obtain⟨m,k⟩:=M (oZ c b (a.take d) e);have HP:=Z k;have n:(jN c b [] a=(m&&jN c b (a.take (d+1)) (a.drop (d+1)))):=(by
    rw[<-B,dG i,jN,k,L.take_add_one,i];rfl)
   have⟨f,i⟩:=dy d f;have f:(d:T)<=(v:T):=O;clear k l;go_wp2_with fail;refine cT (λG l=> ?_);obtain⟨f,k⟩:=M wr.heap.size;rw[<-k];have i:=cY l;have f:=dL l k;clear l k;have k:=aX.cell (aj (i.hs (g.aB r.1 id)) 0);have k:=aX.cell (aj f.1 0);have k:=aX.cell (aj f.1 1);have k:=aX.cell (aj f.1 2);have k:=aX.cell (aj f.1 3);have k:=aX.cell (aj f.1 4);have k:=aX.cell (aj f.1 5);have f:=aX.cell (aj f.1 6);have l:=(g.step i);have e:(∀f:aX G,aQ 179 #[.agg #[C],I b,.slice (S (H K V)) d v,.agg #[I e.c.k,I e.c.a,I e.c.b,I e.kind,I e.i,I e.j,.slice s u t]] f.w λv k=>v=.returned (.bool m)/\Fr j f.w k):=(λf=>by
    rw[HP.1];have k:=h.step (l.step f.fr);refine pH c b (a.take d) e (.agg #[C]) _ (.slice s u t) f.w (o.fr k) ((HL.f k).take fU) ((p.f i).f f.fr) ?_;rw[cV];omega)
   refine bj kR kR ?_;(repeat(go_big_quiet_step ((go_at_call 179;exact aX.call _ (e _)))));refine wpQuiet_nil ?_;intro f e;have w:=(bI e);clear e;cases m
   .go_wp2
    go_ret;exact aM (by unfold iu;rw[n];rfl) (h.step (l.step w))
   go_wp2;go_roundg (gk-1)
   .exact⟨d+1,O,by go_num,by rw[n];rfl,l.step w⟩
   omega
  have RT:(iu c b a=(bm c&&ep b)):=(by
   unfold iu;rw[<-B,dY fU];rfl)
  have a:=bx (g.hs r.1);go_wp2_with fail;refine sg (Lt c b _ wr ((o.fr h).fr g)) ?_;rintro a G ⟨rfl,e⟩;go_wp2;go_ret;exact aM RT.symm ((h.step g).step e)
theorem AD:(prog.info? 146).map (λa=>(a.zero,a.size,a.bytes))=S (S (.agg #[aI,aI,aI,aV]),4,48):=kR
theorem sC:dK prog 32 146 4 48:=dK.of (z:=.agg #[aI,aI,aI,aV]) underlying32 AD Y J
def CY:E:=71
theorem Xk{b:Exit}(c:∀a,a=W->Q b a1 a):Q b a1 W:=c W Y
theorem MG{a:Hs}(g:a.length<=64)(f:Lc a i1 K W e2 V):(∃(c:E)(e:Rl)(b:ζ)(d:T),c<=64/\e2=.returned (.tuple #[b,I d])/\iM c e V b)/\Fr j W V:=by
 obtain⟨b,c⟩:=f;refine⟨?_,c⟩;split at b
 .obtain⟨e,c,d⟩:=b
  exact⟨a.length,_,e,0,g,c,d⟩
 exact⟨0,λ_ _=>δ,_,1,O,b,_,Y,dJ⟩
def adi(g:Hs)(h:T)(b:L Fc)(i:L Nd)(k:ε)(f:Ending)(c:ε):Prop:=
 (∃d e a,f=.returned (.tuple #[d,I e])/\Sl 146 4 NC c d a/\(∀d∈a,d.cy.length<=CY)/\(if b.length<20000/\iu g h b=γ then a.length=i.length+2*b.length else a=[]))/\Fr j k c
theorem cC.pI(e:cC m t n1 C W x X L1)(d:mV m x W V){q:E}{b:θ ζ}{a:TypeId}(c:aY W q b a)(f:a≠t):aY V q b a:=
 d.1.aB c (λb=>fE.ne (te:=a) (te':=t) ⟨_,_,c⟩ (aW e.row b).2 f Y)
theorem NC.nil(a:Ch)(b:ε):NC b [I a.k,I a.a,I a.b,aV] ⟨a,[]⟩:=⟨_,Y,dJ⟩
theorem i3N:¬fS 146:=by unfold fS;decide
theorem Tl
  (h:o2.guard=η)(f g:Operand)(B:o2.op=Op.call {callee:=Callee.builtin Builtin.append,args:=#[f,g],argTypes:=#[30,30]})(C:a1.eval f=aV)(D:a1.eval g=.slice A m q)(r:Sl 3 1 CI W (.slice A m q) e)(R:m<=1000)
  (w:∀c d a,Sl 3 1 CI a (.slice c m d) e->Fr j W a->K1 (a1.put o2.dst (.slice c m d)) a):Oper.wp prog o2 a1 W K1 Q:=by
 obtain⟨c,G,a0,d,b,K,P,x⟩:=r;simp only[cM] at b;obtain⟨rfl,rfl,rfl⟩:=b;have z:(e.map cW).flatten.length=e.length*1:=by
  rw[iw (n:=1) (λu y=>by obtain⟨o,_,rfl⟩:=dE.1 y;rfl),eo]
 have v:=jl (ops:=#[]) (E:=True) (P:=prog) (K:=K1) (Q:=Q) h f g B oG C (cC.nil W.heap.size 3 1 CI W).row (m:=e.length) D z (x.src (λ_=>Y) (λo a2 n=>by simp[cW] at n;subst n;rfl)) (by simp only[fq];omega) (by simp only[fq,maxLen];omega) eG (λa3 a l i _=> ?_)
 .rwa[aS (by simp[Region.wanted,h])] at v
 have p:=(cC.nil W.heap.size 3 1 CI W).app (M:=e.map cW) (ys:=e) (Pl.aJ cW (λ_=>False)) id sI (λU u o k F=>by
  rw[fN,F] at k;obtain rfl:=cI k;exact⟨Y,Y⟩) l i
 obtain⟨s,t,rfl,V,X⟩:=bB l
 have:=p.read;simp only[eW,fq,de] at this |-;exact w s t a this (((cC.nil W.heap.size 3 1 CI W).On i).1.mono (λ_ _ b=>by cases b))
theorem tN(h:Hs)(c0:T)(a3:L Fc)(Q:L Nd)(i6 i7 i8:ζ)(y:ε)(g2:Gl y)(d1:eJ y i6 h)(d5:Sl 276 7 CF y i7 a3)(d4:Sl 146 4 NC y i8 Q)(h3:Q.length<=fV)(m4:∀f∈Q,f.cy.length<=CY)(n0:h.length<=64):
  aQ 276 #[i6,I c0,i7,i8] y (adi h c0 a3 Q y):=by
 have⟨g4,HL,HT⟩:=dt d1 d5 d4;obtain⟨b3,rfl,-⟩:=d1;obtain⟨n8,o2,p3,l5,rfl,m8,m9,-⟩:=d5;obtain⟨n9,o3,p4,o8,rfl,n2,n3,-⟩:=d4;obtain⟨d,d1⟩:=M a3.length;obtain⟨o,d5⟩:=M Q.length;rw[<-d1] at HL m8;rw[<-d5] at HT h3 n2;rw[<-d1,<-d5];have⟨HLN,HTN⟩:=bD d1 d5;unfold maxLen at m9 n3;unfold fV at h3;clear d1 d5;by_cases d1:20000<=d
 .have n:decide ((20000:T)<=(d:T))=γ:=sO
  have u:decide (20000<=d)=γ:=sO
  delta aQ;go_in
  go_wp2;refine aO (results_tmp2 Y _ _ _) Y ?_;exact⟨⟨_,_,[],Y,dJ,sI,by rw[aR jE]⟩,cZ⟩
 have d1:d<20000:=O;have n:decide ((20000:T)<=(d:T))=δ:=sO;have u:decide (20000<=d)=δ:=sO
 delta aQ;go_in
 go_wp2_with fail;refine aZ.nm (λh3 d5=> ?_);obtain⟨b2,d1⟩:=M y.heap.size;rw[<-d1];have d8:=cY d5;have k3:=dL d5 d1;clear d5 d1;refine sg (qU h c0 a3 _ _ h3 (g4.1.fr d8) (HL.1.f d8) (by have:=HLN.1;unfold fV;omega)) ?_;rintro p i9 ⟨rfl,W⟩;have d9:=(d8.step W);cases i3:iu h c0 a3
 .go_wp2
  refine aO (results_tmp2 Y _ _ _) Y ?_;exact⟨⟨_,_,[],Y,dJ,sI,by rw[aR (by rw[i3];simp)]⟩,d9⟩
 obtain⟨h3,c9,d1,d5,d8⟩:=lV AD;have i6:∀c:ε,(Instr.makeSlice 32 aI (I ((o:T)+2*(d:T)))).run prog c=.ok (.slice (S (H c.heap.size 0)) 0 (o+2*d)) (c.alloc (.cells (madeCells #[aI,aI,aI,aV] ((o+2*d)*4)) 146)):=λc=>by
  have:=run_make (P:=prog) (w:=c) 32 146 h3 (.agg #[aI,aI,aI,aV]) underlying32 c9 d1 .i64 .i64 0 ((o:T)+2*(d:T)) O O (by rw[d8];omega) O;have p:((o:T)+2*(d:T)).toNat=o+2*d:=O;rw[p,d5] at this;simpa[ζ.cells] using this
 obtain⟨F,d1⟩:=M y.heap.size;have a4:=Z d1;clear d1;go_wp2_with fail;refine cT (λd1 d6=> ?_);have j3:(Fr j y d1):=(by rw[d6];exact d9.step cZ);have k4:(aY d1 b2 #[b3] 54):=(by rw[d6];exact aC (W.hs k3.1) _);have j8:(cC F 146 4 NC d1 (.slice (S (H i9.heap.size 0)) 0 (o+2*d)) [] []):=(by
  have c8:=ε.ownsRow_made (base:=F) (e:=146) (size:=4) i9 (madeCells #[aI,aI,aI,aV] ((o+2*d)*4)) (o+2*d) (gX d9.size a4.1) (by simp[maxLen];omega) (by rw[ns]);rw[<-d6] at c8;exact⟨c8,Y,sI⟩)
 clear d6;go_loopg [10,37] d (λgk s10 s37 wr=>∃(b:E)(z:L (L ζ))(m:L Nd),b+gk=d/\s37=I b/\m.length=b/\(∀f∈m,f.cy.length<=CY)/\cC F 146 4 NC wr s10 m z/\Fr j y wr/\aY wr b2 #[b3] 54)
 .exact⟨0,[],[],du,Y,Y,sI,j8,j3,k4⟩
 case round=>
  obtain⟨b,z,m,d0,rfl,G,b1,R,a2,b9⟩:=hrel;have⟨HJ,a7,K,a5,b5,HQ⟩:=qK d0 R a2 G b1 b9;have h9:b<=d:=O;obtain⟨c3,c4,rfl,-,-⟩:=R.shape G;by_cases i1:b<d
  .obtain⟨f,x⟩:=gE a3 b jE
   obtain⟨l0,l1,f9,l4,V,-,-,b8⟩:=HL.1.f K.1;simp only[cM] at V;obtain⟨rfl,-,rfl⟩:=V;obtain rfl:=b8.addr x;obtain⟨n5,e9,f0,f1,c5,l6,l7,l8,d3⟩:=b8.fc x;obtain⟨h0,bc,n4,h1,rfl,-,-,-⟩:=d3;obtain⟨⟨t,w,k⟩,d6,d1,d5,d8⟩:=f;simp only at e9 f0 f1 c5 l6 l7 l8;have⟨h7,h8⟩:=dy b d;go_wp2_with (at_builtin;refine stop ?_);refine aZ.go (AM (λs D=> ?_));have v:=lq D;have d1:(s.heap[wr.heap.size+1]? =S (.cells #[I t,I w,I k,aV] 146 (0,0))):=(by rw[D];exact bM sI);clear D;refine bH Y (.tmp 41) (.tmp 45) Y sC b a5.1 Y (a7.1.f v) NC.aJ i3N (⟨⟨t,w,k⟩,[]⟩:Nd) Y Y (eF.block d1 oC) (λc _=>NC.nil ⟨t,w,k⟩ c) O mL ?p6 ?p7
   case p6=>have:=K.1.size;have:=v.size;have:=a4.1;omega
   case p7=>
    intro e7 e8 j0 f8 a1 _ _;go_wp2;go_roundg (gk-1)
    .exact⟨b+1,_,_,oB HJ.1,by go_num,by simp[a5.1],λf x=>by
     rcases cB.1 x with h|h
     .exact b5.1 f h
     simp only[cX] at h;subst h;simp,f8,(a1.fr (gh a4.1.symm) (K.1.step v)),((a7.1.f v).pI a1 (v.hs HQ.1) J)⟩
    have:=HJ.1;omega
  obtain rfl:d=b:=O;obtain⟨o9,rfl⟩:=M gk;go_wp2_with fail;go_loopg [10,50] o (λgk s10 s50 wr=>∃(b:E)(z:L (L ζ))(m:L Nd),b+gk=o/\s50=I b/\m.length=d+b/\(∀f∈m,f.cy.length<=CY)/\cC F 146 4 NC wr s10 m z/\Fr j y wr/\aY wr b2 #[b3] 54)
  .exact⟨0,z,m,du,Y,a5.1,b5.1,a7.1,K.1,HQ.1⟩
  case round=>
   obtain⟨b,z,m,d0,rfl,G,b1,R,a2,b9⟩:=hrel;have⟨HJ,a7,K,a5,b5,HQ⟩:=qK d0 R a2 G b1 b9;have h9:b<=o:=O;obtain⟨c3,c4,rfl,-,-⟩:=R.shape G;by_cases i1:b<o
   .obtain⟨f,x⟩:=gE Q b aba
    (obtain⟨l0,l1,f9,l4,V,-,-,b8⟩:=HT.1.f K.1;simp only[cM] at V;obtain⟨rfl,-,rfl⟩:=V;obtain rfl:=b8.addr x;obtain⟨n5,e9,f0,f1,c5,d3⟩:=b8.nd x;have⟨e3,e1⟩:=bD (m4 f (bQ x)) d3;obtain⟨h0,bc,n4,h1,rfl,-,-,-⟩:=d3;obtain⟨⟨t,w,k⟩,a6⟩:=f;obtain⟨V,Q⟩:=M a6.length;simp only at e9 f0 f1 c5 e1 e3;rw[<-Q] at c5 e1;have b8:V<=71:=by have:=e3.1;rw[<-Q] at this;exact this);have⟨h7,h8⟩:=dy b o;clear Q;go_wp2_with fail;refine cT (λs D=> ?_);obtain⟨b8,Q⟩:=M wr.heap.size;rw[<-Q];have v:=cY D;have g7:=dL D Q;clear D Q;refine iH [5,6,7] [8] [0,1,2,3,4,5,6,7,8] (Fr (λU=>F<=U)) [[],[],[1],[],[3],[3,4],[1,2,3,4,5],[1,2,3,4,5,6],[0,1,2,3,4,5,6,7],[0,1,2,3,4,8]] [.w1 0 (λQ _=>Q=.slice c3 (d+b) c4),.w1 1 (λQ _=>Q=aP b8 0),.w1 2 (λQ _=>Q=.agg #[I t,I w,I k]),.w1 3 (λQ _=>Q=aP b8 3),.w1 4 (λQ _=>Q=.slice h0 V h1),.w1 5 (λf c=>∃A B,f=.slice A V B/\Sl 3 1 CI c (.slice A V B) a6),.w1 6 (λf c=>∃A B,f=.agg #[I t,I w,I k,.slice A V B]/\Sl 3 1 CI c (.slice A V B) a6),.w1 7 (λf c=>∃d7 A B,f=.slice (S (H d7 0)) 1 1/\aY c d7 #[I t,I w,I k,.slice A V B] 146/\Sl 3 1 CI c (.slice A V B) a6),.w1 8 (λf c=>∃a9 a8 c2,f=.slice a8 (d+b+1) a9/\cC F 146 4 NC c (.slice a8 (d+b+1) a9) (m++[⟨⟨t,w,k⟩,a6⟩]) c2/\aY c b2 #[b3] 54),.w1 9 (λf c=>∃a9 a8 c2,f=.slice a8 (d+b+1) a9/\cC F 146 4 NC c (.slice a8 (d+b+1) a9) (m++[⟨⟨t,w,k⟩,a6⟩]) c2/\aY c b2 #[b3] 54)] [[0],[1],[2],[3],[4],[5],[6],[7],[8],[9]] kR kR kR kR kR Y (λ_ _ _ _ p h=>⟨p.symm.trans h.1,h.2⟩) (λ_ _ W=>W.mono (λ_ _ f=>f.elim)) (λ_ _ _ h U=>h.tr U) ?hstab ?hstabM ?walk
    case hstab=>exact Il
    case hstabM=>
     intro i5 c9;simp only[rB] at c9;subst c9;refine⟨?_,?_,?_,?_,?_,?_,?_,?_,?_,?_,trivial⟩<;>first|exact wZ
    case walk=>
     intro Q;obtain⟨s0,s1,s2,s3,s4,s5,s6,s7,s8,s9,HS⟩:=aar Q;refine⟨?_,?_,?_,?_,?_,?_,?_,?_,?_,?_,?_⟩
     ·
      intro c e a P g;replace e:Fr j s c:=e;simp only[rY,ξ,HS] at g |-;go_simp;exact g _ _ rF Y
     ·
      intro c e a P g;replace e:Fr j s c:=e;simp only[rY,ξ,HS] at g |-;go_simp;exact g _ _ rF Y
     ·
      intro c e a P g;replace e:Fr j s c:=e;have n:=a 1 J;simp only[rA,bG.at,HS] at n;simp only[rY,ξ,HS] at g |-;subst n;obtain⟨Q,l2,l3,-⟩:=mD (e.hs g7.1);go_simp;exact g _ _ rF Y
     ·
      intro c e a P g;replace e:Fr j s c:=e;simp only[rY,ξ,HS] at g |-;go_simp;exact g _ _ rF Y
     ·
      intro c e a P g;replace e:Fr j s c:=e;have l:=a 3 J;simp only[rA,bG.at,HS] at l;simp only[rY,ξ,HS] at g |-;subst l;have Q:=iT (e.hs g7.1);go_simp;exact g _ _ rF Y
     ·
      intro c e a P g;replace e:Fr j s c:=e;have l:=a 3 J;have r:=a 4 J;simp only[rA,bG.at,HS] at l r;simp only[rY,ξ,HS] at g |-;subst l r;rw[aS fX];refine Tl fX (.const aV) (.tmp 58) fX fX fX (((e1.1.f v).f e)) O ?_;intro e7 e8 k9 e4 Q;exact g _ _ Q ⟨_,_,Y,e4⟩
     ·
      intro c e a P g;replace e:Fr j s c:=e;have n:=a 1 J;have u:=a 2 J;have l:=a 3 J;have r:=a 4 J;have b0:=a 5 J;simp only[rA,bG.at,HS] at n u l r b0;simp only[rY,ξ,HS] at g |-;subst n u l r;obtain⟨A,B,rfl,l9⟩:=b0;go_simp;exact g _ _ rF ⟨_,_,Y,l9⟩
     ·
      intro c e a P g;replace e:Fr j s c:=e;have n:=a 1 J;have u:=a 2 J;have l:=a 3 J;have r:=a 4 J;have b0:=a 5 J;have b6:=a 6 J;simp only[rA,bG.at,HS] at n u l r b0 b6;simp only[rY,ξ,HS] at g |-;subst n u l r;obtain⟨A,B,rfl,m0⟩:=b6;go_simp;exact g _ _ cZ ⟨_,_,_,Y,bM Y,m0.f cZ⟩
     ·
      intro c e a P g;replace e:Fr j s c:=e;have a0:=a 0 J;have n:=a 1 J;have u:=a 2 J;have l:=a 3 J;have r:=a 4 J;have b0:=a 5 J;have b6:=a 6 J;have a1:=a 7 J;simp only[rA,bG.at,HS] at a0 n u l r b0 b6 a1;simp only[rY,ξ,HS] at g |-;subst a0 n u l r;obtain⟨d7,A,B,rfl,m2,m1⟩:=a1;have e6:=a7.1.f (v.step e);rw[aS fX];refine pM fX (.tmp 54) (.tmp 61) fX sC (d+b) a5.1 fX e6 NC.aJ i3N (⟨⟨t,w,k⟩,a6⟩:Nd) fX Y (eF.block m2 oC) (λj1 C=>⟨_,Y,m1.beside (Pl.aJ cW (λ_=>False)) e6 C J id⟩) O mL (by have:=K.1.size;have:=v.size;have:=a4.1;have:=e.size;omega) ?_;intro e7 e8 k9 e4 e0 _ _;exact g _ _ (e0.1.mono (λU _ p=>e0.2 U p)) ⟨_,_,_,Y,e4,e6.pI e0 ((v.step e).hs HQ.1) J⟩
     ·
      intro c e a P g;replace e:(Fr (λU=>F<=U)) s c:=e;have a0:=a 0 J;have n:=a 1 J;have u:=a 2 J;have l:=a 3 J;have r:=a 4 J;have c7:=a 8 J;simp only[rA,bG.at,HS] at a0 n u l r c7;simp only[rY,ξ,HS] at g |-;subst a0 n u l r;go_simp;exact g _ _ rF c7
     intro c e a;have a0:=a 0 J J;have n:=a 1 J J;have u:=a 2 J J;have l:=a 3 J J;have r:=a 4 J J;have c7:=a 8 J J;have h2:=a 9 J J;simp only[rA,bG.at,HS] at a0 n u l r c7 h2;simp only[Act.put,rC,HS];subst a0 n u l r;obtain⟨a9,a8,c2,rfl,f9,c8⟩:=h2;go_wp2;go_roundg (gk-1)
     .exact⟨b+1,_,_,oB HJ.1,by go_num,by simp[a5.1];omega,λc a=>by
      rcases cB.1 a with h|h
      .exact b5.1 c h
      simp only[cX] at h;subst h;exact e3.1,f9,((K.1.step v).keep e (λi5 p=>by have:=a4.1;omega)),c8⟩
     have:=HJ.1;omega
   obtain rfl:o=b:=O;obtain⟨p0,rfl⟩:=M gk;go_wp2_with fail;go_loopg [10,66] d (λgk s10 s66 wr=>∃(b:E)(z:L (L ζ))(m:L Nd),b+gk=d/\s66=I b/\m.length=d+o+b/\(∀f∈m,f.cy.length<=CY)/\cC F 146 4 NC wr s10 m z/\Fr j y wr/\aY wr b2 #[b3] 54)
   .exact⟨0,z,m,du,Y,a5.1,b5.1,a7.1,K.1,HQ.1⟩
   case round=>
    obtain⟨b,z,m,d0,rfl,G,b1,R,a2,b9⟩:=hrel;have h9:b<=d:=O;obtain⟨c3,c4,rfl,-,-⟩:=R.shape G;by_cases i1:b<d
    .obtain⟨i,a⟩:∃i:E,b+1+i=d:=⟨d-(b+1),O⟩
     have c:(d:T)-1-(b:T)=(i:T):=O;have a:(i:T)+1<=(l5:T):=O;have a:(0:T)<=(i:T)+1:=O;go_wp2_with fail;(have i0:(a3.take (i+1)).length=i+1:=by rw[cV];have:=HLN.1;omega);(refine sg (eQ _ _ wr (Sl.take (HL.1.f a2) (i:=i+1) jE) (by rw[i0];unfold fV;omega)) ?_;rintro p c1 ⟨a,g5,rfl,b7,W⟩;have j4:=(a2.step W);have g8:=(W.hs b9);have g6:=(R.f W);obtain⟨row,a⟩:=M (fe (a3.take (i+1)));rw[<-a] at b7;have d2:row.length=i+1:=by rw[a,Bs,i0]);clear a;obtain⟨⟨t,w,k⟩,x⟩:∃f,row[i]? =S f:=⟨_,cF O⟩;obtain⟨C,f2,o7,rfl,h5,m6,h4,f4,f5,m3,f3⟩:=b7.at x;have m5:=h4;subst m5;rw[d2] at b7 |-;have g:(cC wr.heap.size 144 3 CC c1 (.slice (S (H C 0)) row.length f2) row g5):=(by rw[d2];exact b7);have l2:=f4 1 _ Y;have l3:=f4 2 _ Y;have a:c1.frozen? (H C (i*3+1))=δ:=f5 _;have a:c1.frozen? (H C (i*3+2))=δ:=f5 _;have h7:(0:T)<=(i:T):=jD;have h8:(i:T)<((i+1:E):T):=O;clear b7 m6 h4 f4 f5 x;go_wp2_with fail;go_region;(refine Xk (λs D=> ?_);have a:bT C c1 s:=by rw[D];exact((rF.aK _ _).aK _ _).drew);have k8:(∃c e,c.length=i+1/\cC wr.heap.size 144 3 CC s (.slice (S (H C 0)) (i+1) f2) c e):=(by
      (have e:cC wr.heap.size 144 3 CC (c1.setCell (H C (i*3+1)) (I k)) (.slice (S (H C 0)) (row.set i (⟨t,k,k⟩:Ch)).length f2) (row.set i ⟨t,k,k⟩) (g5.set i [I t,I k,I k]):=by rw[dN];exact g.set (i:=1) (u:=I k) (x:=(⟨t,k,k⟩:Ch)) (Pl.aJ eM (λ_=>False)) id h5 J Y);have c:=(e.set (k:=i) (i:=2) (u:=I w) (x:=(⟨t,k,w⟩:Ch)) (Pl.aJ eM (λ_=>False)) id (jU ((cj.1 h5).1)) J Y).f (tC.drew);rw[<-D] at c;refine⟨_,_,?_,by have:=c;rw[dN,d2] at this;exact this⟩;rw[dN,dN,d2])
     clear D;have v:=(j4.keep a (λi5 p=>by have:=m3;have:=a2.size;omega));have g9:=(a.aB g8 (λp=>fE.ne (te:=54) (te':=144) ⟨_,_,g8⟩ (by rw[p];exact f3) J Y));have j9:(cC F 146 4 NC s (.slice c3 (d+o+b) c4) m z):=(g6.aJ NC.aJ a (λU f6 p=>by subst p;exact(aW g6.row f6).2.ne f3 J Y) (λa U d4 f6 p=>by
      have j2:=d4;subst j2 p;exact f6.ne f3 J Y))
     have a:=bx g9;go_wp2_with fail;obtain⟨c,e,g,a⟩:=k8;refine sg (ng h c0 c _ _ s (g2.fr v) (g4.1.fr v) (by have:=a.read;exact this)) ?_;intro p a m7;obtain⟨⟨f7,c6,b6,o4,i2,rfl,h6⟩,X⟩:=MG n0 m7;have⟨j5,k5,k0,j7⟩:=gB (v.step X) (X.hs g9) (j9.f X) h6;obtain⟨sg,rfl,n1⟩:=h6;obtain⟨n7,o1,p2,o6,rfl,-,-,-⟩:=n1;clear X;go_wp2_with fail;refine aZ.nm (λj0 c=> ?_);have a:=cY c;have⟨g0,k6,k1,e⟩:=gB (j5.1.step a) (a.hs k5.1) (k0.1.f a) (j7.1.fr a);clear c;refine sg (mS f7 c6 i2 j0 (g2.fr g0.1) _ e.1) ?_;rintro p c ⟨a,rfl,i4,X⟩;have g1:=(g0.1.step X);have k2:=(k1.1.f X);have e2:=Z i4;have g3:N ((cU (dF f7 c6)).length<=CY):=Z (by have:=jv (f:=c6) i2;simp[cU,CY];omega);obtain⟨n6,o0,p1,o5,rfl,-,-,-⟩:=i4;obtain⟨e,c⟩:=M (cU (dF f7 c6));rw[<-c] at e2 g3 |-;obtain⟨g,a⟩:=M e.length;rw[<-a] at e2 |-;clear c a;go_wp2_with (at_builtin;refine stop ?_);refine aZ.go (AM (λa a=> ?_));have b4:=cY a;have c:=dL a Y;have e5:=(k2.f b4);clear a;refine bH Y (.tmp 104) (.tmp 108) Y sC (d+o+b) G Y e5 NC.aJ i3N (⟨⟨0,0,0⟩,e⟩:Nd) Y Y (eF.block c.1 oC) (λj1 C=>⟨_,Y,(e2.1.f b4).beside (Pl.aJ cW (λ_=>False)) e5 C J id⟩) O mL ?p6 ?p7
     case p6=>have:=g1.size;have:=b4.size;have:=a4.1;omega
     case p7=>
      intro e7 e8 a f8 a1 _ _;have j6:=(a1.fr (gh a4.1.symm) (g1.step b4));have k7:=(e5.pI a1 (b4.hs (X.hs k6.1)) J);go_wp2;go_roundg (gk-1)
      .exact⟨b+1,_,_,O,by go_num,by simp[G];omega,λf x=>by
       rcases cB.1 x with h|h
       .exact b1 f h
       simp only[cX] at h;subst h;exact g3.1,f8,j6,k7⟩
      omega
    obtain rfl:d=b:=O;go_wp2;refine aO (results_tmp2 Y _ _ _) Y ?_;exact⟨⟨_,_,m,Y,R.read,b1,by rw[aS ⟨oB HLN.1,i3⟩,G,<-HLN.1,<-HTN.1];omega⟩,a2⟩
def bk:L Mk->L Nd->ι (L Mk×Mk)×L Nd
 |[],a=>(η,a)
 |m::b,a=>if m.rt=γ then bk b ([⟨m.c,[]⟩]++m.dn++a) else(S (b,⟨m.c,γ,a⟩),a)
def oY(P:L Mk):E:=(P.map (λa=>a.dn.length+1)).sum
theorem sK(P:L Mk)(a:Mk):oY (P++[a])=oY P+(a.dn.length+1):=by simp[oY]
theorem Zi{P:L Mk}{m:Mk}{t:L Nd}(a:m.rt=γ):bk (P++[m]).reverse t=bk P.reverse ([⟨m.c,[]⟩]++m.dn++t):=by
 rw[L.reverse_append,L.reverse_singleton,sV,bk,aS a]
theorem Wa{P:L Mk}{m:Mk}{t:L Nd}(a:m.rt=δ):bk (P++[m]).reverse t=(S (P.reverse,⟨m.c,γ,t⟩),t):=by
 rw[L.reverse_append,L.reverse_singleton,sV,bk,aR (by rw[a];simp)]
theorem Xa{P:L α}(a:P.length=m+1)(a:P[m]? =S x1):P=P.take m++[x1]:=by
 have:=bJ a;rw[dq O] at this;exact this
theorem zF:∀{L:List (List ζ)},(∀a∈L,a.length=m)->∀a,(L.take a).flatten=L.flatten.take (a*m)
 |[],_,a=>by simp
 |c::r,h,0=>by simp
 |c::r,h,a+1=>by
  have d:=h c sI;have b:=zF (L:=r) (λb e=>h b (by simp[e])) a;have a:c.take (a*m+m)=c:=dq O;rw[List.take_succ_cons,oq,oq,b,List.take_append,d,E.add_mul,E.one_mul,E.add_sub_cancel,a]
theorem cC.pop(d:cC m t q C W (.slice A n1 n2) X L1)(s:X.length=n1)(a:E)(r:a<=n1):cC m t q C W (.slice A a n2) (X.take a) (L1.take a):=by
 have g:=d.lens;have e:=d.len;refine⟨?_,by simp[e],λh i w f c=> ?_⟩
 .have c:(X.take a).length=a:=by rw[cV];omega
  rw[c,zF g];refine⟨by rw[cV,iw g,e,s];exact rP (E.mul_le_mul_right _ r),?_⟩;rcases d.row.2 with⟨b,g⟩|⟨l,e,k,b,n,p,r,o,u,v⟩
  .simp only[cM] at b
   obtain⟨rfl,rfl,rfl⟩:=b;obtain rfl:a=0:=O;exact .inl ⟨Y,Y⟩
  simp only[cM] at b;obtain⟨rfl,x,rfl⟩:=b;refine .inr ⟨l,_,k,Y,n,p,O,o,u,?_⟩;rw[<-v,L.take_take,rP (E.mul_le_mul_right _ O)]
 have a:h<a:=by
  have:=(cj.1 c).1;rw[cV] at this;omega
 rw[vN a] at f c;exact d.each h i w f c
def yL(a:T)(c d b:ζ):ζ:=.agg #[I a,c,d,b]
theorem dZ{g:Func}{f k:Tmp}(m:g.results=#[.tmp k,.cell f t])(d:θ ζ)(P:Program)(a:ε)(c:E)(i:TypeId)(b:θ ζ)(h:E×E)(e:TypeDesc)
  (s:d.getD f undef=aP c 0)(o:a.heap[c]? =S (.cells b i h))
  (n:(match e with|.struct _|.array _ _=>γ|_=>δ)=γ)(u:P.underlying t=S e)(p:(P.info? t).map (·.size)=S b.size):
  (results g d).run P a=.ok (.tuple #[d.getD k undef,.agg b]) a:=by
 have l:d[f]?.getD undef=aP c 0:=sU s;have r:(loadVar t (H c 0)).run P a=.ok (.agg b) a:=by
  cases e<;>first|exact run_loadVar_row a c i t b h _ o u Y p|exact absurd n sI
 simp[results,m,l,asAddr,r,Result.andThen]
def kq(a:L Fc)(P:L Mk):L Ch:=fe a++P.map Mk.yG
def iQ(b:Hs)(c:T)(a:L Fc)(P:L Mk):κ:=(decide (a.length+P.length<20000)&&iu b c a)&&iq b c [] (fe a) P
def fP(a:L T):L Nd:=[⟨⟨0,0,0⟩,a⟩]
inductive iy (h:Hs) (eY:T) (l:L Fc) (P:L Mk):L Mk->T->L T->L Nd->Prop
 |stuck:iQ h eY l P=δ->iy h eY l P P 3 [] []
 |eA (r:L Mk) (m:Mk) (t:L Nd):iQ h eY l P=γ->dF h.length (cP h eY (kq l P))≠[]->bk P.reverse (fP (cU (dF h.length (cP h eY (kq l P)))))=(S (r,m),t)->iy h eY l P (r.reverse++[m]) 0 [] []
 |no (t out:L Nd):iQ h eY l P=γ->dF h.length (cP h eY (kq l P))≠[]->bk P.reverse (fP (cU (dF h.length (cP h eY (kq l P)))))=(η,t)->out.length=t.length+2*l.length->(∀x∈out,x.cy.length<=CY)->iy h eY l P [] 2 [] out
 |yes (o:L T):iQ h eY l P=γ->dF h.length (cP h eY (kq l P))=[]->oV h (kq l P)=η->iy h eY l P P 1 o []
 |push (p:Ch):iQ h eY l P=γ->dF h.length (cP h eY (kq l P))=[]->oV h (kq l P)=S p->iy h eY l P (P++[⟨p,δ,[]⟩]) 0 [] []
theorem zI{a:Hs}:∀(b:L Mk)(c row:L Ch),iq a i1 c row b=γ->∀c∈b,dA a c.c=γ
 |[],_,_,_,a,b=>by cases b
 |x::g,h,row,a,f,d=>by
  simp only[iq,bA] at a;obtain⟨⟨⟨_,b⟩,_⟩,e⟩:=a;rcases cK.1 d with rfl|c
  .exact b
  exact zI g _ _ e f c
theorem Wq{a:Hs}{c:Mk}(b:dA a c.c=γ):dA a c.yG=γ:=by
 unfold Mk.yG;split
 .exact sP b
 exact b
theorem gK{b:Hs}{P:L Mk}(a:iQ b i1 F P=γ):F.length+P.length<20000/\iu b i1 F=γ/\iq b i1 [] (fe F) P=γ:=by
 simp only[iQ,bA,cS] at a;exact⟨a.1.1,a.1.2,a.2⟩
theorem dO{a:Hs}(b:iu a i1 F=γ):bm a=γ/\ep i1=γ:=by
 simp only[iu,bA] at b;exact b.2
theorem sE{b:Hs}{P:L Mk}(c:iQ b i1 F P=γ):dw b (kq F P)=γ:=by
 obtain⟨c,b,d⟩:=gK c;simp only[dw,bA,fY,cS];refine⟨⟨(dO b).1,by simp[kq,fe];omega⟩,λc a=> ?_⟩;rcases cB.1 a with a|a
 .exact vY b c a
 obtain⟨f,e,rfl⟩:=dE.1 a;exact Wq (zI P [] (fe F) d f e)
theorem Ln:∀(P:L Mk)(d e:L Nd),bk P d=(η,e)->∀c∈P,c.rt=γ
 |[],_,_,_,c,a=>by cases a
 |x::P,d,e,b,c,a=>by
  rw[bk] at b;split at b
  .rename_i f
   rcases cK.1 a with rfl|a
   .exact f
   exact Ln P _ _ b c a
  cases b
theorem uv:∀(P:L Mk)(b a:L Nd),bk P b=(η,a)->a.length=oY P+b.length
 |[],c,b,a=>by simp only[bk,gW] at a;rw[a.2];simp[oY]
 |x::P,c,b,a=>by
  rw[bk] at a;split at a
  .rw[uv P _ _ a]
   simp only[oY,jC,L.sum_cons,cA,eK];omega
  cases a
theorem uB:∀(P:L Mk)(c:L Nd)(a:L Mk)(b:Mk)(d:L Nd),bk P c=(S (a,b),d)->oY a+b.dn.length+1<=oY P+c.length/\a.length<P.length
 |[],e,d,c,b,a=>by simp[bk] at a
 |x::P,e,d,c,b,a=>by
  rw[bk] at a;split at a
  .have:=uB P _ d c b a
   simp only[oY,jC,L.sum_cons,cA,bW,fq] at this |-;omega
  simp only[gW,fZ] at a;obtain⟨⟨rfl,rfl⟩,rfl⟩:=a;simp only[oY,jC,L.sum_cons,bW];omega
theorem Rx{p:Nd->Prop}(d:∀a,p ⟨a,[]⟩):∀(P:L Mk)(c:L Nd)(b:L Mk)(a:Mk)(e:L Nd),(∀f∈P,∀g∈f.dn,p g)->(∀f∈c,p f)->bk P c=(S (b,a),e)->(∀c∈a.dn,p c)/\(∀c∈b,c∈P)/\(∃b∈P,b.c=a.c)
 |[],f,e,c,b,_,_,a=>by simp[bk] at a
 |g::P,r,o,n,i,e,f,a=>by
  rw[bk] at a;split at a
  .obtain⟨k,l,m⟩:=Rx d P _ o n i (λc b=>e c (by simp[b])) (λh i=>by
    rcases cB.1 i with c|c
    .rcases cB.1 c with b|b
     .simp at b;subst b;exact d _
     exact e g sI h b
    exact f h c) a
   exact⟨k,λc b=>by simp[l c b],by obtain⟨d,c,b⟩:=m;exact⟨d,by simp[c],b⟩⟩
  simp only[gW,fZ] at a;obtain⟨⟨rfl,rfl⟩,rfl⟩:=a;exact⟨f,λb a=>by simp[a],g,sI,Y⟩
theorem iy.BI{a:Hs}{P b:L Mk}(h:iy a i1 F P b i2 e N1):il a i1 i2:=by
 cases h with
 |stuck b=>exact⟨J,J,(λc=>by cases c),(λc=>by cases c)⟩
 |eA h g N1 f d b=>exact⟨J,J,(λc=>by cases c),(λc=>by cases c)⟩
 |push g f b d=>exact⟨J,J,(λc=>by cases c),(λc=>by cases c)⟩
 |no N1 b c g f _ _=>
  refine⟨J,J,λd=>(by cases d),λ_=> ?_⟩;obtain⟨h,b,d⟩:=gK c;have h:a.length<=64:=oB (bK (dO b).1);exact Og b d (λd b=>Ln _ _ _ f d (sU b)) (sE c) (λb=>g ((kL h).2 b))
 |yes e c f g=>
  refine⟨J,J,λ_=> ?_,λd=>(by cases d)⟩;obtain⟨d,b,h⟩:=gK c;have a:a.length<=64:=oB (bK (dO b).1);exact sN (sE c) (dO b).2 ((kL a).1 f) (zE g)
structure rK where
 said:T
 ord:L T
 tree:L Nd
 fs:L Fc
def Su(a:L Nd):Prop:=∀b∈a,b.cy.length<=CY
def CyF(b:L Fc):Prop:=∀a∈b,a.cy.length<=CY
structure oD(h:Hs)(eY:T)(N:E)(o:rK):Prop where
 BI:il h eY o.said
 ord:o.ord.length<=64
 tl:o.tree.length<=N
 tcy:Su o.tree
 fl:o.fs.length<=40000
 fcy:CyF o.fs
theorem oD.mono{b:Hs}{c:rK}(a:oD b i1 m c)(d:m<=q):oD b i1 q c:=⟨a.1,a.2,bX a.3 d,a.4,a.5,a.6⟩
theorem qJ{b:Hs}:il b i1 0:=⟨J,J,(λa=>by cases a),(λa=>by cases a)⟩
theorem sL{b:Hs}:il b i1 3:=⟨J,J,(λa=>by cases a),(λa=>by cases a)⟩
theorem jV{a:Hs}(b:il a i1 i2):oD a i1 m ⟨i2,[],[],[]⟩:=
 ⟨b,sI,nG,(λa c=>by cases c),sI,(λa c=>by cases c)⟩
def Vu(c:Hs)(d:T)(a:L Fc)(b:Fc):L Fc:=if(oZ c d a b&&!(fe a).contains b.c)=γ then a++[b] else a
def uq(b:Hs)(d:T)(a c:L Fc):L Fc:=c.foldl (Vu b d) a
structure GC(h:Hs)(eY:T)(n:E)(fs:L Fc):Prop where
 rep:iu h eY fs=γ
 nd:(fe fs).Nodup
 cy:CyF fs
 len:fs.length<=n
theorem xq{b:Hs}{d:Fc}:∀(a c:L Fc),jN b i1 c (a++[d])=(jN b i1 c a&&oZ b i1 (c++a) d)
 |[],a=>by simp[jN]
 |g::a,b=>by
  rw[im,jN,jN,xq a,κ.and_assoc];simp
theorem aaP{d:Hs}{c:Fc}(a:GC d i1 m F)(i:c.cy.length<=CY):GC d i1 (m+1) (Vu d i1 F c):=by
 unfold Vu;split
 .rename_i e
  simp only[bA,qh] at e;have l:c.c ∉ fe F:=λk=>by have:=e.2;simp[k] at this
  refine⟨?_,?_,λn b=> ?_,?_⟩
  .have:=a.rep
   simp only[iu,bA] at this |-;refine⟨?_,this.2⟩;rw[xq,this.1,nB,eW];exact e.1
  .simp only[fe,nO,jC,nu]
   refine L.nodup_append.2 ⟨a.nd,sI,λo h p f=> ?_⟩;simp at f;subst f;exact λg=>l (g▸h)
  .rcases cB.1 b with b|b
   .exact a.cy n b
   simp at b;subst b;exact i
  simp only[cA,eK];have:=a.len;omega
 exact⟨a.1,a.2,a.3,oB a.4⟩
theorem BU{a:Hs}:∀(b:L Fc){d:E}{c:L Fc},GC a i1 d c->CyF b->GC a i1 (d+b.length) (uq a i1 c b)
 |[],c,b,a,_=>a
 |f::a,c,e,d,b=>by
  have:=BU a (aaP d (b f sI)) (λe d=>b e (by simp[d]));rw[bW];rw[show c+(a.length+1)=c+1+a.length from by omega];exact this
theorem Es{a:Hs}(b:GC a i1 m F):bm a=γ/\ep i1=γ:=dO b.rep
structure adF(s:RS):Prop where
 wd:1<=s.wd/\s.wd<=32
 wp:s.wp.length<=40
 wl:s.wl.length<=40
 row:∀l∈s.wl,l.length<=40
def uc:T:=2147483647
def db(a:T):Prop:=0<=a/\a<=uc
structure adu(s:RS):Prop where
 left:db s.left
 each:∀x∈s.each,db x
 wK:∀x∈s.wK,db x
structure BO(h:Hs)(n:E)(path:L Mk):Prop where
 sz:oY path<=n
 cy:∀m∈path,Su m.dn
 Vs:∀m∈path,dA h m.c=γ
structure vg(h:Hs)(eY:T)(u:E)(s:RS):Prop where
 fit:s.Fit
 eh:s.h=h
 el:s.eY=eY
 fs:GC h eY (40000*u) s.fs
 wd:adF s
 pa:BO h u s.path
 pu:adu s
 yD:db s.yD
 vu:0<=s.vu/\s.vu<4
 BI:il h eY s.said
 ord:s.ord.length<=64
 tl:s.tree.length<=100000*u+100
 tcy:Su s.tree
theorem vg.mono{b:Hs}{c:RS}(a:vg b i1 m c)(d:m<=q):vg b i1 q c:=
 ⟨a.fit,a.eh,a.el,⟨a.fs.1,a.fs.2,a.fs.3,oB a.fs.4⟩,a.wd,⟨oB a.pa.1,a.pa.2,a.pa.3⟩,a.pu,a.yD,a.vu,a.BI,a.ord,oB a.tl,a.tcy⟩
def FU(c:Hs)(d:T)(b:RS)(e:E)(a:rK):RS:=
 if a.said=3 then {b with fs:=uq c d b.fs a.fs,gone:=b.gone.set e γ}
 else if a.said=0 then {b with fs:=uq c d b.fs a.fs}
 else {b with fs:=uq c d b.fs a.fs,said:=a.said,vu:=(e:T),ord:=a.ord,tree:=a.tree}
theorem YR{b:Hs}{h:RS}{who:E}{e:rK}(a:vg b i1 m h)(c:oD b i1 (100000*m+100) e)(hw:who<4)(g:∀d,BO b m d->BO b (m+1) d):vg b i1 (m+1) (FU b i1 h who e):=by
 have d:=BU e.fs a.fs c.fcy;have f:GC b i1 (40000*(m+1)) (uq b i1 h.fs e.fs):=⟨d.1,d.2,d.3,gX d.4 c.fl⟩;unfold FU;split
 .exact⟨⟨by simp[a.fit.gone],a.fit.each,a.fit.wK⟩,a.eh,a.el,f,⟨a.wd.1,a.wd.2,a.wd.3,a.wd.4⟩,g _ a.pa,⟨a.pu.1,a.pu.2,a.pu.3⟩,a.yD,a.vu,a.BI,a.ord,by have:=a.tl;simp only;omega,a.tcy⟩
 split
 .exact⟨⟨a.fit.gone,a.fit.each,a.fit.wK⟩,a.eh,a.el,f,⟨a.wd.1,a.wd.2,a.wd.3,a.wd.4⟩,g _ a.pa,⟨a.pu.1,a.pu.2,a.pu.3⟩,a.yD,a.vu,a.BI,a.ord,by have:=a.tl;simp only;omega,a.tcy⟩
 exact⟨⟨a.fit.gone,a.fit.each,a.fit.wK⟩,a.eh,a.el,f,⟨a.wd.1,a.wd.2,a.wd.3,a.wd.4⟩,g _ a.pa,⟨a.pu.1,a.pu.2,a.pu.3⟩,a.yD,⟨by simp only;omega,by simp only;omega⟩,c.BI,c.ord,by have:=c.tl;simp only;omega,c.tcy⟩
inductive uZ (h:Hs) (eY:T):E->RS->RS->Prop
 |zero (s:RS):uZ h eY 0 s s
 |stop (n:E) (s:RS):s.gone.getD 3 δ=γ\/s.said≠0->uZ h eY n s s
 |step (n:E) (s s':RS) (lf:T) (ea sp:L T) (P:L Mk) (said:T) (o:L T) (t:L Nd):s.gone.getD 3 δ=δ->s.said=0->iy h eY s.fs s.path P said o t->
   uZ h eY n (FU h eY {s with left:=lf,each:=ea,wK:=sp,path:=P} 3 ⟨said,o,t,[]⟩) s'->uZ h eY (n+1) s s'
theorem Rj{h:Hs}{P k:L Mk}(n:iy h i1 F P k i2 e N1)(c:BO h m P)(t:F.length<=40000*m)(r:e.length<=64):
  BO h (m+1) k/\oD h i1 (100000*m+100) ⟨i2,e,N1,[]⟩:=by
 have g:=n.BI;cases n with
 |stuck a=>exact⟨⟨oB c.sz,c.cy,c.Vs⟩,jV g⟩
 |push l k h i=>
  refine⟨⟨by rw[sK];have:=c.sz;simp only[fq];omega,λf b=> ?_,λf b=> ?_⟩,jV g⟩
  .rcases cB.1 b with b|b
   .exact c.cy f b
   simp at b;subst b;exact λd a=>by cases a
  rcases cB.1 b with b|b
  .exact c.Vs f b
  simp at b;subst b;exact(pL (L.mem_of_find?_eq_some i)).1
 |eA o f k s h l=>
  have p:=uB _ _ _ _ _ l;have h:oY P.reverse=oY P:=by simp[oY]
  have i:=Rx (p:=λd=>d.cy.length<=CY) (λh=>by simp) _ _ _ _ _ (λf b=>c.cy f (sU b)) (λd a=>by
   simp only[fP,cX] at a;subst a;simp only[cU,eo];exact jv (oB (bK (dO (gK s).2.1).1))) l
  refine⟨⟨?_,λd a=> ?_,λd a=> ?_⟩,jV g⟩
  .rw[sK]
   have:oY o.reverse=oY o:=by simp[oY]
   have:=c.sz;simp only[fP,eK] at p;omega
  .rcases cB.1 a with a|a
   .exact c.cy d (by simpa using i.2.1 d (sU a))
   simp at a;subst a;exact i.1
  rcases cB.1 a with a|a
  .exact c.Vs d (by simpa using i.2.1 d (sU a))
  simp at a;subst a;obtain⟨k,i,h⟩:=i.2.2;rw[<-h];exact c.Vs k (sU i)
 |no s p o k h n i=>
  have l:=uv _ _ _ h;have h:oY P.reverse=oY P:=by simp[oY]
  refine⟨⟨by simp[oY],(λf b=>by cases b),(λf b=>by cases b)⟩,g,sI,?_,i,sI,(λd a=>by cases a)⟩
  have:=c.sz;simp only[fP,eK] at l;simp only;omega
 |yes e h b f=>exact⟨⟨oB c.sz,c.cy,c.Vs⟩,g,r,nG,(λd a=>by cases a),sI,(λd a=>by cases a)⟩
def Zk(b:T)(a c:L T):RS:=⟨IU,1,[],[δ,δ,δ,δ],0,0,1,δ,[],[],[],b,a,c,1,0,0,[],[]⟩
theorem Vd:iQ IU 1 [] []=γ:=by decide+kernel
theorem Qw:iQ IU 1 [] [⟨⟨2,0,1⟩,δ,[]⟩]=γ:=by decide+kernel
theorem Vo:iQ IU 1 [] [⟨⟨2,0,1⟩,γ,[⟨⟨0,0,0⟩,[0]⟩]⟩]=γ:=by decide+kernel
theorem Na{a:RS}(l:uZ IU 1 9 (Zk i1 e p1) a):a.said=2/\a.vu=3/\a.tree.length=3:=by
 cases l with
 |stop _ _ a=>rcases a with a|a<;>simp[Zk] at a
 |step _ _ _ s p u a l t v r w d m=>
  have g:a=[⟨⟨2,0,1⟩,δ,[]⟩]/\l=0:=by
   simp only[Zk] at d;cases d with
   |stuck b=>rw[Vd] at b;cases b
   |eA f d h c a b=>exact absurd Dy a
   |no f d c a b _ _=>exact absurd Dy a
   |yes d c a b=>have:=wR;simp only[kq,fe,nu,lh] at b;rw[this] at b;cases b
   |push d c a b=>have:=wR;simp only[kq,fe,nu,lh] at b;rw[this] at b;cases b;exact⟨Y,Y⟩
  obtain⟨rfl,rfl⟩:=g;cases m with
  |stop _ _ a=>rcases a with a|a<;>simp[FU,Zk] at a
  |step _ _ _ m g r a d p s l t f n=>
   have h:a=[⟨⟨2,0,1⟩,γ,[⟨⟨0,0,0⟩,[0]⟩]⟩]/\d=0:=by
    simp[FU,Zk,uq] at f;have b:dF IU.length (cP IU 1 (kq [] [⟨⟨2,0,1⟩,δ,[]⟩]))=[0]:=Us;cases f with
    |stuck c=>rw[Qw] at c;cases c
    |eA g f i d a c=>rw[b] at c;simp[bk,fP,cU] at c;obtain⟨⟨rfl,rfl⟩,rfl⟩:=c;exact⟨Y,Y⟩
    |no g f d c a _ _=>rw[b] at a;simp[bk,fP,cU] at a
    |yes f d c a=>rw[b] at c;cases c
    |push f d c a=>rw[b] at c;cases c
   obtain⟨rfl,rfl⟩:=h;cases n with
   |stop _ _ a=>rcases a with a|a<;>simp[FU,Zk] at a
   |step _ _ _ l g n f a m d h p st3 o=>
    have i:a=2/\d.length=3:=by
     simp[FU,Zk,uq] at st3;have b:dF IU.length (cP IU 1 (kq [] [⟨⟨2,0,1⟩,γ,[⟨⟨0,0,0⟩,[0]⟩]⟩]))=[1]:=Ro;cases st3 with
     |stuck c=>rw[Vo] at c;cases c
     |eA g f h d c a=>rw[b] at a;simp[bk,fP,cU] at a
     |no g f d a c k _=>rw[b] at c;simp[bk,fP,cU] at c;subst c;exact⟨Y,sU k⟩
     |yes f d c a=>rw[b] at c;cases c
     |push f d c a=>rw[b] at c;cases c
    obtain⟨rfl,b⟩:=i;cases o with
    |stop _ _ a=>exact⟨Y,Y,by simpa[FU,Zk] using b⟩
    |step _ _ _ _ _ _ _ _ _ _ b a _ _=>simp[FU,Zk] at a
def xN(a:L Nd):ζ:=match ze (a.length+1) a with
 |some (a,[])=>.tuple #[I a.leaves,I a.deep,.bool γ]
 |_=>.tuple #[aI,aI,.bool δ]
structure qW(w:ε)(p q r:E)(x y:T)(z:κ):Prop where
 ha:aY w p #[I x] 3
 hb:aY w q #[I y] 3
 hc:aY w r #[.bool z] 4
 pq:p≠q
 pr:p≠r
 qr:q≠r
theorem qW.fr{w e:ε}{c q d:E}{f:κ}(a:qW w c q d i1 i2 f){S:E->Prop}(b:Fr S w e)(g:¬S c)(h:¬S q)(i:¬S d):qW e c q d i1 i2 f:=
 ⟨b.aB a.ha g,b.aB a.hb h,b.aB a.hc i,a.pq,a.pr,a.qr⟩
def Oj(c:ε)(a q b:E)(d e:T)(f:κ):ε:=((c.setCell (H a 0) (I d)).setCell (H q 0) (I e)).setCell (H b 0) (.bool f)
theorem qW.put{e q f:E}{x b:T}{c:κ}(a:qW W e q f x b c)(b c:T)(d:κ):qW (Oj W e q f b c d) e q f b c d:=by
 exact⟨bi (bi (sU (aD a.ha 0 (I b))) (H _ 0) a.pq (I c)) (H _ 0) a.pr (.bool d),bi (sU (aD (bi a.hb (H _ 0) (dX a.pq) (I b)) 0 (I c))) (H _ 0) a.qr (.bool d),by unfold Oj;simpa using aD (bi (bi a.hc (H _ 0) (dX a.pr) (I b)) (H _ 0) (dX a.qr) (I c)) 0 (.bool d),a.pq,a.pr,a.qr⟩
theorem AK{a q b:E}(c:Fr j V W)(d:V.heap.size<=a)(e:V.heap.size<=q)(f:V.heap.size<=b)(g h:T)(i:κ):Fr j V (Oj W a q b g h i):=
 ((c.cN _ d _).cN _ e _).cN _ f _
structure acx(w:ε)(p q r:E):Prop where
 c0:∃u,w.cell? (H p 0)=S u
 z0:w.frozen? (H p 0)=δ
 c1:∀v,∃u,(w.setCell (H p 0) v).cell? (H q 0)=S u
 z1:∀v,(w.setCell (H p 0) v).frozen? (H q 0)=δ
 c2:∀v v',∃u,((w.setCell (H p 0) v).setCell (H q 0) v').cell? (H r 0)=S u
 z2:∀v v',((w.setCell (H p 0) v).setCell (H q 0) v').frozen? (H r 0)=δ
theorem qW.opn{b q c:E}{d:κ}(a:qW W b q c i1 i2 d):acx W b q c:=
 ⟨⟨_,aj a.ha 0⟩,aG a.ha 0,λb=>⟨_,aj (bi a.hb (H _ 0) (dX a.pq) b) 0⟩,λb=>aG (bi a.hb (H _ 0) (dX a.pq) b) 0,
  λc b=>⟨_,aj (bi (bi a.hc (H _ 0) (dX a.pr) c) (H _ 0) (dX a.qr) b) 0⟩,λc b=>aG (bi (bi a.hc (H _ 0) (dX a.pr) c) (H _ 0) (dX a.qr) b) 0⟩
theorem qW.adr{d q e:E}{f:κ}(a:qW W d q e i1 i2 f)(b c:T):qW ((W.setCell (H d 0) (I b)).setCell (H q 0) (I c)) d q e b c f:=by
 exact⟨bi (sU (aD a.ha 0 (I b))) (H _ 0) a.pq _,sU (aD (bi a.hb (H _ 0) (dX a.pq) (I b)) 0 (I c)),bi (bi a.hc (H _ 0) (dX a.pr) (I b)) (H _ 0) (dX a.qr) _,a.pq,a.pr,a.qr⟩
theorem Fe(c q d:E)(e:ε)(m n:T)(o:κ)(i:qW e c q d m n o):
  CallsD prog 251 #[aP c 0,aP q 0,aP d 0] (.panicking [uh]) e λh k l=>
   h=.returned (.tuple #[])/\k=.panicking [{v:=uh.v,recovered:=γ}]/\l=Oj e c q d 0 0 δ:=by
 obtain⟨⟨v,g⟩,p,a,r,b,s⟩:=i.opn;obtain⟨w,a⟩:=a aI;obtain⟨x,b⟩:=b aI aI;refine callsD_of_wpS func251 Y λu t f=> ?_;unfold uh at f |-;apply wpS_seq;apply wpS_region;simp[wpOpsS,go_sem,recoverD,f,ntmps251,Exit.thenS];refine wpS_cond (t:=γ) (by simp[Act.eval,θ.replicate]) ?_;simp only[eX];apply wpS_region;simp[wpOpsS,go_sem,g,p,a,r,b,s,bodyPostS,results,results251,Oj]
theorem Rs(c q d:Addr)(a:ε):
  CallsD prog 251 #[.pointer (S c),.pointer (S q),.pointer (S d)] .returning a λd b c=>d=.returned (.tuple #[])/\b=.returning/\c=a:=by
 refine callsD_of_wpS func251 Y λb a a=> ?_;apply wpS_seq;apply wpS_region;simp[wpOpsS,go_sem,recoverD,a,ntmps251,Exit.thenS];refine wpS_cond (t:=δ) (by simp[Act.eval,θ.replicate]) ?_;simp only[kv,iG];refine wpS_of_wp (wp_skip ?_);cases b
 simp_all [bodyPostS,results,results251]
theorem zO(g:L Nd)(n:ζ)(f:ε)(l:Sl 146 4 NC f n g)(y:g.length<=fV):
  dr 208 #[n] f (xN g):=by
 have HT:=l;obtain⟨v,w,G,F,rfl,-,-,-⟩:=l;generalize a:g.length=l at HT |-;clear a;go_enter_defers func208,ntmps208
 go_wp2_with fail;refine aZ.nm (λl a=> ?_);obtain⟨c,d⟩:=M f.heap.size;obtain⟨q,k⟩:=M (c+1);obtain⟨e,m⟩:=M (q+1);obtain⟨h,i⟩:=M (e+1);rw[<-d,<-k,<-m,<-i];have b:f.heap.size<=c/\f.heap.size<=q/\f.heap.size<=e/\f.heap.size<=h/\c≠h/\q≠h/\e≠h:=O;have w:qW l c q e 0 0 δ:=⟨by rw[a];exact aC (aC (aC (bM d) _) _) _,by rw[a];exact aC (aC (bM sO) _) _,by rw[a];exact aC (bM sO) _,O,O,O⟩;have n:=fb4 a;have v:wt f l h g:=⟨n,b.2.2.2.1,_,by rw[a];exact bM sO,HT⟩;clear a d k m i;refine sg (Ak f h (g.length+1) g l O y v) ?_;rintro y t ⟨l,v⟩;have k:=(w.fr l b.2.2.2.2.1 b.2.2.2.2.2.1 b.2.2.2.2.2.2);have o:=(n.keep l (λd a=>a▸b.2.2.2.1));rcases v with⟨z,rfl⟩|⟨d,C,A,rfl,B⟩
 .have p:xN g=.tuple #[aI,aI,.bool δ]:=(by unfold xN;rw[z])
  go_wp2;refine nJ (f:=251) (args:=#[aP c 0,aP q 0,aP e 0]) sI (by simp[go_sem]) ?_;refine(Fe c q e t 0 0 δ k).mono ?_;rintro l a i ⟨rfl,rfl,rfl⟩;have a:=k.put 0 0 δ;have l:=aj a.ha 0;have m:=aj a.hb 0;have a:=aj a.hc 0;simp at l m a;simp[Leaves,settle,results,results208,go_sem,l,m,a];exact⟨p.symm,(AK o b.1 b.2.1 b.2.2.1 0 0 δ)⟩
 have r:=A;obtain⟨⟨y,v⟩,z,l,n,w,A⟩:=k.opn;obtain⟨v,l⟩:=l (I d.leaves);have l:=n (I d.leaves);go_wp2_with fail;refine aZ.nm (λi l=> ?_);have a:qW i c q e d.leaves d.deep δ:=(by rw[l];exact k.adr _ _);have k:Fr (λk=>k=c\/k=q) t i:=by rw[l];exact(rF.setCell (H c 0) (λ_=>.inl Y) _).setCell (H q 0) (λ_=>.inr Y) _
 have p:=(o.keep k (λn m=>by omega));have s:=(B.slot k (λm k=>by omega) (λk=>by omega));clear l;cases C with
 |nil=>
  have x:xN g=.tuple #[I d.leaves,I d.deep,.bool γ]:=(by unfold xN;rw[r]);refine sg (aay f h i s) ?_;rintro k D ⟨rfl,rfl⟩;have k:=bx a.ha;have k:=bx a.hb;have k:=bx a.hc;have k:=aG a.ha 0;have k:=aG a.hb 0;have k:=aG a.hc 0;have k:=a.pq.symm;have k:=a.pr.symm;have k:=a.qr.symm;go_wp2_with fail;go_region;have k:=a.put d.leaves d.deep γ;have o:=AK p b.1 b.2.1 b.2.2.1 d.leaves d.deep γ;unfold Oj at k o;obtain⟨n,l⟩:=M ((((D.setCell (H c 0) (I d.leaves)).setCell (H q 0) (I d.deep)).setCell (H e 0) (.bool γ)).drew);have m:qW n c q e d.leaves d.deep γ:=by rw[l];exact⟨k.ha,k.hb,k.hc,a.pq,a.pr,a.qr⟩
  have u:Fr j f n:=(by rw[l];exact o.drew);rw[<-l];clear l;go_wp2;refine nJ (f:=251) (args:=#[aP c 0,aP q 0,aP e 0]) sI (by simp[go_sem]) ?_;refine(Rs _ _ _ n).mono ?_;rintro k d l ⟨rfl,rfl,rfl⟩;have d:=aj m.ha 0;have k:=aj m.hb 0;have l:=aj m.hc 0;simp at d k l;simp[Leaves,settle,results,results208,go_sem,d,k,l];exact⟨x.symm,u⟩
 |cons k d=>
  have m:xN g=.tuple #[aI,aI,.bool δ]:=(by unfold xN;rw[r]);refine sg (aac f h k d i s) ?_;rintro d u ⟨rfl,rfl⟩;go_wp2;refine nJ (f:=251) (args:=#[aP c 0,aP q 0,aP e 0]) sI (by simp[go_sem]) ?_;refine(Fe c q e u _ _ δ a).mono ?_;rintro d c e ⟨rfl,rfl,rfl⟩;have a:=a.put 0 0 δ;have c:=aj a.ha 0;have d:=aj a.hb 0;have a:=aj a.hc 0;simp at c d a;simp[Leaves,settle,results,results208,go_sem,c,d,a];exact⟨m.symm,(AK p b.1 b.2.1 b.2.2.1 0 0 δ)⟩
theorem Uv{a:Tr}(b:ze (N1.length+1) N1=S (a,[])):xN N1=.tuple #[I a.leaves,I a.deep,.bool γ]:=by unfold xN;rw[b]
theorem VY(c:∀a,ze (N1.length+1) N1≠S (a,[])):xN N1=.tuple #[aI,aI,.bool δ]:=by
 unfold xN;split
 .rename_i a b;exact absurd b (c a)
 rfl
theorem Py{a:Hs}{b:Tr}(c:ze (N1.length+1) N1=S (b,[])):ud a i1 K N1=(bm a&&ep i1&&qO a i1 K b):=by unfold ud;rw[c]
theorem YK{a:Hs}(c:∀b,ze (N1.length+1) N1≠S (b,[])):ud a i1 K N1=δ:=by
 unfold ud;split
 .rename_i b a;exact absurd a (c b)
 rfl
theorem zm(f a h c V u W g)(P:eJ g V f)(A:Sl 144 3 CC g u h)(i:Sl 146 4 NC g W c)(t:h.length+c.length<=fV):
  dr 168 #[V,I a,u,W] g (.bool (ud f a h c)):=by
 have K:=P;have HL:=A;have HT:=i;obtain⟨a6,rfl,-⟩:=P;obtain⟨a3,a9,b0,a5,rfl,-,-,-⟩:=i;generalize P:c.length=a7 at HT t |-;have HTN:=Z P;clear P;by_cases U:∃e,ze (c.length+1) c=S (e,[])
 .obtain⟨e,i⟩:=U
  have z:N (ud f a h c=(bm f&&ep a&&qO f a h e)):=Z (Py i);have w:=Z (pj _ _ _ _ i);have a0:(ep a=(a==0||a==1)):=Y
  delta dr aQ;go_in
  go_wp2_with fail;refine nqS g ?_;intro B o V P;have k:=cY o;have a1:=dL o P;clear o P;refine sg (zO c _ B (HT.f k) (gX t HTN.1)) ?_;rintro d X ⟨rfl,b⟩;rw[(Uv i)];have F:=(k.step b);have y:=Z (b.hs a1.1);have a4:=bx y.1;go_wp2_with fail;refine sg (dV f _ X (K.fr F)) ?_;rintro d v ⟨rfl,b⟩;have l:=(F.step b);have a2:=Z (b.hs y.1);clear b y;cases n:bm f
  .have x:=Z n
   clear n;go_wp2;go_ret;exact aM (by rw[z.1,x.1];rfl) l
  have x:=Z n;clear n;have a4:=λi=>bx (aC a2.1 i);have GO:∀(n:ε)(i:E),ep a=γ->Fr j g n->i=v.heap.size->n=v.alloc (.cells #[.slice a3 a7 a5] 349)->aQ 209 #[aP i 0,.agg #[a6],I a,u] n λd y=>d=.returned (.bool (ud f a h c))/\Fr j g y:=λn i A hF y F=>by
   have P:=y.symm;have Q:g.heap.size<=i:=oB l.size;refine((wX g i f a e w.1.2) h _ u [] n ⟨hF,Q,_,by rw[F];exact bM y,by rw[<-w.1.1];exact HT⟩ K (HL.f hF) ?_).mono ?_
   .have s:=kW e
    have f:c.length=e.flat.length:=by have:=cH L.length w.1.1;simpa using this
    have:=t;have:=HTN.1;omega
   rintro d f ⟨rfl,-,b⟩;exact⟨by rw[z.1,x.1,A];rfl,hF.keep b (λf d=>d▸Q)⟩
  have G:=Z GO;clear GO;by_cases r:a=0
  .subst r
   have m:N (ep 0=γ):=Z Y;go_wp2_with fail;refine aZ.nm (λC p=> ?_);refine sg (G.1 C v.heap.size m.1 (by rw[p];exact l.alloc _) Y p) ?_;rintro d a8 ⟨rfl,b⟩;go_wp2;go_ret;exact⟨Y,b⟩
  have D:(a==0)=δ:=sU r;by_cases s:a=1
  .subst s
   have m:N (ep 1=γ):=Z Y;clear r D;go_wp2_with fail;refine aZ.nm (λC p=> ?_);refine sg (G.1 C v.heap.size m.1 (by rw[p];exact l.alloc _) Y p) ?_;rintro d a8 ⟨rfl,b⟩;go_wp2;go_ret;exact⟨Y,b⟩
  have f:(a==1)=δ:=sU s;have m:(ep a=δ):=(by rw[a0,D,f];rfl);have f:(a !=0)=γ:=sU r;have f:(a !=1)=γ:=sU s;go_wp2;go_ret;exact aM (by rw[z.1,m];simp) l
 have R:∀e,ze (c.length+1) c≠S (e,[]):=λe d=>U ⟨e,d⟩
 delta dr aQ;go_in
 go_wp2_with fail;refine aZ.nm (λB o=> ?_);have k:=cY o;refine sg (zO c _ B (HT.f k) (gX t HTN.1)) ?_;rintro d X ⟨rfl,b⟩;rw[(VY R)];go_wp2;go_ret;exact aM (YK R).symm (k.step b)
def AF(a:TypeId):Prop:=a=146\/a=3
def MC(d:ε)(c:L ζ)(a:Mk):Prop:=∃b,c=[I a.c.k,I a.c.a,I a.c.b,.bool a.rt,b]/\Sl 146 4 NC d b a.dn
theorem MC.aJ:dU AF MC:=by
 rintro g i f h x a d ⟨e,b,c⟩;exact⟨e,b,c.aJ NC.aJ a (λc b a=>d c b (a.imp id (λa=>a)))⟩
instance:SC MC:=⟨_,MC.aJ⟩
theorem fF.mk(d:fF 279 5 MC W A m q m1){a:Mk}(e:m1[n1]? =S a):
  ∃b,W.cell? (H m (q+n1*5))=S (I a.c.k)/\W.cell? (H m (q+n1*5+1))=S (I a.c.a)/\W.cell? (H m (q+n1*5+2))=S (I a.c.b)/\W.cell? (H m (q+n1*5+3))=S (.bool a.rt)/\W.cell? (H m (q+n1*5+4))=S b/\Sl 146 4 NC W b a.dn:=by
 obtain⟨g,-,⟨f,rfl,c⟩,b⟩:=d.2 n1 a e;exact⟨f,b 0 _ Y,b 1 _ Y,b 2 _ Y,b 3 _ Y,b 4 _ Y,c⟩
def mkv(a:Mk)(b:ζ):ζ:=.agg #[I a.c.k,I a.c.a,I a.c.b,.bool a.rt,b]
theorem xC(a b):dr 171 #[iP a] b (iP a.back):=by
 obtain⟨d,a,c⟩:=a;unfold iP Ch.back;simp only;have a:(prog.info? 144).map (·.size)=S 3:=kR
 delta dr aQ;go_in
 go_wp2;refine aO (gp Y _ _ (b.heap.size+1) 144 _ (0,0) _ Y (bM sI) underlying144 Y (by rw[a];rfl)) Y ⟨Y,cZ.alloc _⟩
theorem xx(c k m l a):dr 170 #[mkv c (.slice k m l)] a (iP c.yG):=by
 obtain⟨⟨g,e,f⟩,rt,c⟩:=c;unfold mkv;simp only;have d:(prog.info? 144).map (·.size)=S 3:=kR;cases rt
 .delta dr aQ;go_in
  go_wp2;refine aO (gp Y _ _ (a.heap.size+1) 144 _ (0,0) _ Y (bM sI) underlying144 Y (by rw[d];rfl)) Y ⟨Y,cZ.alloc _⟩
 delta dr aQ;go_in
 go_wp
 refine aZ.nm (λk b=> ?_);obtain⟨q,c⟩:=M (a.heap.size+1);rw[<-c];have h:=lq b;have i:=dL b sO;have HQ:a.heap.size<=q:=O;clear b c;refine sg (xC ⟨g,e,f⟩ k) ?_;rintro a c ⟨rfl,b⟩;have a:=b.hs i.1;have c:=(h.step b);have h:=aj a 0;have i:=aj a 1;have k:=aj a 2;have l:=λl=>aG a l;simp at h i k;clear b;unfold iP Ch.back;simp only;go_wp2;have a:=aD (aD (aD a 0 (I g)) 1 (I f)) 2 (I e);refine aO (gp Y _ _ q 144 _ (0,0) _ Y a underlying144 Y (by rw[d];rfl)) Y ⟨by unfold Mk.yG Ch.back iP;simp,?_⟩;exact c.keep ((((Fr.refl (λa=>a=q) _).aK 0 _).aK 1 _).aK 2 _) (λb a=>a▸HQ)
theorem Aq(a p d)(D:Sl 279 5 MC d p a)(o:a.length<=fV):
  aQ 223 #[p] d λf b=>∃c e,f=.returned c/\cC d.heap.size 144 3 CC b c (a.map Mk.yG) e/\Fr j d b:=by
 obtain⟨G,P,X,R,rfl,C,V,l⟩:=D;generalize p:a.length=c at C o |-;unfold fV at o;obtain⟨o,m⟩:=M d.heap.size;rw[<-m]
 delta aQ;go_in
 go_wp2;go_loopg [3,8] c (λgk s3 s8 wr=>∃(b:E)(e:L (L ζ)),b+gk=c/\s8=I b/\cC o 144 3 CC wr s3 ((a.take b).map Mk.yG) e/\Fr j d wr)
 .exact⟨0,[],du,Y,qG,rF⟩
 case round=>
  obtain⟨b,s,HJ,rfl,k,f⟩:=hrel;have d:b<=c:=O;obtain⟨h,e⟩:∃d,((a.take b).map Mk.yG).length=d:=⟨_,Y⟩;obtain⟨K,U,rfl,-,-⟩:=k.shape e;have d:h<=c:=by rw[<-e,eo,cV];omega
  by_cases d:b<c
  .obtain⟨i,g⟩:=gE a b O
   obtain rfl:=l.addr g;obtain⟨d,v,w,x,y,z,F⟩:=(l.aJ MC.aJ f (λ_ _ _ _ d=>d)).mk g;obtain⟨t,Q,W,u,rfl,-,-,-⟩:=F;have n:(a.take (b+1)).map Mk.yG=(a.take b).map Mk.yG++[i.yG]:=(by rw[bJ g];simp);have⟨c,d⟩:=dy b c;have A:(h+1)*24<=140737488355328:=O;have B:h+1<=maxLen:=mL;clear g;(go_wp);refine aZ.nm (λd c=> ?_);have r:=cY c;clear c v w x y z;refine sg (xx i t i.dn.length u d) ?_;rintro c d ⟨rfl,g⟩;have c:=(r.step g);clear g;generalize d:i.yG=g at n |-;clear d;obtain⟨o,i,l⟩:=g;unfold iP;simp only;go_wp2_with (at_builtin;refine stop ?_);refine aZ.go (AM (λp d=> ?_));have c:Fr j wr p:=(by rw[d];exact c.step cZ);have g:=dL d Y;clear d;refine bH Y (.tmp 12) (.tmp 15) Y lD h e Y (k.f c) (Pl.aJ eM (λ_=>False)) id (⟨o,i,l⟩:Ch) Y Y (eF.block g.1 oC) (λ_ _=>Y) A B ?p6 ?p7
   case p6=>have:=f.size;have:=c.size;omega
   case p7=>
    intro h i l g d _ _;have c:=(d.fr (gh m.symm) (f.step c));clear d;go_wp2;go_roundg (gk-1)
    .exact⟨b+1,_,O,by go_num,by rw[n];exact g,c⟩
    omega
  have g:a.take b=a:=(dq O);go_wp2;go_ret;exact⟨_,s,Y,by have:=k;rw[g] at this;rw[<-e,g];rw[<-e,g] at this;exact this,f⟩
theorem XF:dK prog 75 203 2 16:=dK.of underlying75 (z:=.agg #[aI,aI]) kR Y J
theorem sW(h b a)(l:Sl 3 1 CI a h b)(n:b.length*8<=140737488355328):
  aQ 52 #[h] a λf d=>∃c e,f=.returned c/\cC a.heap.size 3 1 CI d c b e/\Fr j a d:=by
 obtain⟨k,o,p,f,rfl,g,m,e⟩:=l;obtain⟨d,HM⟩:∃c,b.length=c:=⟨_,Y⟩;rw[HM] at g n;rw[HM];have g:=bX g m;cases k with
 |none=>
  have i:b=[]:=(by
   rcases e.1 with c|⟨c,-⟩
   .exact c
   cases c)
  have b:=λb:ε=>Go.Lib.run_eql_slice_nil (P:=prog) b 30 3 η d f 0 0 underlying30
  delta aQ;go_in
  go_wp2;go_ret;exact⟨_,[],Y,by rw[i];exact qG,rF⟩
 |some b=>
  have b:=λc:ε=>Go.Lib.run_eql_slice_nil (P:=prog) c 30 3 (S b) d f 0 0 underlying30
  delta aQ;go_in
  go_wp2_with (at_builtin;refine stop ?_);refine aZ.go (jI Y (.tmp 5) (.tmp 6) Y oG (λ_=>Y) 0 d Y HM Y (cC.lit (m:=0) (cs:=#[]) (xs:=[]) (L:=[]) (bM Y) eG Y (by simp[maxLen]) Y Y sI) Y ((λb=>(e.f ((Fr.refl j a).alloc b)).src (λ_=>Y) (λd c b=>by simp[cW] at b;rcases b with rfl|rfl|rfl<;>rfl)) _) O O sI ?_);intro b d e c i _ _;go_wp2;go_ret;exact⟨_,_,Y,by have:=c;rw[eW,eW,de] at this;exact this,(i.fr eG ((Fr.refl j a).alloc _))⟩
theorem YO(h b a)(l:Sl 203 2 CK a h b)(n:b.length*16<=140737488355328):
  aQ 76 #[h] a λf d=>∃c e,f=.returned c/\cC a.heap.size 203 2 CK d c b e/\Fr j a d:=by
 obtain⟨k,o,p,f,rfl,g,m,e⟩:=l;obtain⟨d,HM⟩:∃c,b.length=c:=⟨_,Y⟩;rw[HM] at g n;rw[HM];have g:=bX g m;cases k with
 |none=>
  have i:b=[]:=(by
   rcases e.1 with c|⟨c,-⟩
   .exact c
   cases c)
  have b:=λb:ε=>Go.Lib.run_eql_slice_nil (P:=prog) b 75 203 η d f 0 0 underlying75
  delta aQ;go_in
  go_wp2;go_ret;exact⟨_,[],Y,by rw[i];exact qG,rF⟩
 |some b=>
  have b:=λc:ε=>Go.Lib.run_eql_slice_nil (P:=prog) c 75 203 (S b) d f 0 0 underlying75
  delta aQ;go_in
  go_wp2_with (at_builtin;refine stop ?_);refine aZ.go (jI Y (.tmp 5) (.tmp 6) Y XF (λ_=>Y) 0 d Y HM Y (cC.lit (m:=0) (cs:=#[]) (xs:=[]) (L:=[]) (bM Y) eG Y (by simp[maxLen]) Y Y sI) Y ((λb=>(e.f ((Fr.refl j a).alloc b)).src (λ_=>Y) (λd c b=>by simp[fv] at b;rcases b with rfl|rfl|rfl<;>rfl)) _) O O sI ?_);intro b d e c i _ _;go_wp2;go_ret;exact⟨_,_,Y,by have:=c;rw[eW,eW,de] at this;exact this,(i.fr eG ((Fr.refl j a).alloc _))⟩
theorem ID(n a3 r)(b4:Sl 146 4 NC r a3 n)(b5:n.length<=fV)(d4:∀i∈n,i.cy.length<=CY):
  aQ 281 #[a3] r λv a3=>∃b9 F,v=.returned b9/\cC r.heap.size 146 4 NC a3 b9 n F/\Fr j r a3:=by
 have HT:=b4;obtain⟨d8,d9,e3,e0,rfl,d5,e1,-⟩:=b4;generalize b4:n.length=G at HT b5 d5 |-;have HTN:=Z b4;unfold fV at b5;obtain⟨D,a3⟩:=M r.heap.size;have a4:=Z a3;rw[<-a3];clear b4 a3
 delta aQ;go_in
 go_wp2;go_loopg [3,8] G (λgk s3 s8 wr=>∃(f:E)(F:L (L ζ)),f+gk=G/\s8=I f/\cC D 146 4 NC wr s3 (n.take f) F/\Fr j r wr)
 .exact⟨0,[],du,Y,qG,rF⟩
 case round=>
  obtain⟨f,F,HJ,rfl,a0,K⟩:=hrel;have r:f<=G:=O;have b6:(n.take f).length=f:=by rw[cV];have:=HTN.1;omega
  obtain⟨c0,c3,rfl,-,-⟩:=a0.shape b6;by_cases r:f<G
  .obtain⟨i,V⟩:=gE n f aba
   (obtain⟨r,a3,b5,b4,c8,-,-,b2⟩:=HT.f K;obtain⟨rfl,-,rfl⟩:=ζ.slice.inj c8;obtain rfl:=b2.addr V;obtain⟨r,c5,c6,c7,a9,b7⟩:=b2.nd V;have a6:i.cy.length<=CY:=(d4 i (bQ V));have X:=b7;obtain⟨c1,bc,e2,c4,rfl,-,-,-⟩:=b7;obtain⟨⟨B,y,A⟩,t⟩:=i;obtain⟨s,r⟩:=M t.length;simp only at c5 c6 c7 a9 X a6;rw[<-r] at a9 X;have a3:s<=71:=by have:=a6;rw[<-r] at this;exact this);have a5:=Z r;have⟨a3,a6⟩:=dy f G;clear r;go_wp2;refine Zv wr ?_;intro o r a3 G;have P:=cY r;have a8:=dL r G;clear r G;refine iH [5,6,7] [8] [0,1,2,3,4,5,6,7,8] (Fr (λw=>D<=w)) [[],[],[1],[],[3],[3,4],[1,2,3,4,5],[1,2,3,4,5,6],[0,1,2,3,4,5,6,7],[0,1,2,3,4,8]] [.w1 0 (λr _=>r=.slice c0 f c3),.w1 1 (λr _=>r=aP a3 0),.w1 2 (λr _=>r=.agg #[I B,I y,I A]),.w1 3 (λr _=>r=aP a3 3),.w1 4 (λr _=>r=.slice c1 s c4),.w1 5 (λi c=>∃l m,i=.slice l s m/\Sl 3 1 CI c (.slice l s m) t),.w1 6 (λi c=>∃l m,i=.agg #[I B,I y,I A,.slice l s m]/\Sl 3 1 CI c (.slice l s m) t),.w1 7 (λi c=>∃W l m,i=.slice (S (H W 0)) 1 1/\aY c W #[I B,I y,I A,.slice l s m] 146/\Sl 3 1 CI c (.slice l s m) t),.w1 8 (λi c=>∃z x Q,i=.slice x (f+1) z/\cC D 146 4 NC c (.slice x (f+1) z) (n.take f++[⟨⟨B,y,A⟩,t⟩]) Q),.w1 9 (λi c=>∃z x Q,i=.slice x (f+1) z/\cC D 146 4 NC c (.slice x (f+1) z) (n.take f++[⟨⟨B,y,A⟩,t⟩]) Q)] [[0],[1],[2],[3],[4],[5],[6],[7],[8],[9]] kR kR kR kR kR Y (λ_ _ _ _ v n=>⟨v.symm.trans n.1,n.2⟩) (λ_ _ a2=>a2.mono (λ_ _ i=>i.elim)) (λ_ _ _ n w=>n.tr w) ?hstab ?hstabM ?walk
   case hstab=>exact Il
   case hstabM=>
    intro d6 b3;simp only[rB] at b3;subst b3;and_intros<;>first|trivial|exact wZ
   case walk=>
    intro i;obtain⟨s0,s1,s2,s3,s4,s5,s6,s7,s8,s9,HS⟩:=aar i;and_intros
    ·
     intro c b a p d;replace b:Fr j o c:=b;simp only[rY,ξ,HS] at d |-;go_simp;exact d _ _ rF Y
    ·
     intro c b a p d;replace b:Fr j o c:=b;simp only[rY,ξ,HS] at d |-;go_simp;exact d _ _ rF Y
    ·
     intro c b a p d;replace b:Fr j o c:=b;have g:=a 1 J;simp only[rA,bG.at,HS] at g;simp only[rY,ξ,HS] at d |-;subst g;obtain⟨i,n,c2,-⟩:=mD (b.hs a8.1);go_simp;exact d _ _ rF Y
    ·
     intro c b a p d;replace b:Fr j o c:=b;simp only[rY,ξ,HS] at d |-;go_simp;exact d _ _ rF Y
    ·
     intro c b a p d;replace b:Fr j o c:=b;have e:=a 3 J;simp only[rA,bG.at,HS] at e;simp only[rY,ξ,HS] at d |-;subst e;have i:=iT (b.hs a8.1);go_simp;exact d _ _ rF Y
    ·
     intro c b a p d;replace b:Fr j o c:=b;have e:=a 3 J;have h:=a 4 J;simp only[rA,bG.at,HS] at e h;simp only[rY,ξ,HS] at d |-;subst e h;go_simp;go_at_call 52;refine(sW _ t c ((X.f P).f b) (oB a5.1)).mono ?_;rintro v r ⟨i,n,rfl,b8,a2⟩;obtain⟨d7,c2,rfl,-,-⟩:=b8.shape (m:=s) a5.1.symm;exact d _ _ a2 ⟨_,_,Y,b8.read⟩
    ·
     intro c b a p d;replace b:Fr j o c:=b;have g:=a 1 J;have k:=a 2 J;have e:=a 3 J;have h:=a 4 J;have C:=a 5 J;simp only[rA,bG.at,HS] at g k e h C;simp only[rY,ξ,HS] at d |-;subst g k e h;obtain⟨l,m,rfl,d0⟩:=C;go_simp;exact d _ _ rF ⟨_,_,Y,d0⟩
    ·
     intro c b a p d;replace b:Fr j o c:=b;have g:=a 1 J;have k:=a 2 J;have e:=a 3 J;have h:=a 4 J;have C:=a 5 J;have R:=a 6 J;simp only[rA,bG.at,HS] at g k e h C R;simp only[rY,ξ,HS] at d |-;subst g k e h;obtain⟨l,m,rfl,d1⟩:=R;go_simp;exact d _ _ cZ ⟨_,_,_,Y,bM Y,d1.f cZ⟩
    ·
     intro c b a p d;replace b:Fr j o c:=b;have u:=a 0 J;have g:=a 1 J;have k:=a 2 J;have e:=a 3 J;have h:=a 4 J;have C:=a 5 J;have R:=a 6 J;have b0:=a 7 J;simp only[rA,bG.at,HS] at u g k e h C R b0;simp only[rY,ξ,HS] at d |-;subst u g k e h;obtain⟨W,l,m,rfl,d3,d2⟩:=b0;have a7:=a0.f (P.step b);rw[aS fX];refine pM fX (.tmp 12) (.tmp 19) fX sC f b6 fX a7 NC.aJ i3N (⟨⟨B,y,A⟩,t⟩:Nd) fX Y (eF.block d3 oC) (λi c9=>⟨_,Y,d2.beside (Pl.aJ cW (λ_=>False)) a7 c9 J id⟩) O mL (by have:=K.size;have:=P.size;have:=a4.1;have:=b.size;omega) ?_;intro m n l a1 i _ _;exact d _ _ (i.1.mono (λw _ v=>i.2 w v)) ⟨_,_,_,Y,a1⟩
    ·
     intro c b a p d;replace b:(Fr (λw=>D<=w)) o c:=b;have u:=a 0 J;have g:=a 1 J;have k:=a 2 J;have e:=a 3 J;have h:=a 4 J;have U:=a 8 J;simp only[rA,bG.at,HS] at u g k e h U;simp only[rY,ξ,HS] at d |-;subst u g k e h;go_simp;exact d _ _ rF U
    intro c b a;have u:=a 0 J J;have g:=a 1 J J;have k:=a 2 J J;have e:=a 3 J J;have h:=a 4 J J;have U:=a 8 J J;have b1:=a 9 J J;simp only[rA,bG.at,HS] at u g k e h U b1;simp only[Act.put,rC,HS];subst u g k e h;obtain⟨z,x,Q,rfl,a1⟩:=b1;go_wp2;go_roundg (gk-1)
    .exact⟨f+1,_,O,by go_num,by rw[(bJ V)];exact a1,((K.step P).keep b (λd6 v=>by have:=a4.1;omega))⟩
    omega
  go_wp2;go_ret;exact⟨_,F,Y,by have:=a0;rw[(dq aba)] at this;exact this,K⟩
theorem fF.adJ(n:fF t m C W A q n1 X)(x:0<m)(v:∀a b,C W a b->∀e∈a,e.oneCell'=γ):
  ∃d:L (L ζ),d.length=X.length/\(∀f∈d,f.length=m)/\(∀(b:E) a c,d[b]? =S a->X[b]? =S c->a.length=m/\C W a c)/\eF W A d.flatten:=by
 obtain⟨g,o,w⟩:=n.rows;have h:∀(b:E) a,g[b]? =S a->∃c,X[b]? =S c/\a.length=m/\C W a c/\∀d e,a[d]? =S e->W.cell? (H q (n1+b*m+d))=S e:=λb a d=>by
  obtain⟨c,i⟩:=gE X b (oB ((cj.1 d).1));obtain⟨s,k,l,p,r⟩:=w b c i;rw[d] at k;obtain rfl:=cI k;exact⟨c,i,l,p,r⟩
 have p:∀f∈g,f.length=m:=λf k=>by
  obtain⟨b,d⟩:=kc k;obtain⟨c,-,f,-⟩:=h b f d;exact f
 refine⟨g,o,p,λb a c d i=> ?_,?_,λe l=> ?_⟩
 .obtain⟨f,r,s,u,-⟩:=h b a d
  rw[i] at r;obtain rfl:=cI r;exact⟨s,u⟩
 .by_cases f:X=[]
  .left
   have:g=[]:=fH (by rw[o,f];rfl);rw[this];rfl
  right;refine⟨_,(n.1.resolve_left f).1,λb e l=> ?_⟩;obtain⟨g,i,f⟩:=Ka p x l;obtain⟨c,-,-,-,g⟩:=h _ g i
  have:=g _ e f;rw[eV];rwa[nT,lK,E.div_add_mod] at this
 obtain⟨a,k,f⟩:=L.mem_flatten.1 l;obtain⟨b,d⟩:=kc k;obtain⟨c,-,-,b,-⟩:=h b a d;exact v a c b e f
theorem ja{P:Program}{v:TypeId->Prop}(a6:o2.guard=η)(p r){i:TypeId}(b0:o2.op=Op.call {callee:=Callee.builtin Builtin.append,args:=#[p,r],argTypes:=#[i,i]})(s:dK P i t m q){xs f:L α}(c a)(a9:xs.length=c)(o:f.length=a)(b1:a1.eval p=x)(g:cC n1 t m C W x xs L1)(w:dU v C)(z:¬v t)(b4:a1.eval r=.slice A a n4)(R:fF t m C W A n2 n3 f)(n:∀e k,C W e k->∀b7∈e,b7.oneCell'=γ)(a4:(c+a)*q<=140737488355328)(a0:c+a<=maxLen)(a5:n1<=W.heap.size)(a2:∀h b d F,cC n1 t m C d (.slice h (c+a) b) (xs++f) F->mV n1 x W d->c+a<=b->b<=maxLen->wpList P o1 Q r1 (a1.put o2.dst (.slice h (c+a) b)) d):
  wpList P o1 Q (o2::r1) a1 W:=by
 subst a9 o;obtain⟨G,y,a8,a3,b2⟩:=R.adJ s.pos n;refine eD a6 p r b0 s b1 g.row (m:=f.length) b4 (by rw[iw a8,y]) b2 a4 a0 a5 λb8 d D B _=> ?_;have u:=g.On B;have K:=g.app (M:=G) (ys:=f) w z y (λb6 e k a7 b5=>by
  obtain⟨U,V⟩:=a3 b6 e k a7 b5;exact⟨U,w _ W d e k u.1 (λi a b3 o l=>o.ne (aW g.row l).2 (λl=>z (by subst l;exact b3)) Y) V⟩) D B
 obtain⟨h,b,rfl,n,X⟩:=bB D;exact a2 h b d _ K u n X
theorem Sf:dK prog 62 279 5 56:=dK.of underlying62 (z:=.agg #[aI,aI,aI,.bool δ,aV]) kR Y J
theorem MC.one{b:Mk}(a:MC W Y1 b):∀b∈Y1,b.oneCell'=γ:=by
 obtain⟨g,rfl,c,d,f,e,rfl,-⟩:=a;intro b a;simp only[rB] at a;rcases a with rfl|rfl|rfl|rfl|rfl<;>rfl
theorem Po:¬AF 279:=by unfold AF;decide
theorem Yp(h b a)(l:Sl 279 5 MC a h b)(n:b.length*56<=140737488355328):
  aQ 280 #[h] a λf d=>∃c e,f=.returned c/\cC a.heap.size 279 5 MC d c b e/\Fr j a d:=by
 obtain⟨k,o,p,f,rfl,g,m,e⟩:=l;obtain⟨d,HM⟩:∃c,b.length=c:=⟨_,Y⟩;rw[HM] at g n;rw[HM];have g:=bX g m;cases k with
 |none=>
  have i:b=[]:=(by
   rcases e.1 with c|⟨c,-⟩
   .exact c
   cases c)
  have b:=λb:ε=>Go.Lib.run_eql_slice_nil (P:=prog) b 62 279 η d f 0 0 underlying62
  delta aQ;go_in
  go_wp2;go_ret;exact⟨_,[],Y,by rw[i];exact qG,rF⟩
 |some b=>
  have b:=λc:ε=>Go.Lib.run_eql_slice_nil (P:=prog) c 62 279 (S b) d f 0 0 underlying62
  delta aQ;go_in
  go_wp2_with (at_builtin;refine stop ?_);refine aZ.go (ja Y (.tmp 5) (.tmp 6) Y Sf 0 d Y HM Y (cC.lit (m:=0) (cs:=#[]) (xs:=[]) (L:=[]) (bM Y) eG Y (by simp[maxLen]) Y Y sI) MC.aJ Po Y ((λb=>e.aJ MC.aJ ((Fr.refl j a).alloc b) (λ_ _ _ _ b=>b)) _) (λc d b=>b.one) O O sI ?_);intro d e f b c i _ _;go_wp2;go_ret;exact⟨_,_,Y,by have:=c;rw[eW,de] at this;exact this,(i.fr eG ((Fr.refl j a).alloc _))⟩
theorem TC(b:X[m]? =S x1):X.set m x1=X:=by
 apply lB;intro c;by_cases a:m=c
 .subst a
  rw[jU (cj.1 b).1,b]
 rw[lQ a]
def aaS(a:Mk):Prop:=a.dn.length<=fV/\∀b∈a.dn,b.cy.length<=CY
theorem Xp(r c f)(h:Sl 279 5 MC f r c)(a5:c.length*56<=140737488355328)(a3:∀t∈c,aaS t):
  aQ 222 #[r] f λd t=>∃r g,d=.returned r/\cC f.heap.size 279 5 MC t r c g/\Fr j f t:=by
 have⟨y,z⟩:=bD h a5;obtain⟨b2,b4,c1,b6,rfl,a0,a1,-⟩:=h;obtain⟨l,t⟩:=M c.length;rw[<-t] at y z a0 |-;have HN:=Z t;unfold maxLen at a1;obtain⟨w,r⟩:=M f.heap.size;have A:=Z r;rw[<-r];clear t r
 delta aQ;go_in
 go_wp2_with fail;refine sg (Yp _ c f y.1 (by rw[<-HN.1];exact z.1)) ?_;rintro d t ⟨r,U,rfl,s,R⟩;rw[<-A.1] at s;obtain⟨W,D,rfl,b9,b1⟩:=s.shape HN.1.symm;unfold maxLen at b1;go_wp2_with fail;go_loopg [10] l (λgk s10 wr=>∃(a:E)(g:L (L ζ)),a+gk=l/\s10=I a/\cC w 279 5 MC wr (.slice W l D) c g/\Fr j f wr)
 .exact⟨0,U,du,Y,s,R⟩
 case round=>
  obtain⟨a,g,b8,rfl,m,x⟩:=hrel;by_cases f:a<l
  .obtain⟨b,n⟩:=gE c a fU
   obtain⟨e,r,f,F,K,-,⟨s,a6,Q⟩,i,a7,a2,a4⟩:=m.at n;simp only[cM] at F;obtain⟨rfl,-,rfl⟩:=F;subst a6;have B:=Z Q;obtain⟨b3,b5,c0,b7,rfl,-,-,-⟩:=Q;obtain⟨r,f⟩:=M b.dn.length;rw[<-f] at i K B;have r:wr.cell? (H e (a*5))=S (I b.c.k):=i 0 _ Y;have r:wr.cell? (H e (a*5+1))=S (I b.c.a):=i 1 _ Y;have r:wr.cell? (H e (a*5+2))=S (I b.c.b):=i 2 _ Y;have r:wr.cell? (H e (a*5+3))=S (.bool b.rt):=i 3 _ Y;have r:=Z a7;have⟨r,s⟩:=dy a l;clear f;go_wp2_with fail;refine aZ.nm (λl f=> ?_);have G:=cY f;have f:=a3 b (bQ n);refine sg (ID b.dn _ l (B.1.f G) f.1 f.2) ?_;rintro d u ⟨l,f,rfl,P,X⟩;have k:=(G.step X);obtain⟨o,p,rfl,-,-⟩:=P.shape (m:=b.dn.length) Y;have c2:u.frozen? (H e (a*5+4))=δ:=by
    obtain⟨l,r,f,v,-,-,-,-,b0,-,-⟩:=(m.f k).at n;simp only[cM,fZ,Addr.mk.injEq] at v;obtain⟨⟨rfl,-⟩,-⟩:=v;exact b0 _
   have f:=k.aF (i 4 _ Y) id;go_wp2_with fail;have V:Sl 146 4 NC (u.setCell (H e (a*5+4)) (.slice o b.dn.length p)) (.slice o b.dn.length p) b.dn:=P.read.aJ NC.aJ (rF.aK _ _) (λi f a9 a8 d=>by
    subst d;refine a8.ne (a4.fr k id) (λd=> ?_) Y;subst d;rcases a9 with h|h
    .cases h
    cases h)
   have C:=(show cC w 279 5 MC u (.slice (S (H e 0)) c.length D) c g by rw[<-HN.1];exact m.f k).set (k:=a) (i:=4) (u:=.slice o b.dn.length p) (x:=b) MC.aJ Po K J ⟨_,Y,V⟩;rw[TC n,<-HN.1] at C;go_roundg (gk-1)
   .exact⟨a+1,_,O,by go_num,C,((x.step k).cN _ (by have:=a2;have:=A.1;simp;omega) _)⟩
   omega
  go_wp2;go_ret;exact⟨_,g,Y,m,x⟩
theorem NC.one{b:Nd}(a:NC W Y1 b):∀b∈Y1,b.oneCell'=γ:=by
 obtain⟨g,rfl,c,d,f,e,rfl,-⟩:=a;intro b a;simp only[rB] at a;rcases a with rfl|rfl|rfl|rfl<;>rfl
theorem XQ(a:E)(f:a<=fV)(b:ε):
  aQ 316 #[aV,I a] b λe c=>∃d,e=.returned d/\cC b.heap.size 146 4 NC c d [] []/\Fr j b c:=by
 unfold fV at f;by_cases c:a=0
 .subst c
  delta aQ;go_in
  go_wp2;go_ret;exact⟨_,Y,qG,rF⟩
 obtain⟨f,g,h,i,e⟩:=lV AD;have c:¬(0:E)+a<=0:=O;have e:∀c,(Builtin.append_ #[32,3] c #[aV,I a]).run prog b=
   .ok (.slice (S (H b.heap.size 0)) a (grownCap b a 0 146)) (b.drew.alloc (.cells ((#[]:θ ζ)++Builtin.zeroCells #[aI,aI,aI,aV] a++Builtin.zeroCells #[aI,aI,aI,aV] (grownCap b a 0 146-a)) 146)):=λc=>by
  have c:=Lib.run_append_grow_zeros (P:=prog) b 32 3 c 146 f (.agg #[aI,aI,aI,aV]) .i64 .i64 underlying32 underlying3 g h η 0 0 [] (run_firstCells_none b.drew f.size 0 0 0) a O (by rw[i];omega) O O
   (by rw[e];omega) (by rw[de];exact growslice_fits O (by rw[e];omega))
  rwa[de] at c
 have f:a<=grownCap b a 0 146:=grownCap_ge b _ _ _;obtain⟨d,c⟩:=M (grownCap b a 0 146);have g:d<=9223372036854775807:=by
  have:=grownCap_le_maxLen b a 0 146 (by unfold maxLen;omega);rw[<-c] at this;unfold maxLen at this;omega
 rw[<-c] at e f;clear c;have c:¬((a:T)<0):=O;have c:(a:T)>0:=O;have a:decide (0<a)=γ:=sO
 delta aQ;go_in
 go_wp2_with (at_builtin;refine Lib.wpList_append_run _ Y _ _ _ _ Y _ _ Y Y _ _ (e _) ?_);all_goals(
  go_ret;refine⟨_,Y,⟨?_,Y,sI⟩,?_⟩
  .exact⟨Y,.inr ⟨b.heap.size,d,_,Y,eG,bM Y,nG,by unfold maxLen;omega,by simp[size_zeroCells];omega,sI⟩⟩
  exact((Fr.refl j b).drew).alloc _)
theorem Ha(d g r:L Nd)(K P Q:ζ)(u:E)(c:ε)(k:aY c u #[K,P,Q] 32)(D:Sl 146 4 NC c K d)(F:Sl 146 4 NC c P g)(G:Sl 146 4 NC c Q r)(p:d.length+g.length+r.length<=fV):
  aQ 282 #[.slice (S (H u 0)) 3 3] c λo i=>∃a b,o=.returned a/\cC c.heap.size 146 4 NC i a (d++g++r) b/\Fr j c i:=by
 have w:=D;have x:=F;have y:=G;have f:=Z k;obtain⟨a6,b0,c0,b3,rfl,b7,a3,-⟩:=D;obtain⟨a7,b1,c1,b4,rfl,b8,a4,-⟩:=F;obtain⟨a8,b2,c2,b5,rfl,b9,a5,-⟩:=G;obtain⟨a,n⟩:=M d.length;obtain⟨b,t⟩:=M g.length;obtain⟨h,r⟩:=M r.length;rw[<-n] at w f k p;rw[<-t] at x f k p;rw[<-r] at y f k p;have⟨s,z,R⟩:=dt n t r;unfold fV at p;obtain⟨v,m⟩:=M c.heap.size;have e:=Z m;rw[<-m];have GR:(∀l,aQ 316 #[aV,I ((a:T)+(b:T)+(h:T))] l λo i=>∃p,o=.returned p/\cC l.heap.size 146 4 NC i p [] []/\Fr j l i):=(λi=>by
  have:=XQ (a+b+h) (by unfold fV;omega) i;rwa[show((a+b+h:E):T)=(a:T)+(b:T)+(h:T) by omega] at this)
 obtain⟨i,k,p,-⟩:=mD k;have i:decide ((a:T)<0)=δ:=sI;have i:decide ((a:T)+(b:T)<0)=δ:=sO;have i:decide ((a:T)+(b:T)+(h:T)<0)=δ:=sO;clear n t r m
 delta aQ;go_in
 go_wp2_with fail;refine eE 4 ?_;rw[bN];go_wp2;rw[bN];go_wp2;rw[bN];go_wp2;rw[bN];go_wp2_with fail;refine sg (GR c) ?_;rintro o i ⟨c,rfl,t,l⟩;rw[<-e.1] at t;obtain⟨a9,b6,rfl,-,-⟩:=t.shape (m:=0) Y;go_wp2_with fail;refine eE 4 ?_;rw[bN];have c:=bx (l.hs f.1);go_wp2_with (at_builtin;refine stop ?_);obtain⟨c,i,o,k,A,-,-,X⟩:=w.f l;simp only[cM] at A;obtain⟨rfl,-,rfl⟩:=A;refine aZ.go (ja (xs:=[]) Y (.tmp 31) (.tmp 32) Y sC 0 a (rfl) s.1.symm Y t NC.aJ i3N Y X (λi k c=>c.one) O mL (gX l.size e.1) ?_);intro i k r c p o _ _;have U:cC v 146 4 NC r (.slice i a k) d c:=(sU p);have m:=(o.fr (gh e.1.symm) l);simp only[de];go_wp2;rw[bN];have c:=dh (m.hs f.1);go_wp2_with (at_builtin;refine stop ?_);obtain⟨c,i,k,cc1,B,-,-,a0⟩:=x.f m;simp only[cM] at B;obtain⟨rfl,-,rfl⟩:=B;refine aZ.go (ja (xs:=d) Y (.tmp 31) (.tmp 32) Y sC a b (s.1.symm) z.1.symm Y U NC.aJ i3N Y a0 (λi k c=>c.one) O mL (gX m.size e.1) ?_);intro i k p c o l _ _;have V:cC v 146 4 NC p (.slice i (a+b) k) (d++g) c:=(sU o);have n:=(l.fr (gh e.1.symm) m)
 skip
 go_wp2;rw[bN];have c:=iU (n.hs f.1)
 go_wp2_with (at_builtin;refine stop ?_);obtain⟨c,f,k,i,C,-,-,a1⟩:=y.f n;simp only[cM] at C;obtain⟨rfl,-,rfl⟩:=C;refine aZ.go (ja (xs:=(d++g)) Y (.tmp 31) (.tmp 32) Y sC (a+b) h (by rw[cA,<-s.1,<-z.1]) R.1.symm Y V NC.aJ i3N Y a1 (λb c a=>a.one) O mL (gX n.size e.1) ?_);intro b c d a a2 W _ _
 skip
 go_wp2;rw[bN];go_wp2;go_ret;exact⟨_,_,Y,(sU a2),(W.fr (gh e.1.symm) n)⟩
def acG(l:Hs)(m:T)(c:L Fc)(f:L Mk)(h:L Nd)(a:E)(g:ε)(d:Ending)(b:ε):Prop:=
 Fr (λe=>a<=e) g b/\
 ((∃g e n i k,bk f.reverse h=(S (g,e),n)/\d=.returned (.tuple #[i,yL 0 aV aV aV])/\cC a 279 5 MC b i (g.reverse++[e]) k)\/
  (∃e g a,bk f.reverse h=(η,e)/\d=.returned (.tuple #[aV,yL 2 aV g aV])/\Sl 146 4 NC b g a/\(∀b∈a,b.cy.length<=CY)/\(if c.length<20000/\iu l m c=γ then a.length=e.length+2*c.length else a=[])))
theorem Pg(a:X.length=m+1):X.set m x1=X.take m++[x1]:=by
 rw[L.set_eq_take_append_cons_drop,aS O,dY O]
theorem Of(h e5 e4 X a0 g5 h1 h2 h3 f2 a2 G)(h7:Gl G)(e2:eJ G g5 h)(k0:Sl 276 7 CF G h1 e4)(g4:cC a2 279 5 MC G h2 X f2)(y:Sl 146 4 NC G h3 a0)(i8:a2<=G.heap.size)(d9:oY X+a0.length<=fV)(j0:∀a4∈X,aaS a4)(i9:∀C∈a0,C.cy.length<=CY)(g3:h.length<=64):
  aQ 224 #[g5,I e5,h1,h2,h3] G (acG h e5 e4 X a0 a2 G):=by
 have⟨h9,HL,h8,i0,HT⟩:=va e2 k0 h7 g3 y;obtain⟨l7,rfl,-⟩:=e2;obtain⟨h0,d2⟩:=M X.length;obtain⟨i3,b6,rfl,k3,k4⟩:=g4.shape d2.symm;unfold maxLen at k4;obtain⟨k8,l0,l5,l2,rfl,-,-,-⟩:=y;obtain⟨g5,e2⟩:=M a0.length;rw[<-e2] at HT |-;have HPN:=Z d2;clear d2 e2
 delta aQ;go_in
 go_wp2;refine cT (λh2 d2=> ?_);obtain⟨h1,e2⟩:=M G.heap.size;obtain⟨r,g5⟩:=M (h1+1);rw[<-e2,<-g5];have b3:=lq d2;have i1:=uV d2 e2;have f3:(aY h2 r #[aI,aV,aV,aV] 288):=(by rw[d2];exact bM sO);have f1:(G.heap.size<=h1/\G.heap.size<=r):=O;clear d2 e2 g5
 go_loopg [3,4] h0 (λgk s3 s4 wr=>∃(c:E)(P:List Mk)(u:List Nd)(b5:List (List ζ))(U:ι Addr)(W Q:E),c=gk/\s3=.slice i3 c b6/\P.length=c/\c<=b6/\cC a2 279 5 MC wr s3 P b5/\s4=.slice U W Q/\Sl 146 4 NC wr s4 u/\
  oY P+u.length<=fV/\(∀a4∈P,aaS a4)/\(∀C∈u,C.cy.length<=CY)/\bk X.reverse a0=bk P.reverse u/\Fr j h2 wr)
 .exact⟨h0,X,a0,f2,_,_,_,Y,Y,HPN.1.symm,k3,g4.f b3,Y,HT.1.f b3,d9,j0,i9,Y,rF⟩
 case round=>
  obtain⟨c,P,u,b5,U,W,Q,rfl,rfl,a8,l3,d1,rfl,j1,k2,g2,j4,e0,a9⟩:=hrel;have⟨d7,d6,e9⟩:=dt j1 k2 j4;cases c with
  |zero=>
   have G:=bx (a9.hs i1.1);have G:=Z (b3.step a9);(go_wp);refine sg (tN h e5 e4 u _ _ _ wr (h8.1.fr G.1) (h9.1.fr G.1) (HL.1.f G.1) d7.1 (oB d6.1) e9.1 i0.1) ?_;rintro f h4 ⟨⟨d2,G,g9,rfl,g8,j3,j8⟩,b7⟩;have f0:=Z g8;have e8:=(a9.step b7);obtain⟨f4,l1,l6,f5,rfl,-,-,-⟩:=g8;obtain⟨d2,G⟩:=M g9.length;rw[<-G] at f0 |-;have c3:=(e8.hs f3);have e2:=λb9=>aG c3 b9;obtain⟨e2,e4,e5,i6,-⟩:=gZ c3;clear G;go_wp2;have d4:(prog.info? 288).map (·.size)=S 4:=kR;have b4:bT r h4 ((((h4.setCell (H r 0) (I 2)).setCell (H r 1) aV).setCell (H r 2) (.slice f4 d2 f5)).setCell (H r 3) aV):=(((rF.aK _ _).aK _ _).aK _ _).aK _ _;refine aO (dZ Y _ _ _ r 288 _ (0,0) _ Y (aD (aD (aD (aD c3 0 (I 2)) 1 aV) 2 (.slice f4 d2 f5)) 3 aV) Y underlying288 (by rw[d4];rfl)) Y ⟨?_,.inr ⟨u,_,g9,(by rw[e0,(fH a8)];rfl),Y,f0.1.aJ NC.aJ b4 (λB K y z f=> ?_),j3,j8⟩⟩
   .exact((b3.step e8).keep b4 (λb9 f=>f▸f1.2)).mono (λ_ _ f=>f.elim)
   subst f;refine z.ne ⟨_,_,c3⟩ (λf=> ?_) Y;subst f;rcases y with h|h
   .cases h
   cases h
  |succ c=>
   obtain⟨a4,d0⟩:=gE P c O;obtain⟨i,G,i5,f7,g0,-,⟨c3,j2,g7⟩,a3,j5,i7,g1⟩:=d1.at d0;simp only[cM] at f7;obtain⟨rfl,-,rfl⟩:=f7;subst j2;have c1:=Z g7;obtain⟨c5,k9,l4,c6,rfl,-,-,-⟩:=g7;obtain⟨c8,G⟩:=M a4.dn.length;rw[<-G] at a3 g0 c1;have c3:=Z G;have c4:=(Xa a8 d0);have h6:=(g2 a4 (bQ d0));have⟨HM,d5⟩:=bD d0 g0;obtain⟨⟨n,l,m⟩,rt,R⟩:=a4;simp only at a3 c3 c1 d5;have i6:=a3 3 _ Y;have f6:=a3 4 _ Y;have a4:(0:T)<=(c:T):=jD;clear G;cases rt
   .obtain⟨c7,e1⟩:∃c7,aY wr i c7 279:=by
     rcases d1.row.2 with⟨f,c3⟩|⟨G,a4,c7,f,b,j6,g3,d0,g6,y⟩
     .cases f
     simp only[cM,fZ,Addr.mk.injEq] at f;obtain⟨⟨rfl,-⟩,-⟩:=f;exact⟨c7,j6⟩
    have G:=a9.hs f3;have a4:r≠i:=λf=>by
     rw[f] at G;rw[e1] at G;simp at G
    have s1:=aD e1 (c*5+3) (.bool γ);have s2:=aD s1 (c*5+4) (.slice U W Q);have c0:=bi (bi G (H i (c*5+3)) a4 (.bool γ)) (H i (c*5+4)) a4 (.slice U W Q);have G:wr.frozen? (H i (c*5+3))=δ:=j5 _;have G:(wr.setCell (H i (c*5+3)) (.bool γ)).frozen? (H i (c*5+4))=δ:=aG s1 _;have a4:(wr.setCell (H i (c*5+3)) (.bool γ)).cell? (H i (c*5+4))=S (.slice c5 c8 c6):=by
     have:=aj e1 (c*5+4);rw[f6] at this;rw[aj s1,ew O];exact this.symm
    obtain⟨e7,G⟩:=M ((wr.setCell (H i (c*5+3)) (.bool γ)).setCell (H i (c*5+4)) (.slice U W Q));rw[<-G] at c0;have c2:=Z G;obtain⟨a4,c3,c7,d0,d2⟩:=gZ c0;rw[G] at a4 c3 c7 d0;simp only[G] at d2;clear G;go_wp2;rw[<-c2.1];have d4:(prog.info? 288).map (·.size)=S 4:=kR;have b4:bT r e7 ((((e7.setCell (H r 0) aI).setCell (H r 1) aV).setCell (H r 2) aV).setCell (H r 3) aV):=(((rF.aK _ _).aK _ _).aK _ _).aK _ _;have e6:∀(B:TypeId),(B=146\/fS B)->B≠279/\B≠288:=λB y=>by
     rcases y with h|h
     .subst h;decide
     have h5:=h;subst h5;decide
    (have f8:bT i wr e7:=by rw[c2.1];exact(rF.aK _ _).aK _ _);have k5:=(show cC a2 279 5 MC wr (.slice (S (H i 0)) P.length b6) P b5 by rw[a8];exact d1).set (k:=c) (i:=3) (u:=.bool γ) (x:=(⟨⟨n,l,m⟩,γ,R⟩:Mk)) MC.aJ Po d5.1 J
     ⟨_,Y,c1.1.aJ NC.aJ (rF.aK _ _) (λB K y z f=>by subst f;exact z.ne g1 (e6 B y).1 Y)⟩
    have b1:=(show cC a2 279 5 MC (wr.setCell (H i (c*5+3)) (.bool γ)) (.slice (S (H i 0)) (P.set c (⟨⟨n,l,m⟩,γ,R⟩:Mk)).length b6) (P.set c ⟨⟨n,l,m⟩,γ,R⟩) (b5.set c [I n,I l,I m,.bool γ,.slice c5 c8 c6]) by rw[dN];exact k5).set (k:=c) (i:=4) (u:=.slice U W Q) (x:=(⟨⟨n,l,m⟩,γ,u⟩:Mk)) MC.aJ Po (jU ((cj.1 d5.1).1)) J
     ⟨_,Y,by rw[<-c2.1];exact d7.1.aJ NC.aJ f8 (λB K y z f=>by subst f;exact z.ne g1 (e6 B y).1 Y)⟩
    rw[<-c2.1,dN,a8,List.set_set,Pg a8] at b1;have k6:=b1.aJ MC.aJ b4 (λK z f=>by subst f;exact(aW b1.row z).2.ne ⟨_,_,c0⟩ J Y) (λB K y z f=>by
     subst f;exact z.ne ⟨_,_,c0⟩ (e6 B (y.imp id (λh=>h))).2 Y)
    have y:bk X.reverse a0=(S ((P.take c).reverse,⟨⟨n,l,m⟩,γ,u⟩),u):=by
     rw[e0];have h:=Wa (P:=P.take c) (m:=(⟨⟨n,l,m⟩,δ,R⟩:Mk)) (t:=u) Y;rw[<-c4] at h;exact h
    refine aO (dZ Y _ _ _ r 288 _ (0,0) _ Y (aD (aD (aD (aD c0 0 aI) 1 aV) 2 aV) 3 aV) Y underlying288 (by rw[d4];rfl)) Y ⟨?_,.inl ⟨_,_,_,_,_,y,Y,by rw[List.reverse_reverse];exact k6⟩⟩;refine(((b3.step a9).mono (λ_ _ f=>f.elim)).trans (U:=λK=>a2<=K) f8 (λ_ _ f=>f) (λb9 _ f=>by subst f;exact i7)).trans b4 (λ_ _ f=>f) (λb9 _ f=>by subst f;have:=f1;have:=i8;omega)
   have k1:1+R.length+u.length<=fV:=by
    have b8:=d6.1;rw[c4,sK] at b8;simp only at b8;omega
   have r:(c:T)<=(b6:T):=O;(go_wp);refine iH [] [] [] (Fr j) [[],[0],[0,1],[0,1,2],[0,1,2,3],[0,1,2,3,4],[],[6],[6,7],[6,7,8],[],[0,1,2,3,4,5,6,7,8,9,10],[0,1,2,3,4,5,6,7,8,9,10,11],[0,1,2,3,4,5,6,7,8,9,10,11,12]] [.w1 0 (λr _=>r=aP i (c*5)),.w1 1 (λr _=>r=aP i (c*5)),.w1 2 (λr _=>r=aP i (c*5)),.w1 3 (λr _=>r=.agg #[I n,I l,I m]),.w1 4 (λr _=>r=.agg #[I n,I l,I m,aV]),.w1 5 (λC d=>∃a1,C=.slice (S (H a1 0)) 1 1/\aY d a1 #[I n,I l,I m,aV] 146),.w1 6 (λr _=>r=aP i (c*5)),.w1 7 (λr _=>r=aP i (c*5)),.w1 8 (λr _=>r=aP i (c*5+4)),.w1 9 (λr _=>r=.slice c5 c8 c6),.w1 10 (λr _=>r=.slice U W Q),.w1 11 (λC d=>∃b2 a1,C=.slice (S (H a1 0)) 3 3/\aY d a1 #[.slice (S (H b2 0)) 1 1,.slice c5 c8 c6,.slice U W Q] 32/\aY d b2 #[I n,I l,I m,aV] 146),.w1 12 (λC d=>∃a5 b0 a6,C=.slice a5 b0 a6/\Sl 146 4 NC d (.slice a5 b0 a6) ([⟨⟨n,l,m⟩,[]⟩]++R++u)),.w1 13 (λC d=>∃a5 b0 a6,C=.slice a5 b0 a6/\Sl 146 4 NC d (.slice a5 b0 a6) ([⟨⟨n,l,m⟩,[]⟩]++R++u))] [[0],[1],[2],[3],[4],[5],[6],[7],[8],[9],[10],[11],[12],[13]] kR kR kR kR kR Y (λ_ _ _ _ f h=>⟨f.symm.trans h.1,h.2⟩) (λ_ _ b7=>b7) (λ_ _ _ h K=>h.step K) ?hstab ?hstabM ?walk
   case hstab=>exact Il
   case hstabM=>
    intro b9 j7;cases j7
   case walk=>
    intro r;obtain⟨s0,s1,s2,s3,s4,s5,s6,s7,s8,s9,s10,s11,s12,s13,HS⟩:=adt r;refine⟨?_,?_,?_,?_,?_,?_,?_,?_,?_,?_,?_,?_,?_,?_,?_⟩
    ·
     intro d b a x e;replace b:(Fr j) wr d:=b;simp only[rY,ξ,HS] at e |-;go_simp;exact e _ _ rF Y
    ·
     intro d b a x e;replace b:(Fr j) wr d:=b;have g:=a 0 J;simp only[rA,bG.at,HS] at g;simp only[rY,ξ,HS] at e |-;subst g;go_simp;exact e _ _ rF Y
    ·
     intro d b a x e;replace b:(Fr j) wr d:=b;have g:=a 0 J;have k:=a 1 J;simp only[rA,bG.at,HS] at g k;simp only[rY,ξ,HS] at e |-;subst g k;go_simp;exact e _ _ rF Y
    ·
     intro d b a x e;replace b:(Fr j) wr d:=b;have g:=a 0 J;have k:=a 1 J;have o:=a 2 J;simp only[rA,bG.at,HS] at g k o;simp only[rY,ξ,HS] at e |-;subst g k o;have r:d.cell? (H i (c*5))=S (I n):=b.aF (a3 0 _ Y) id;have r:d.cell? (H i (c*5+1))=S (I l):=b.aF (a3 1 _ Y) id;have i4:d.cell? (H i (c*5+2))=S (I m):=b.aF (a3 2 _ Y) id;go_simp;exact e _ _ rF Y
    ·
     intro d b a x e;replace b:(Fr j) wr d:=b;have g:=a 0 J;have k:=a 1 J;have o:=a 2 J;have s:=a 3 J;simp only[rA,bG.at,HS] at g k o s;simp only[rY,ξ,HS] at e |-;subst g k o s;go_simp;exact e _ _ rF Y
    ·
     intro d b a x e;replace b:(Fr j) wr d:=b;have g:=a 0 J;have k:=a 1 J;have o:=a 2 J;have s:=a 3 J;have v:=a 4 J;simp only[rA,bG.at,HS] at g k o s v;simp only[rY,ξ,HS] at e |-;subst g k o s v;go_simp;exact e _ _ cZ ⟨_,Y,bM Y⟩
    ·
     intro d b a x e;replace b:(Fr j) wr d:=b;simp only[rY,ξ,HS] at e |-;go_simp;exact e _ _ rF Y
    ·
     intro d b a x e;replace b:(Fr j) wr d:=b;have p:=a 6 J;simp only[rA,bG.at,HS] at p;simp only[rY,ξ,HS] at e |-;subst p;go_simp;exact e _ _ rF Y
    ·
     intro d b a x e;replace b:(Fr j) wr d:=b;have p:=a 6 J;have t:=a 7 J;simp only[rA,bG.at,HS] at p t;simp only[rY,ξ,HS] at e |-;subst p t;go_simp;exact e _ _ rF Y
    ·
     intro d b a x e;replace b:(Fr j) wr d:=b;have p:=a 6 J;have t:=a 7 J;have w:=a 8 J;simp only[rA,bG.at,HS] at p t w;simp only[rY,ξ,HS] at e |-;subst p t w;have Q:=b.aF f6 id;go_simp;exact e _ _ rF Y
    ·
     intro d b a x e;replace b:(Fr j) wr d:=b;simp only[rY,ξ,HS] at e |-;go_simp;exact e _ _ rF Y
    ·
     intro d b a x e;replace b:(Fr j) wr d:=b;have g:=a 0 J;have k:=a 1 J;have o:=a 2 J;have s:=a 3 J;have v:=a 4 J;have V:=a 5 J;have p:=a 6 J;have t:=a 7 J;have w:=a 8 J;have F:=a 9 J;have D:=a 10 J;simp only[rA,bG.at,HS] at g k o s v V p t w F D;simp only[rY,ξ,HS] at e |-;subst g k o s v p t w F D;obtain⟨b2,rfl,d8⟩:=V;go_simp;exact e _ _ cZ ⟨_,_,Y,bM Y,aC d8 _⟩
    ·
     intro d b a x e;replace b:(Fr j) wr d:=b;have g:=a 0 J;have k:=a 1 J;have o:=a 2 J;have s:=a 3 J;have v:=a 4 J;have V:=a 5 J;have p:=a 6 J;have t:=a 7 J;have w:=a 8 J;have F:=a 9 J;have D:=a 10 J;have a7:=a 11 J;simp only[rA,bG.at,HS] at g k o s v V p t w F D a7;simp only[rY,ξ,HS] at e |-;subst g k o s v p t w F D;obtain⟨b2,a1,rfl,d9,d8⟩:=a7;go_simp;go_at_call 282;have i2:Sl 146 4 NC d (.slice (S (H b2 0)) 1 1) [⟨⟨n,l,m⟩,[]⟩]:=(cC.lit (B:=0) (n:=4) (C:=NC) (m:=1) (xs:=[(⟨⟨n,l,m⟩,[]⟩:Nd)]) (L:=[[I n,I l,I m,aV]]) d8 nG Y J Y Y (λK i5 C z e3=>by
      (have j9:K=0:=by have:=(cj.1 e3).1;simpa using this);subst j9;simp at z e3;subst z e3;exact⟨Y,NC.nil ⟨n,l,m⟩ d⟩)).read
     refine(Ha [⟨⟨n,l,m⟩,[]⟩] R u _ _ _ a1 d d9 i2 (c1.1.f b) (d7.1.f b) (by have:=k1;simpa using this)).mono ?_;rintro f y ⟨i,r,rfl,b1,b7⟩;obtain⟨k7,i4,rfl,-,-⟩:=b1.shape Y;exact e _ _ b7 ⟨_,_,_,Y,b1.read⟩
    ·
     intro d b a x e;replace b:(Fr j) wr d:=b;have g:=a 0 J;have k:=a 1 J;have o:=a 2 J;have s:=a 3 J;have v:=a 4 J;have V:=a 5 J;have p:=a 6 J;have t:=a 7 J;have w:=a 8 J;have F:=a 9 J;have D:=a 10 J;have a7:=a 11 J;have c9:=a 12 J;simp only[rA,bG.at,HS] at g k o s v V p t w F D a7 c9;simp only[rY,ξ,HS] at e |-;subst g k o s v p t w F D;go_simp;exact e _ _ rF c9
    intro d b a;have g:=a 0 J J;have k:=a 1 J J;have o:=a 2 J J;have s:=a 3 J J;have v:=a 4 J J;have V:=a 5 J J;have p:=a 6 J J;have t:=a 7 J J;have w:=a 8 J J;have F:=a 9 J J;have D:=a 10 J J;have a7:=a 11 J J;have c9:=a 12 J J;have f9:=a 13 J J;simp only[rA,bG.at,HS] at g k o s v V p t w F D a7 c9 f9;simp only[Act.put,rC,HS];subst g k o s v p t w F D;obtain⟨a5,b0,a6,rfl,g6⟩:=f9;go_wp2;go_roundg c
    .refine⟨c,P.take c,_,b5.take c,_,_,_,Y,Y,by rw[cV];omega,O,(d1.f b).pop a8 c O,Y,g6,?_,λd3 A=>g2 d3 (List.mem_of_mem_take A),?_,?_,a9.step b⟩
     .have b8:=d6.1
      rw[c4,sK] at b8;simp only at b8;simp only[cA,eK];omega
     .intro d3 A
      rcases cB.1 A with A|A
      .rcases cB.1 A with A|A
       .simp only[cX] at A;subst A;simp
       exact h6.2 d3 A
      exact e9.1 d3 A
     rw[e0];have h:=Zi (P:=P.take c) (m:=(⟨⟨n,l,m⟩,γ,R⟩:Mk)) (t:=u) Y;rw[<-c4] at h;exact h
    omega
theorem rN:Go.Maps.Keyed prog 144:=Go.Maps.Keyed.of_law (deep_law (m:=2) O kR kR kR)
section
open Go.RowKit Go.Maps
def qZ(a:Ch):Prop:=(Lit.int .i64 a.k).wf=γ/\(Lit.int .i64 a.a).wf=γ/\(Lit.int .i64 a.b).wf=γ
theorem Vq(a:qZ c3):qZ c3.back:=⟨a.1,a.2.2,a.2.1⟩
theorem Yz{a b:Ch}(c:iP a=iP b):a=b:=by
 obtain⟨a,d,e⟩:=a;obtain⟨a,b,d⟩:=b;simp[iP] at c;obtain⟨rfl,rfl,rfl⟩:=c;rfl
theorem Av{b:Hs}(c:bm b=γ)(a:dA b c3=γ):qZ c3:=by
 simp only[dA,fG,bA,gY] at a
 have:=bK c;have a:=jO c a.1.2.1.1 a.1.2.1.2 (sU a.1.2.2);refine⟨kD O,kD O,kD O⟩
theorem PY:prog.keyType 144=γ:=kR
theorem Pz(a b c)(d:(Lit.int .i64 a).wf=γ)(e:(Lit.int .i64 b).wf=γ)(f:(Lit.int .i64 c).wf=γ):prog.keyLits (prog.types.size+1) 144 [.int .i64 a,.int .i64 b,.int .i64 c]=S [.int .i64 a,.int .i64 b,.int .i64 c]:=by
 obtain⟨b,a⟩:∃a,prog.types.size=a+1:=⟨prog.types.size-1,(E.succ_pred_eq_of_pos (by decide+kernel)).symm⟩;rw[a];have a:prog.cellsOf 144=3:=kR;have b:prog.cellsOf 3=1:=kR;simp[Program.keyLits,underlying144,underlying3,a,b,d,e,f]
theorem PK(a:qZ c3):∃b,keyOf prog 144 (iP c3)=S b:=by
 obtain⟨b,c,d⟩:=a;have a:(iP c3).formed prog 144=γ:=by
  have a:prog.cellsOf 144=3:=kR;simp[ζ.formed,underlying144,iP,a]
 have b:=Pz _ _ _ b c d;refine⟨.string (keyBytes [.int .i64 c3.k,.int .i64 c3.a,.int .i64 c3.b]),?_⟩;simp only[keyOf,underlying144,PY,a];simp only[iP,ζ.cells,κ.and_self,eX];rw[b];rfl
theorem Dq:prog.underlying 264=S (.map 144 4):=kR
theorem ZU(a):(zeroValue 4).run prog a=.ok (.bool δ) a:=kR
theorem uk:∀(a b:L α),a.Nodup->(∀c∈a,c∈b)->a.length<=b.length
 |[],a,_,_=>by simp
 |k::g,l,f,b=>by
  obtain⟨d,e⟩:=mu.1 f;obtain⟨h,i,rfl⟩:=L.append_of_mem (b k sI)
  have:=uk g (h++i) e (λe c=>by
   have:=b e (by simp[c]);simp only[cB,cK] at this |-;rcases this with a|rfl|a
   .exact .inl a
   .exact absurd c d
   exact .inr a)
  simp only[cA,bW] at this |-;omega
def MX(f:ε)(b:E)(e d:L Ch):Prop:=
 ∃c,∃a:DataW Unit,f.ownsMap prog 144 (plainElem prog 4) b c a/\(∀c∈e,∀b,keyOf prog 144 (iP c)=S b->a.atKey b (.lit (.bool δ))=.lit (.bool γ))/\(∀b,has a b=γ->∃a∈d,keyOf prog 144 (iP a)=S b)
theorem MX.fr{w a:ε}{c b:L Ch}{S:E->Prop}(e:MX w m c b)(d:Fr S w a)(f:¬S m):MX a m c b:=by
 obtain⟨h,a,⟨c,b,g,i⟩,e⟩:=e;exact⟨h,a,⟨c,b,d.aB g f,i⟩,e⟩
theorem MX.keep{c w':ε}{b a:L Ch}(e:MX c m b a)(d:Fr j c w'):MX w' m b a:=e.fr d id
theorem MX.obj{b a:L Ch}(c:MX W m b a):∃b a,W.heap[m]? =S (.map b a):=by
 obtain⟨f,b,⟨d,c,a,g⟩,e⟩:=c;exact⟨_,_,a⟩
theorem MX.mono{b a lo' hi':L Ch}(d:MX W m b a)(e:∀c∈lo',c∈b)(f:∀b∈a,b∈hi'):MX W m lo' hi':=by
 obtain⟨g,a,b,c,d⟩:=d;exact⟨g,a,b,λa b=>c a (e a b),λb a=>by obtain⟨a,c,b⟩:=d b a;exact⟨a,f a c,b⟩⟩
theorem MX.made(a:m=W.heap.size):MX (W.alloc (.map #[] 0)) m [] []:=
 ⟨0,.map [],by rw[a];exact ε.ownsMap_made _ _ _ _,(λa b=>by cases b),λb a=>by simp[has] at a⟩
theorem nW{c b:DataW Unit}(e:W.ownsMap prog 144 (plainElem prog 4) m q c)(d:W.ownsMap prog 144 (plainElem prog 4) m n1 b):c=b:=by
 obtain⟨k,i,f,-,-,rfl⟩:=e;obtain⟨h,g,a,-,-,rfl⟩:=d;rw[f] at a;simp only[fZ,Obj.map.injEq] at a;rw[a.1]
theorem MX.join{d a c h:L Ch}(n:MX W m d c)(g:MX W m a h):MX W m (d++a) c:=by
 obtain⟨o,i,b,k,l⟩:=n;obtain⟨d,a,e,f,c⟩:=g;obtain rfl:=nW b e;exact⟨o,i,b,λb a=>by
  rcases cB.1 a with a|a
  .exact k b a
  exact f b a,l⟩
theorem MX.ZM{k b:L Ch}(n:MX W m k b):∃a:DataW Unit,W.ownsMap prog 144 (plainElem prog 4) m b.length a/\(∀d∈k,∀c,keyOf prog 144 (iP d)=S c->a.atKey c (.lit (.bool δ))=.lit (.bool γ))/\(∀c,has a c=γ->∃a∈b,keyOf prog 144 (iP a)=S c):=by
 obtain⟨w,k,e,n,f⟩:=n;refine⟨k,?_,n,f⟩;obtain⟨a,g,p,r⟩:=e.entries rN;obtain⟨h,o,s,l,v,rfl⟩:=e;refine⟨h,o,s,l,?_,Y⟩;have e:a.length=h.size:=by
  have:=g;simp only[DataW.map.injEq] at this;rw[<-this,length_read]
 rw[<-e];have c:(a.map (·.1)).Nodup:=by
  unfold L.Nodup;rw[L.pairwise_map];exact p
 have t:∀e∈(a.map (λd=>S d.1)),e∈b.map (λb=>keyOf prog 144 (iP b)):=λb u=>by
  obtain⟨d,i,rfl⟩:=dE.1 u;obtain⟨b,e,d⟩:=f d.1 (by
   rw[g];simp only[has,eH];exact⟨d,i,WideAt.sameKey_self (r d i)⟩)
  exact dE.2 ⟨b,e,d⟩
 have a:(a.map (λa=>S a.1)).Nodup:=by
  unfold L.Nodup at c |-;rw[L.pairwise_map] at c |-;exact c.imp (λb a=>b (cI a))
 have:=uk _ _ a t;simpa using this
theorem MX.look(g:MX W m K K)(l:qZ c3):(Instr.lookup 264 (.map (S m)) (iP c3) δ).run prog W=.ok (.bool (K.contains c3)) W:=by
 obtain⟨d,g,h,i⟩:=g.ZM;obtain⟨b,e⟩:=PK l;obtain⟨f,g,k,a⟩:=g.lookup rN Dq (ZU W) (zd:=.lit (.bool δ)) (zp:=[]) (plainElem_bool underlying4 δ) e;have p:d.atKey b (.lit (.bool δ))=.lit (.bool (K.contains c3)):=by
  by_cases c:c3∈K
  .rw[h c3 c b e];simp[c]
  have n:has d b=δ:=by
   cases o:has d b
   .rfl
   obtain⟨g,b,d⟩:=i b o;exact absurd (Yz (rN.inj e d)▸b) c
  rw[atKey_of_not_has n];simp[c]
 rw[k];rw[p] at a;have:f=.bool (K.contains c3):=by
  unfold plainElem at a;rw[underlying4] at a;cases f<;>simp at a
  simp[a]
 rw[this]
theorem MX.store{p d:L Ch}(k:MX W m p d)(y:qZ c3)(A:c3∈d)(z:d.length<maxLen):
  ∃a,(Instr.mapUpdate 264 (.map (S m)) (iP c3) (.bool γ)).run prog W=.ok () a/\bT m W a/\(∀c b,c3∈b->MX W m c b->MX a m c b)/\MX a m [c3] d:=by
 obtain⟨C,f,D,F⟩:=k.ZM;obtain⟨o,e⟩:=PK y;obtain⟨h,w,i,x⟩:=f.store rN Dq z e (plainElem_bool underlying4 γ);have l:=f.isMap;have n:=rN.key e;have r:∀b a,c3∈a->MX W m b a->MX h m b a:=λc a B b=>by
  obtain⟨z,y,t,u,v⟩:=b;obtain rfl:=nW f t;refine⟨_,_,i,λs b c a=> ?_,λc a=> ?_⟩
  .by_cases g:c=o
   .subst g;exact atKey_put_same l n _ _
   rw[atKey_put_other g];exact u s b c a
  by_cases g:c=o
  .subst g;exact⟨c3,B,e⟩
  rw[has_put_other g] at a;exact v c a
 refine⟨h,w,(gJ x.grown).mono (λg _ f=>by simpa using f.symm),r,?_⟩;obtain⟨u,d,g,f,t⟩:=r p d A k;obtain rfl:=nW i g;refine⟨u,_,g,λs b c a=> ?_,t⟩;simp at b;subst b;rw[e] at a;obtain rfl:=cI a;exact atKey_put_same l n _ _
def XZ(b:E)(e:Ch)(c d:ε):Prop:=bT b c d/\∀f a,e∈a->e.back∈a->MX c b f a->MX d b f a
theorem XZ.of(a:Fr j W V):XZ m c3 W V:=⟨a.mono (λ_ _ b=>b.elim),λ_ _ _ _ b=>b.keep a⟩
theorem XZ.trans(a:XZ m c3 W V)(e:XZ m c3 V U):XZ m c3 W U:=⟨a.1.tr e.1,λf d b c g=>e.2 f d b c (a.2 f d b c g)⟩
theorem uI(f:o2.guard=η)(a b)(h:o2.op=Op.lookup 264 a b δ){c:Ch}(g:a1.eval a=.map (S m))(d:MX W m K K)(i:a1.eval b=iP c)(e:qZ c)(b:wpList prog o1 Q r1 (a1.put o2.dst (.bool (K.contains c))) W):wpList prog o1 Q (o2::r1) a1 W:=by
 refine wpList_plain f λa a=> ?_;have d:=d.look e;unfold Oper.wp;simp only[execOp,h,g,i];simp[d,Result.andThen];exact a _ _ (sU b)
theorem zg(a e b)(m:o2.op=Op.mapUpdate 264 a e b){M:E}{c d:Ch}{lo hi:L Ch}(k:a1.eval a=.map (S M))(o:a1.eval e=iP d)(n:a1.eval b=.bool γ)(b:MX W M lo hi)(h:qZ d)(g:d=c\/d=c.back)(l:d∈hi)(i:hi.length<maxLen)(e:∀a,XZ M c W a->MX a M [d] hi->K1 (a1.put o2.dst undef) a):Oper.wp prog o2 a1 W K1 Q:=by
 obtain⟨a,h,b,i,f⟩:=b.store h l i;unfold Oper.wp;simp only[execOp,m,k,o,n];simp[h,Result.andThen];exact e a ⟨b,λb a e h=>i b a (by rcases g with rfl|rfl<;>assumption)⟩ f
theorem US{P:Program}{r:TypeId->Prop}(e g){f:TypeId}(B:o2.op=Op.call {callee:=Callee.builtin Builtin.append,args:=#[e,g],argTypes:=#[f,f]})(n:dK P f t m q)(a)(z:X.length=a)(D:a1.eval e=.slice A a a)(p:Sl t m C W (.slice A a a) X)(v:dU r C){k:Addr}(h:α)(G:a1.eval g=.slice (S k) 1 n1)(y:Y1.length=m)(F:∀l d,Y1[l]? =S d->W.cell? (k.add l)=S d)(s:∀d∈Y1,d.oneCell'=γ)(K:∀b,Fr j W b->C b Y1 h)(x:(a+1)*q<=140737488355328)(u:a+1<=maxLen)(w:∀i c b o,cC W.heap.size t m C b (.slice i (a+1) c) (X++[h]) o->Fr j W b->a+1<=c->c<=maxLen->K1 (a1.put o2.dst (.slice i (a+1) c)) b):Oper.wp P o2 a1 W K1 Q:=by
 have:=pK (P:=P) (o:={o2 with guard:=η}) (a:=a1) (w:=W) (K:=K1) (Q:=Q) Y e g B n a z D p v h G y F s K x u w;exact this
end
def bG.eq(a:E)(b:ζ):bG:=.w1 a (λa _=>a=b)
structure SW where
 w:bG
 st:w.Fy (Fr j)
def SW.no:SW:=⟨.w0,λ_ _ _ _ _=>trivial⟩
def SW.eq(a:E)(b:ζ):SW:=⟨.w1 a (λa _=>a=b),λ_ _ _ a _=>a⟩
def SW.lit(a n:E)(b:TypeId)(cs:θ ζ):SW:=
 ⟨.w1 a (λc a=>∃B,c=.slice (S (H B 0)) n n/\aY a B cs b),λ_ _ _ ⟨B,a,c⟩ b=>⟨B,a,b.hs c⟩⟩
def SW.sl{a:TypeId->Prop}(h:dU a C)(a e d n:E)(g:L α):SW:=
 ⟨.w1 a (λf c=>∃b a,f=.slice b n a/\n<=a/\a<=maxLen/\Sl e d C c (.slice b n a) g),λ_ _ _ ⟨a,b,c,f,g,e⟩ d=>⟨a,b,c,f,g,e.fr h d⟩⟩
theorem rX:type_of% (And.intro rY (And.intro rD (And.intro @SW.eq.eq_1 (And.intro @SW.lit.eq_1 (And.intro (@SW.sl.eq_1) (And.intro SW.no.eq_1 @bG.eq.eq_1)))))):=⟨rY,rD,@SW.eq.eq_1,@SW.lit.eq_1,@SW.sl.eq_1,SW.no.eq_1,@bG.eq.eq_1⟩
theorem Fw:∀(a:L SW)(c:E),kZ (λ_ b=>b.Fy (Fr j)) c (a.map SW.w)
 |[],_=>trivial
 |s::b,a=>⟨s.st,Fw b (a+1)⟩
theorem JZ:∀(a:L SW)(b:E),(a.map SW.w).getD b .w0=(a.getD b .no).w
 |[],a=>by simp[SW.no]
 |s::r,0=>rfl
 |s::r,a+1=>by simpa using JZ r a
theorem Sl.oH{e m:E}(g:Sl t e C W x X)(i:m=X.length):∃b a,x=.slice b m a/\m<=a/\a<=maxLen/\Sl t e C W (.slice b m a) X:=by
 subst i;obtain⟨a,f,k,b,rfl,c,d,h⟩:=g;exact⟨a,b,Y,c,d,a,f,k,b,Y,c,d,h⟩
theorem EN:dU (λ_=>False) CC:=Pl.aJ eM _
theorem iA:dU (λ_=>False) CI:=Pl.aJ cW _
theorem CKs:dU (λ_=>False) CK:=Pl.aJ fv _
theorem Jh:prog.follows .mixedOrders=γ:=kR
theorem eU{id:E}(a:L (L E))(b:L SW)(Rd:L (L E))
  (e:Gv r1.toArray a=γ)(g:yR a 0 Rd=γ)(h:(b.map SW.w).map bG.reads=Rd)(f:∀d(a1 c:Act) W,a1.defers=c.defers->Q (.panic d) a1 W->Q (.panic d) c W)
  (d:∀c,kA prog r1.toArray Q [] (λ_=>Fr j) (λ_=>Fr j W) (Fr j W) a (λi=>(b.getD i .no).w.at) c 0 r1 a1):(Code.region id r1.toArray γ).wp prog Q a1 W:=by
 refine iH [] [] [] (Fr j) a (b.map SW.w) Rd Jh e (by simp[ddB]) sI g h f (λ_ _ a=>a) (λ_ _ _ a e=>a.step e) (Fw b 0) (λa i=>by cases i) (λc=> ?_)
 have:=d c;simp only[JZ,L.not_mem_nil,iG];exact this
theorem iM.open_{c:Rl}(d:iM m c W x):∃a b,x=.agg #[I m,.slice a m b]:=by
 obtain⟨f,rfl,e⟩:=d;obtain⟨a,b,rfl,-,-⟩:=e.slice;exact⟨a,b,by rw[bY]⟩
def oL(c:E)(e:TypeId)(a d:ε):Prop:=Fr (λb=>c<=b/\fE e a b) a d
theorem oL.of(a:Fr j W V):oL m t W V:=a.mono (λ_ _ a=>a.elim)
theorem oL.trans(a:oL m t W V)(b:oL m t V U):oL m t W U:=by
 refine⟨b.os.trans a.os,b.tape.trans a.tape,b.output.trans a.output,bX a.size b.size,λf d e=> ?_⟩;have c:=a.block f d e;refine(b.block f (jd d a.size) (λa=>e ⟨a.1,?_⟩)).trans c;obtain⟨U,a,b⟩:=a.2;exact⟨U,a,c▸b⟩
theorem oL.obj{d a:TypeId}{b:θ ζ}(e:oL m d W V)(c:W.heap[q]? =S (.cells b a f1))(f:a≠d):V.heap[q]? =S (.cells b a f1):=
 e.aB c (λa=>fE.ne ⟨_,_,c⟩ a.2 f Y)
theorem oL.sl{b a:TypeId}{n d:E}{c:TypeId->Prop}(h:oL d a W V)(d:Sl b n C W x X)(g:dU c C)(e:b≠a)(f:¬c a):Sl b n C V x X:=
 d.aJ g h (λd g c b a=>b.ne a.2 (λa=>c.elim (λb=>e (b.symm.trans a)) (λb=>f (a▸b))) Y)
theorem oL.gr{a:Rl}(c:oL q 355 W V)(b:iM m a W x):iM m a V x:=by
 obtain⟨d,a,b⟩:=b;exact⟨d,a,c.sl b jR J id⟩
theorem oL.Fz(a:oL W.heap.size t W V):Fr j W V:=⟨a.os,a.tape,a.output,a.size,λc b _=>a.block c b (λa=>by have:=a.1;omega)⟩
theorem Dz{b:Hs}{c row:L Ch}{a:Mk}{d q e:κ}(f:c.contains a.c=d)(g:dA b a.c=q)(h:(!a.rt&&decide (0<a.dn.length)||a.rt&&!ud b i1 (row++[a.c]) a.dn)=e):
  iq b i1 c row (a::m1)=((!d&&q)&&!e&&iq b i1 (a.c::a.c.back::c) (row++[a.yG]) m1):=by rw[iq,f,g,h]
theorem wT(d:Hs)(e:T)(f:List Fc)(P:List Mk)(f3 f4 f5:ζ)(z:ε)(f0:eJ z f3 d)(f1:Sl 276 7 CF z f4 f)(h6:Sl 279 5 MC z f5 P)(e5:f.length<=fV)(e6:P.length<=fV)(g:∀a∈P,a.dn.length<=500000000000)(h:∀a∈P,qZ a.c):
  dr 124 #[f3,I e,f4,f5] z (.bool (iQ d e f P)):=by
 have⟨b4,HL,g0,g1⟩:=gB f0 f1 g h;obtain⟨c1,rfl,-⟩:=f0;obtain⟨i3,i6,j3,i9,rfl,-,-,-⟩:=f1;obtain⟨u,a⟩:=M f.length;rw[<-a] at HL e5 |-;obtain⟨i4,i7,j4,j0,rfl,h7,j1,i⟩:=h6;have c6:=Z i;obtain⟨r,c⟩:=M P.length;rw[<-c] at h7 e6 |-;have⟨HLN,HN⟩:=bD a c;unfold fV at e5 e6;have b:N (iQ d e f P=((decide (u+r<20000)&&iu d e f)&&iq d e [] (fe f) P)):=Z (by unfold iQ;rw[<-a,<-c]);clear i a c g h;by_cases a:20000<=u+r
 .have c:decide ((20000:T)<=(u:T)+(r:T))=γ:=sO
  have c:decide (20000<=u+r)=γ:=sO;have RT:=Z (show iQ d e f P=δ by rw[b.1,show decide (u+r<20000)=δ by simp;omega];rfl);go_enter func124,ntmps124;go_wp2;go_ret;exact aM RT.1.symm cZ
 have e5:u+r<20000:=O;have e5:decide ((20000:T)<=(u:T)+(r:T))=δ:=sO;have e5:decide (20000<=u+r)=δ:=sO;have h4:N (decide (u+r<20000)=γ):=Z sO;have i:=@run_makeMap prog;clear a;go_enter func124,ntmps124;go_wp2_with (go_at_call 166;refine stop ?_);refine aZ.nm (λe5 c=> ?_);obtain⟨c0,a⟩:=M z.heap.size;rw[<-a];have a8:=fa1 c;have g:=dL c a;clear c a;refine sg (qU d e f _ _ e5 (b4.1.fr a8.1) (HL.1.f a8.1) (by have:=HLN.1;unfold fV;omega)) ?_;rintro e5 i1 ⟨rfl,a⟩;have⟨b1,h⟩:=bD (a8.1.step a) (a.hs g.1);clear a g;cases a:iu d e f with
 |false=>
  have RT:=Z (show iQ d e f P=δ by rw[b.1,a];simp);clear a;go_wp2;go_ret;exact aM RT.1.symm b1.1
 |true=>
 have RS:N (iQ d e f P=iq d e [] (fe f) P):=Z (by rw[b.1,a,h4.1];rfl);have g5:N (bm d=γ):=Z (dO a).1;clear a b;go_wp2_with (go_at_call 121;refine stop ?_);refine sg (eQ f _ i1 (HL.1.f b1.1) (by have:=HLN.1;unfold fV;omega)) ?_;rintro e5 f6 ⟨e6,a8,rfl,c,a⟩;have⟨c4,b,g4⟩:=dt (b1.1.step a) (a.hs h.1) c.read;obtain⟨i2,i8,rfl,-,-⟩:=c.shape (m:=u) (by rw[HLN.1];simp[fe]);clear a h c;go_wp2_with fail;refine cT (λa8 a=> ?_);obtain⟨t,c⟩:=M f6.heap.size;rw[<-c];have f9:N (Fr j z a8):=Z (by rw[a];exact c4.1.step cZ);have g8:N (aY a8 c0 #[c1] 54):=Z (by rw[a];exact aC b.1 _);have h3:N (MX a8 t [] []):=Z (by rw[a];exact MX.made c);have d1:=Z (g4.1.f (show Fr j f6 a8 by rw[a];exact cZ));have c8:N (z.heap.size<=t/\t≠c0):=Z (gX c4.1.size (ba b.1));clear a c i b;go_loopg [9,31] r (λgk s9 s31 wr=>∃(a:E)(KN c:List Ch)(h:ι Addr)(b g:E),a+gk=r/\s31=I a/\s9=.slice h b g/\b=u+a/\b<=g/\g<=maxLen/\Sl 144 3 CC wr s9 c/\c.length=b/\KN.length=2*a/\MX wr t KN KN/\iq d e [] (fe f) P=iq d e KN c (P.drop a)/\Fr j z wr/\aY wr c0 #[c1] 54)
 .have c:(fe f).length=u:=by rw[HLN.1];simp[fe]
  have b:=d1.1;obtain⟨b,h,k,i,a,l,g,-⟩:=b;simp only[cM] at a;obtain⟨rfl,-,rfl⟩:=a;exact⟨0,[],fe f,_,_,_,du,Y,Y,Y,O,g,d1.1,c,Y,h3.1,Y,f9.1,g8.1⟩
 case round=>
  obtain⟨x,KN,C,R,s,a6,i,rfl,rfl,l,e8,e9,b,c,a,g,k,h,m⟩:=hrel;have⟨HJ,d7,a2,b5,K,c9,b0,HQ⟩:=SD i b c a g k h m;have u:x<=r:=O;have g2:=Z l;have u:s<=40000:=O;clear i b c a g k h m l;by_cases u:x<r
  .obtain⟨a9,g⟩:=gE P x fU
   obtain rfl:=c6.1.addr g;obtain⟨u,n,o,p,v,i,f2⟩:=(c6.1.f b0.1).mk g;have b6:=Z f2;obtain⟨a5,i5,j2,a7,rfl,-,-,-⟩:=f2;have⟨a3,a8⟩:=bD (g1.1 a9 (bQ g)) (g0.1 a9 (bQ g));have b1:N (P.drop x=a9::P.drop (x+1)):=Z (gF g);obtain⟨u,rt,D⟩:=a9;obtain⟨w,k⟩:=M D.length;simp only at n o p v i b6 a3 a8;rw[<-k] at i b6 a8;have c7:=Z k;have a8:w<=500000000000:=a8.1;obtain⟨b9,h⟩:=M (KN.contains u);obtain⟨q,l⟩:=M (dA d u);obtain⟨a0,m⟩:=M (!rt&&decide (0<D.length)||rt&&!ud d e (C++[u]) D);have MB:N (iQ d e f P=((!b9&&q)&&!a0&&iq d e (u::u.back::KN) (C++[(⟨u,rt,D⟩:Mk).yG]) (P.drop (x+1)))):=Z (by
    rw[RS.1,c9.1,b1.1];exact Dz h.symm l.symm m.symm)
   have⟨HP,g3,d2⟩:=dt h l m;have a8:N (∀(a:ε),Fr j wr a->(Instr.lookup 264 (.map (S t)) (iP u) δ).run prog a=.ok (.bool b9) a):=Z (λb a=>by rw[h];exact(K.1.keep a).look a3.1);obtain⟨c,a,b⟩:=u;have⟨f,r⟩:=dy x r;clear g k h l m;go_upto_region 8 with fail;refine cT (λc2 g=> ?_);obtain⟨y,f⟩:=M wr.heap.size;rw[<-f];have F:=fa1 g;have d6:=dL g f;have d5:=Z (F.1.hs HQ.1);have d0:N (y≠t):=Z (by obtain⟨l,k,h⟩:=K.1.obj;have:=ba h;omega);clear g f n o p v i;have h:=a8.1 c2 F.1;unfold iP at h;simp only at h;obtain⟨n,o,p,-⟩:=mD d6.1;have v:=bx d5.1;have b3:=Z (b0.1.step F.1);cases b9 with
   |true=>
    go_wp2;go_ret;exact aM (by rw[MB.1];simp) b3.1
   |false=>
   go_wp2_with (go_at_call 167;refine stop ?_);refine aZ.nm (λf7 i=> ?_);have g:=cY i;have l:Sl 144 3 CC f7 (.slice (S (H c2.heap.size 0)) 1 1) [⟨c,a,b⟩]:=(cC.lit (B:=0) (n:=3) (C:=CC) (m:=1) (xs:=[(⟨c,a,b⟩:Ch)]) (L:=[eM ⟨c,a,b⟩]) (by rw[i];exact bM Y) nG Y J Y Y (λf r u m k=>by
    (have h5:f=0:=by have:=(cj.1 k).1;simpa using this);subst h5;simp at m k;subst m k;exact⟨Y,Y⟩)).read
   have⟨f,r⟩:=bD (b3.1.step g) l;clear h n o p v i l;refine sg (jT d [⟨c,a,b⟩] _ _ f7 (b4.1.fr f.1) r.1) ?_;rintro f v ⟨rfl,h⟩;have G:N (Fr j c2 v):=Z (g.step h);rw[show dw d [⟨c,a,b⟩]=q by rw[g3.1];simp[dw,g5.1]];have b2:=Z (b3.1.step G.1);clear h g;cases q with
   |false=>
    go_wp2;go_ret;exact aM (by rw[MB.1];simp) b2.1
   |true=>
   go_upto_region 10 with fail;have⟨B,g9⟩:=bD (G.1.hs d6.1) (G.1.hs d5.1);go_cut [73] (λs73 f=>s73=.bool a0/\Fr j v f)
   .cases rt
    .have RR:N (a0=decide (0<w)):=Z (by rw[d2.1,c7.1];simp)
     have g:∀f:aX v,f.w.cell? (H y 3)=S (.bool δ):=aX.cell (aj B.1 3);have h:∀f:aX v,f.w.cell? (H y 4)=S (.slice a5 w a7):=aX.cell (aj B.1 4);by_cases i:w=0
     .subst i
      refine bj kR kR ?_;(repeat(go_big_quiet_step (fail)));refine wpQuiet_nil ?_;intro i f;have i:=bI f;clear f g h;go_wp2;go_meet;exact⟨by rw[RR.1];try simp,i⟩
     have f:decide (0<(w:T))=γ:=sO;have k:decide (0<w)=γ:=sO;refine bj kR kR ?_;(repeat(go_big_quiet_step (fail)));refine wpQuiet_nil ?_;intro i f;have i:=bI f;clear f g h;go_wp2;go_meet;exact⟨by rw[RR.1,k],i⟩
    obtain⟨f,g⟩:=M (ud d e (C++[⟨c,a,b⟩]) D);have k:=Z g;have RR:N (a0=!f):=Z (by rw[d2.1,g];simp);clear g;have m:=Z (d7.1.f (F.1.step G.1));have h:=λg(h:Fr j v g)=>bx (h.hs B.1);have h:=λg(h:Fr j v g)=>dh (h.hs B.1);have h:=λg(h:Fr j v g)=>iU (h.hs B.1);have h:=λg(h:Fr j v g)=>iT (h.hs B.1);have h:=λg(h:Fr j v g)=>xW (h.hs B.1);have h:=λg(h:Fr j v g)=>bx (h.hs g9.1);refine eU [[],[0],[0,1],[0,1,2],[0,1,2,3],[0,1,2,3,4],[0,1,2,3,4,5],[0,1,2,3,4,5,6],[0,1,2,3,4,5,6,7],[0,1,2,3,4,5,6,7,8],[0,1,2,3,4,5,6,7,8,9],[0,1,2,3,4,5,6,7,8,9,10],[0,1,2,3,4,5,6,7,8,9,10,11],[0,1,2,3,4,5,6,7,8,9,10,11,12],[0,1,2,3,4,5,6,7,8,9,10,11,12],[0,1,2,3,4,5,6,7,8,9,10,11,12],[0,1,2,3,4,5,6,7,8,9,10,11,12,15],[0,1,2,3,4,5,6,7,8,9,10,11,12],[0,1,2,3,4,5,6,7,8,9,10,11,12,17],[0,1,2,3,4,5,6,7,8,9,10,11,12,17,18],[0,1,2,3,4,5,6,7,8,9,10,11,12,15,16,17,18,19],[0,1,2,3,4,5,6,7,8,9,10,11,12],[0,1,2,3,4,5,6,7,8,9,10,11,12,21],[0,1,2,3,4,5,6,7,8,9,10,11,12,13,14,15,16,17,18,19,20,21,22],[0,1,2,3,4,5,6,7,8,9,10,11,12,13,14,15,16,17,18,19,20,21,22,23],[0,1,2,3,4,5,6,7,8,9,10,11,12,13,14,15,16,17,18,19,20,21,22,23,24],[0,1,2,3,4,5,6,7,8,9,10,11,12,13,14,15,16,17,18,19,20,21,22,23,24,25]] [.eq 0 (aP y 3),.eq 1 (.bool γ),.eq 2 (.bool δ),.eq 3 (.bool δ),.eq 4 (undef),.eq 5 (undef),.eq 6 (undef),.eq 7 (undef),.eq 8 (.bool δ),.eq 9 (.bool δ),.eq 10 (aP y 3),.eq 11 (.bool γ),.eq 12 (.bool γ),.eq 13 (.agg #[c1]),.eq 14 (I e),.eq 15 (.slice R s a6),.eq 16 (.slice R s s),.eq 17 (aP y 0),.eq 18 (.agg #[I c,I a,I b]),.lit 19 1 144 #[I c,I a,I b],.sl EN 20 144 3 (s+1) (C++[⟨c,a,b⟩]),.eq 21 (aP y 4),.eq 22 (.slice a5 w a7),.eq 23 (.bool f),.eq 24 (.bool (!f)),.eq 25 (.bool (!f)),.eq 26 (.bool (!f))] [[0],[1],[2],[3],[4],[5],[6],[7],[8],[9],[10],[11],[12],[13],[14],[15],[16],[17],[18],[19],[20],[21],[22],[23],[24],[25],[26]] kR kR Y (λ_ _ _ _ g f=>⟨g.symm.trans f.1,f.2⟩) (λf=> ?_);refine⟨?_,?_,?_,?_,?_,?_,?_,?_,?_,?_,?_,?_,?_,?_,?_,?_,?_,?_,?_,?_,?_,?_,?_,?_,?_,?_,?_,?_⟩;any_goals(first|(intro i l g h f;simp only[rY,reduceIte,ξ,ο,SW.eq,SW.lit,SW.sl,SW.no,di,dg] at g f |-;(try simp only[g] at f);go_simp;exact f _ _ rF Y)|fail)
    .intro h l f i g
     simp only[rY,reduceIte,ξ,ο,SW.eq,SW.lit,SW.sl,SW.no,di,dg] at f g |-;(try simp only[f] at g);go_simp;go_at_call 169;refine(Bz R s a6 h e8 e9).mono ?_;rintro h f ⟨rfl,rfl⟩;exact g _ _ rF Y
    .intro i l g h f
     simp only[rY,reduceIte,ξ,ο,SW.eq,SW.lit,SW.sl,SW.no,di,dg] at g f |-;(try simp only[g] at f);go_simp;exact f _ _ cZ ⟨_,Y,bM Y⟩
    .intro o p f h i
     have o:=f 1 J;have g:=f 16 J;have h:=f 19 J;simp only[rY,reduceIte,ξ,ο,SW.eq,SW.lit,SW.sl,SW.no,di,dg] at o g h f i |-;obtain⟨h,eB,f⟩:=h;obtain⟨f,n,A⟩:=(eF.block f oC).1.resolve_left sI;obtain rfl:=cI n;rw[aS (by first|rfl|go_simp)];refine US (.tmp 63) (.tmp 66) fX lD s a2.1 (g) (m.1.f p).clip (Pl.aJ eM (λ_=>False)) (⟨c,a,b⟩:Ch) eB Y A oC (λ_ _=>Y) O mL ?_;intro m n h g l f Q U;exact i _ _ f ⟨_,_,Y,Q,U,l.read⟩
    .intro l i f h g
     have m:=f 2 J;have h:=f 20 J;simp only[rY,reduceIte,ξ,ο,SW.eq,SW.lit,SW.sl,SW.no,di,dg] at m h f g |-;(try simp only[f] at g);obtain⟨m,o,f,-,-,h⟩:=h;simp only[f] at g;go_simp;go_at_call 168;refine(zm d e (C++[⟨c,a,b⟩]) D _ _ _ l (b4.1.fr (b2.1.step i)) h (b6.1.f ((F.1.step G.1).step i)) (by have:=a2.1;have:=c7.1;unfold fV;simp only[cA,eK];omega)).mono ?_;rintro e d ⟨rfl,n⟩;exact g _ _ n (by rw[k.1])
    intro d f e;have d:=e 26 J J;simp only[rY,reduceIte,ξ,ο,SW.eq,SW.lit,SW.sl,SW.no,di,dg] at d;clear e;simp only[Act.put,rC];go_wp2;go_meet;exact⟨by rw[d,RR.1],f⟩
   obtain⟨a1,d⟩:=M wc;rw[<-d] at hcut |-;clear d;obtain⟨rfl,g⟩:=hcut;have⟨c5,c3,Q⟩:=dt g (b2.1.step g) (g.hs B.1);clear g;cases a0 with
   |true=>
    go_wp2;go_ret;exact aM (by rw[MB.1];simp) c3.1
   |false=>
   obtain⟨e,d⟩:=M ((⟨⟨c,a,b⟩,rt,D⟩:Mk).yG);have⟨d3,h0⟩:=bD d (d7.1.f ((F.1.step G.1).step c5.1));clear d;obtain⟨W,U,V⟩:=e;go_upto_region 12 with fail;have p:=λd(e:Fr j a1 d)=>bx (e.hs Q.1);have A:=λd(e:Fr j a1 d)=>dh (e.hs Q.1);have a4:=λd(e:Fr j a1 d)=>iU (e.hs Q.1);have b7:=λd(e:Fr j a1 d)=>iT (e.hs Q.1);have b8:=λd(e:Fr j a1 d)=>xW (e.hs Q.1);refine eU [[],[0],[],[2],[2,3],[0,1,2,3,4],[0,1,2,3,4,5]] [.eq 0 (.slice R s a6),.eq 1 (.slice R s s),.eq 2 (.agg #[I c,I a,I b,.bool rt,.slice a5 w a7]),.eq 3 (.agg #[I W,I U,I V]),.lit 4 1 144 #[I W,I U,I V],.sl EN 5 144 3 (s+1) (C++[⟨W,U,V⟩]),.sl EN 6 144 3 (s+1) (C++[⟨W,U,V⟩])] [[0],[1],[2],[3],[4],[5],[6]] kR kR Y (λ_ _ _ _ e d=>⟨e.symm.trans d.1,d.2⟩) (λd=> ?_);refine⟨?_,?_,?_,?_,?_,?_,?_,?_⟩;any_goals(first|(intro g h e f d;simp only[rY,reduceIte,ξ,ο,SW.eq,SW.lit,SW.sl,SW.no,di,dg] at e d |-;(try simp only[e] at d);go_simp;exact d _ _ rF Y)|fail)
   .intro e h d f g
    simp only[rY,reduceIte,ξ,ο,SW.eq,SW.lit,SW.sl,SW.no,di,dg] at d g |-;(try simp only[d] at g);go_simp;go_at_call 169;refine(Bz R s a6 e e8 e9).mono ?_;rintro e d ⟨rfl,rfl⟩;exact g _ _ rF Y
   .intro e i d f g
    simp only[rY,reduceIte,ξ,ο,SW.eq,SW.lit,SW.sl,SW.no,di,dg] at d g |-;(try simp only[d] at g);go_simp;go_at_call 170;refine(xx ⟨⟨c,a,b⟩,rt,D⟩ a5 w a7 e).mono ?_;rintro e d ⟨rfl,h⟩;exact g _ _ h (by rw[<-d3.1];rfl)
   .intro g h e f d
    simp only[rY,reduceIte,ξ,ο,SW.eq,SW.lit,SW.sl,SW.no,di,dg] at e d |-;(try simp only[e] at d);go_simp;exact d _ _ cZ ⟨_,Y,bM Y⟩
   .intro f l d e h
    have g:=d 1 J;have e:=d 4 J;simp only[rY,reduceIte,ξ,ο,SW.eq,SW.lit,SW.sl,SW.no,di,dg] at g e d h |-;obtain⟨e,eB,d⟩:=e;obtain⟨d,k,m⟩:=(eF.block d oC).1.resolve_left sI;obtain rfl:=cI k;rw[aS (by first|rfl|go_simp)];refine pK fX (.tmp 75) (.tmp 78) fX lD s a2.1 (g) (h0.1.f l).clip (Pl.aJ eM (λ_=>False)) (⟨W,U,V⟩:Ch) eB Y m oC (λ_ _=>Y) O mL ?_;intro g k f e i d n o;exact h _ _ d ⟨_,_,Y,n,o,i.read⟩
   .intro k l e f d
    have f:=e 5 J;simp only[rY,reduceIte,ξ,ο,SW.eq,SW.lit,SW.sl,SW.no,di,dg] at f e d |-;(try simp only[e] at d);obtain⟨f,k,e,h,i,g⟩:=f;simp only[e] at d;go_simp;exact d _ _ rF ⟨_,_,Y,h,i,g⟩
   intro r d f;have e:=f 6 J J;simp only[rY,reduceIte,ξ,ο,SW.eq,SW.lit,SW.sl,SW.no,di,dg] at e;clear f;simp only[Act.put,rC];obtain⟨s,u,e,h9,i0,f⟩:=e;have⟨h1,f8,X,d4⟩:=gB f (c3.1.step d) (((F.1.step G.1).step c5.1).step d) (d.hs Q.1);rw[e];clear d f e p A a4 b7 b8;obtain⟨d,h8⟩:=M r;subst h8;go_upto_region 13 with fail;refine iR [] [7,8] (XZ t ⟨c,a,b⟩) [[],[],[1],[],[],[4],[4,5],[0,1,2],[3,4,5,6]] [.w1 0 (λd _=>d=.map (S t)),.w1 1 (λd _=>d=aP y 0),.w1 2 (λd _=>d=.agg #[I c,I a,I b]),.w1 3 (λd _=>d=.map (S t)),.w1 4 (λd _=>d=aP y 0),.w1 5 (λd _=>d=.agg #[I c,I a,I b]),.w1 6 (λd _=>d=.agg #[I c,I b,I a]),.w1 7 (λ_ d=>MX d t [⟨c,a,b⟩] (⟨c,a,b⟩::⟨c,b,a⟩::KN)),.w1 8 (λ_ d=>MX d t [⟨c,b,a⟩] (⟨c,a,b⟩::⟨c,b,a⟩::KN))] [[0],[1],[2],[3],[4],[5],[6],[7],[8]] kR kR kR kR Y (λ_ _ _ _ e d=>⟨e.symm.trans d.1,d.2⟩) (λ_ _ d=>XZ.of d) (λ_ _ _ d e=>d.trans e) ?hstab ?hstabM ?walk
   case hstab=>
    refine⟨?_,?_,?_,?_,?_,?_,?_,?_,?_,trivial⟩
    .exact λ_ _ _ d _=>d
    .exact λ_ _ _ d _=>d
    .exact λ_ _ _ d _=>d
    .exact λ_ _ _ d _=>d
    .exact λ_ _ _ d _=>d
    .exact λ_ _ _ d _=>d
    .exact λ_ _ _ d _=>d
    .intro h g f d e;simp only[bG.at] at d |-;exact d.keep e
    intro h g f d e;simp only[bG.at] at d |-;exact d.keep e
   case hstabM=>
    intro e d;simp only[rB] at d;rcases d with rfl|rfl
    .refine⟨?_,?_,?_,?_,?_,?_,?_,?_,?_,trivial⟩
     .exact λ_ _ _ _ _ _ d _=>d
     .exact λ_ _ _ _ _ _ d _=>d
     .exact λ_ _ _ _ _ _ d _=>d
     .exact λ_ _ _ _ _ _ d _=>d
     .exact λ_ _ _ _ _ _ d _=>d
     .exact λ_ _ _ _ _ _ d _=>d
     .exact λ_ _ _ _ _ _ d _=>d
     .exact λd=>absurd Y d
     intro _ _ _ h g f d e;simp only[bG.at] at d |-;exact e.2 _ _ sI (by simp[Ch.back]) d
    refine⟨?_,?_,?_,?_,?_,?_,?_,?_,?_,trivial⟩
    .exact λ_ _ _ _ _ _ d _=>d
    .exact λ_ _ _ _ _ _ d _=>d
    .exact λ_ _ _ _ _ _ d _=>d
    .exact λ_ _ _ _ _ _ d _=>d
    .exact λ_ _ _ _ _ _ d _=>d
    .exact λ_ _ _ _ _ _ d _=>d
    .exact λ_ _ _ _ _ _ d _=>d
    .intro _ _ _ h g f d e;simp only[bG.at] at d |-;exact e.2 _ _ sI (by simp[Ch.back]) d
    exact λd=>absurd Y d
   case walk=>
    intro A;obtain⟨s0,g⟩:∃d,A 0=d:=⟨_,Y⟩;obtain⟨s1,h⟩:∃d,A 1=d:=⟨_,Y⟩;obtain⟨s2,i⟩:∃d,A 2=d:=⟨_,Y⟩;obtain⟨s3,k⟩:∃d,A 3=d:=⟨_,Y⟩;obtain⟨s4,l⟩:∃d,A 4=d:=⟨_,Y⟩;obtain⟨s5,m⟩:∃d,A 5=d:=⟨_,Y⟩;obtain⟨s6,n⟩:∃d,A 6=d:=⟨_,Y⟩;obtain⟨s7,o⟩:∃d,A 7=d:=⟨_,Y⟩;obtain⟨s8,p⟩:∃d,A 8=d:=⟨_,Y⟩;refine⟨?_,?_,?_,?_,?_,?_,?_,?_,?_,?_⟩
    .intro r s e f d
     clear e;simp only[rY,reduceIte,ξ,ο,g,h,i,k,l,m,n,o,p] at d |-;go_simp;exact d _ _ rF Y
    .intro r s e f d
     clear e;simp only[rY,reduceIte,ξ,ο,g,h,i,k,l,m,n,o,p] at d |-;go_simp;exact d _ _ rF Y
    .intro f b8 d e b7
     have a4:=d 1 J;simp only[rA,bG.at,g,h,i,k,l,m,n,o,p] at a4;clear d;simp only[rY,reduceIte,ξ,ο,g,h,i,k,l,m,n,o,p] at b7 |-;subst a4;obtain⟨d,e,f,-⟩:=mD (b8.1.aB d4.1 d0.1);go_simp;exact b7 _ _ rF Y
    .intro r s e f d
     clear e;simp only[rY,reduceIte,ξ,ο,g,h,i,k,l,m,n,o,p] at d |-;go_simp;exact d _ _ rF Y
    .intro r s e f d
     clear e;simp only[rY,reduceIte,ξ,ο,g,h,i,k,l,m,n,o,p] at d |-;go_simp;exact d _ _ rF Y
    .intro f b8 d e b7
     have a4:=d 4 J;simp only[rA,bG.at,g,h,i,k,l,m,n,o,p] at a4;clear d;simp only[rY,reduceIte,ξ,ο,g,h,i,k,l,m,n,o,p] at b7 |-;subst a4;obtain⟨d,e,f,-⟩:=mD (b8.1.aB d4.1 d0.1);go_simp;exact b7 _ _ rF Y
    .intro d8 f d e b8
     have a4:=d 4 J;have b7:=d 5 J;simp only[rA,bG.at,g,h,i,k,l,m,n,o,p] at a4 b7;clear d;simp only[rY,reduceIte,ξ,ο,g,h,i,k,l,m,n,o,p] at b8 |-;subst a4 b7;go_simp;go_at_call 171;refine(xC ⟨c,a,b⟩ d8).mono ?_;rintro e d ⟨rfl,d9⟩;exact b8 _ _ d9 Y
    .intro f d9 d e d8
     have a4:=d 0 J;have b7:=d 1 J;have b8:=d 2 J;simp only[rA,bG.at,g,h,i,k,l,m,n,o,p] at a4 b7 b8;clear d;simp only[rY,reduceIte,ξ,ο,g,h,i,k,l,m,n,o,p] at d8 |-;subst a4 b7 b8;rw[aS fX];refine zg (M:=t) (c:=⟨c,a,b⟩) (d:=⟨c,a,b⟩) (lo:=KN) (hi:=⟨c,a,b⟩::⟨c,b,a⟩::KN) (.tmp 80) (.tmp 82) _ fX fX fX fX (d9.2 _ _ sI (by simp[Ch.back]) ((K.1.keep X.1).mono (λ_ d=>d) (λ_ d=>by simp[d]))) a3.1 (.inl Y) sI (by have:=b5.1;simp only[bW,maxLen];omega) ?_;intro f e d;exact d8 undef _ e d
    .intro f e0 d e d9
     have a4:=d 3 J;have b7:=d 4 J;have b8:=d 5 J;have d8:=d 6 J;simp only[rA,bG.at,g,h,i,k,l,m,n,o,p] at a4 b7 b8 d8;clear d;simp only[rY,reduceIte,ξ,ο,g,h,i,k,l,m,n,o,p] at d9 |-;subst a4 b7 b8 d8;rw[aS fX];refine zg (M:=t) (c:=⟨c,a,b⟩) (d:=⟨c,b,a⟩) (lo:=KN) (hi:=⟨c,a,b⟩::⟨c,b,a⟩::KN) (.tmp 83) (.tmp 86) _ fX fX fX fX (e0.2 _ _ sI (by simp[Ch.back]) ((K.1.keep X.1).mono (λ_ d=>d) (λ_ d=>by simp[d]))) (Vq a3.1) (.inr Y) sI (by have:=b5.1;simp only[bW,maxLen];omega) ?_;intro f e d;exact d9 undef _ e d
    intro h2 e7 d;have d8:=d 0 J J;have d9:=d 1 J J;have e0:=d 2 J J;have e1:=d 3 J J;have e2:=d 4 J J;have e3:=d 5 J J;have e4:=d 6 J J;have b7:=d 7 J J;have b8:=d 8 J J;simp only[rA,bG.at,g,h,i,k,l,m,n,o,p] at d8 d9 e0 e1 e2 e3 e4 b7 b8;clear d;simp only[Act.put,rC,g,h,i,k,l,m,n,o,p];subst d8 d9 e0 e1 e2 e3 e4;have⟨a4,g6,g7⟩:=dt e7 b7 b8;clear e7 b7 b8 g h i k l m n o p;go_wp2;go_roundg (gk-1)
    .have k:Fr j z h2:=f8.1.keep a4.1.1 (λe d=>d▸c8.1.1)
     refine⟨x+1,⟨c,a,b⟩::⟨c,b,a⟩::KN,C++[⟨W,U,V⟩],_,_,_,oB HJ.1,by go_num,Y,oB g2.1,h9,i0,?_,by simp[a2.1],by have:=b5.1;simp only[bW];omega,?_,?_,k,?_⟩
     .obtain⟨e,d,h⟩:=K.1.obj
      exact h1.1.aJ (Pl.aJ eM (λ_=>False)) a4.1.1 (λf e d l i=>by
       subst i;have d:=X.1.hs h;obtain⟨e,f,g⟩:=l;rw[d] at g;cases g)
     .have a:=a4.1.2 _ _ sI (by simp[Ch.back]) ((K.1.keep X.1).mono (lo':=KN) (hi':=⟨c,a,b⟩::⟨c,b,a⟩::KN) (λ_ a=>a) (λ_ a=>by simp[a]))
      exact((g6.1.join g7.1).join a).mono (λb a=>by simpa using a) (λ_ a=>a)
     .have a:=MB.1
      rw[RS.1] at a;rw[a,<-d3.1];simp[Ch.back]
     exact a4.1.1.aB (X.1.hs HQ.1) (λa=>c8.1.2 a.symm)
    have:=HJ.1;omega
  have a:N (P.drop x=[]):=Z (dY fU);go_wp2;go_ret;exact aM (by rw[RS.1,c9.1,a.1];rfl) b0.1
def pf(d:E)(c:Rl)(e:ε)(b:Ending)(a:ε):Prop:=
 (match je d c with
 |some d=>∃c,b=.returned (.tuple #[c,.bool γ])/\Sl 3 1 CI a c (cU d)
 |none=>b=.returned (.tuple #[aV,.bool δ]))/\Fr j e a
theorem pf.some{a:Rl}(b:je m a=S B)(d:Sl 3 1 CI V x (cU B))(c:Fr j W V):pf m a W (.returned (.tuple #[x,.bool γ])) V:=
 ⟨by rw[b];exact⟨x,Y,d⟩,c⟩
theorem pf.none{a:Rl}(b:je m a=η)(c:Fr j W V):pf m a W (.returned (.tuple #[aV,.bool δ])) V:=
 ⟨by rw[b],c⟩
def WD:ι E->T
 |some a=>(a:T)
 |none=> -1
def okB(d:E)(c:Rl)(b a:E):κ:=!b.testBit a&&Fb (row d (eA c) a) b
theorem wD(a:q<m):(L.range m).drop q=q::(L.range m).drop (q+1):=by
 rw[nR (sU a)];simp
theorem Kq:(prog.info? 3).map (λa=>(a.zero,a.size,a.bytes))=S (S aI,1,8):=kR
theorem nP(a:E)(e:Rl)(a2:a<=64)(i:ε)(e4:Gl i)(a8:ζ)(c8:iM a e i a8):aQ 215 #[a8] i (pf a e i):=by
 have RT:=(λb(c6:Fr j i b)=>uf a e a2 b (e4.fr c6) a8 (c8.fr c6));obtain⟨i7,rfl,g1⟩:=c8;obtain⟨f1,f2,rfl,-,-⟩:=g1.slice;rw[bY] at*;obtain⟨g7,f8,g4,g5,g6⟩:=lV Kq;have i3:∀b:ε,(Instr.makeSlice 30 aI (I a)).run prog b=.ok (.slice (S (H b.heap.size 0)) 0 a) (b.alloc (.cells (madeCells #[aI] a) 3)):=λb=>by
  have:=run_make (P:=prog) (w:=b) 30 3 g7 aI underlying30 f8 g4 .i64 .i64 0 a O O (by rw[g6];omega) O;simpa[g5,ζ.cells] using this
 delta aQ;go_in
 go_wp2_with fail;refine aZ.nm (λa9 a7=> ?_);have b2:Fr j i a9:=(a7▸(Fr.refl j i).alloc _);have d9:(aY a9 i.heap.size #[I a,.slice f1 a f2] 355):=(a7▸bM Y);clear a7;refine sg (RT a9 b2) ?_;rintro f x ⟨i9,rfl,f7,p⟩;have b3:=(b2.step p);have n:=Z (p.hs d9);obtain⟨i8,rfl,t⟩:=f7;obtain⟨c2,h2,i4,c3,rfl,-,-,HT⟩:=t;rw[bY] at*;have U:=bx n.1;have h5:=λv=>bx (aC n.1 v);have h6:∀v q,((x.alloc v).alloc q).cell? (H i.heap.size 0)=S (I a):=λv q=>aj (aC (aC n.1 v) q) 0;have V:=dh n.1;obtain⟨l,C⟩:=M x.heap.size;go_wp2_with fail;obtain⟨m,u⟩:=M (x.alloc (.cells #[I a,.slice c2 a c3] 355));rw[<-u,<-C];have d2:aY m l #[I a,.slice c2 a c3] 355:=u▸bM C;have d7:m.heap.size=l+1:=by rw[u,fL,<-C]
 have g8:cC (l+1) 3 1 CI (m.alloc (.cells (madeCells #[aI] a) 3)) (.slice (S (H (l+1) 0)) 0 a) [] []:=⟨by have:=ε.ownsRow_made (base:=l+1) (e:=3) (size:=1) m (madeCells #[aI] a) a O (by simp[maxLen];omega) (by rw[ns];omega);rwa[d7] at this,Y,sI⟩;have p:Fr j x m:=u▸(Fr.refl j x).alloc _;have HM:N (i.heap.size<l/\m.heap.size=l+1):=Z ⟨oB (ba n.1),d7⟩;have b8:=(HT.f p);clear u C;have e1:=(b3.step p);have e0:=Z (p.hs n.1);clear b3 n p;have e9:=Z (d2);clear d2;go_loopg [6,7,8,9,22] a (λgk s6 s7 s8 s9 g wr=>∃(h c:E)(k:L E)(c0:L (L ζ)),h+gk=a/\g=I h/\s7=.int .u64 (c:E)/\c<2 ^ a/\k.length=h/\(∀b0∈k,b0<a)/\OH a e gk c k=je a e/\cC (l+1) 3 1 CI wr s6 (cU k) c0/\Fr j m wr)
 .exact⟨0,0,[],[],du,Y,Y,oa a,Y,sI,Y,g8,(Fr.refl j m).alloc _⟩
 case round=>
  obtain⟨h,c,k,c0,d1,rfl,rfl,b7,a4,d3,d5,A,o⟩:=hrel;have⟨HK,e6,e7,Q⟩:=gB d1 a4 d3 d5;have a0:(cU k).length=h:=by rw[<-a4];simp[cU]
  obtain⟨h0,h3,rfl,-,-⟩:=A.shape a0;have e5:=Z a0;have i1:h<=a:=O;have a6:=jd b7 (lj (n:=2) J a2);clear d1 a4 d3 d5 a0;obtain⟨g9,g3⟩:=M wr;subst g3;have b4:=(e1.step o);have⟨b1,c1⟩:=bD (o.hs e0.1) (o.hs e9.1);by_cases i2:h<a
  .obtain⟨B,f6⟩:∃B,gk=B+1:=⟨gk-1,oB HK.1⟩
   subst f6;have U:=bx b1.1;have V:=dh b1.1;have c4:=bx c1.1;have c5:=dh c1.1;go_wp2_with fail;go_loopg [8,9] a (λgk s8 s9 wr=>gk<=a/\s9=I ((gk:T)-1)/\s8=I (WD (((L.range a).drop gk).find? (okB a e c)))/\wr=g9)
   .exact⟨eG,Y,by rw[mq sI];rfl,Y⟩
   case round=>
    obtain⟨h7,rfl,rfl,rfl⟩:=hrel;by_cases d6:gk=0
    .subst d6
     obtain⟨d8,a3⟩:=M (((L.range a).drop 0).find? (okB a e c));rw[<-a3];have K:N (zT a e c=d8):=Z a3.symm;clear a3;cases d8 with
     |none=>
      have r:N (je a e=η):=Z (by rw[<-Q.1,OH,K.1]);clear U V c4 c5;simp only[WD];go_wp2;go_ret2;exact pf.none r.1 b4
     |some g=>
      obtain⟨b5,-,-⟩:=xh K.1;have r:N (OH a e B (c|||2 ^ g) (k++[g])=je a e):=Z (by rw[<-Q.1,OH,K.1]);have h8:¬(g:T)<0:=O;have f9:g<64:=O;have b9:N (∀b,aQ 274 #[.int .u64 (c:E),I g] b λf w=>f=.returned (.int .u64 ((c|||2 ^ g:E):T))/\b=w):=Z (λb=>wW _ _ a6 f9 b);obtain⟨s2,t⟩:=M (c|||2 ^ g);rw[<-t] at b9 r;have e8:=Z t;clear t;have f4:(h+1)*8<=140737488355328:=O;have f5:h+1<=maxLen:=mL;simp only[WD];clear U V c4 c5;go_wp2_with (at_builtin;refine stop ?_);refine aZ.go (bH Y (.tmp 47) (.tmp 49) Y oG h e5.1 Y (A.fr da (tC.alloc _)) da id (g:T) Y Y (eF.one _ _ _ Y) (λ_ _=>Y) f4 f5 ?p6 ?p7)
      case p6=>have:=o.size;have:=HM.1;simp;omega
      case p7=>
       (intro h1 h4 j0 f0 c7 _ _;have e2:=(c7.fr VG (o.alloc _));clear c7;have g2:s2<2 ^ a:=by rw[e8.1];exact pD b7 (E.pow_lt_pow_right J b5));clear A o;go_wp2_with fail;refine sg (b9.1 _) ?_;rintro f j1 ⟨rfl,rfl⟩;go_wp2;go_roundg B
       .exact⟨h+1,s2,k++[g],_,oB HK.1,by go_num,Y,g2,by simp[e6.1],λb0 s=>by rcases cB.1 s with s|s;exact e7.1 b0 s;simp at s;rw[s];exact b5,r.1,by have:=f0;simp only[cU,nO,jC,nu] at this |-;exact this,e2⟩
       omega
    obtain⟨d,rfl⟩:∃d,gk=d+1:=⟨gk-1,O⟩;have a1:d<a:=O;have g0:d<64:=O;have F:=Z (wD a1);have d0:(((d+1:E):T)-1)=(d:T):=O;rw[d0];obtain⟨D,W⟩:=M (c.testBit d);have G:N (∀b,aQ 272 #[.int .u64 (c:E),I d] b λf w=>f=.returned (.bool D)/\b=w):=Z (λb=>by rw[W];exact KL c d a6 g0 b);obtain⟨R,X⟩:=M (Fb (row a (eA e) d) c);have z:N (∀b,aQ 273 #[.int .u64 (row a (eA e) d:E),.int .u64 (c:E)] b λf w=>f=.returned (.bool R)/\b=w):=Z (λb=>by rw[X];exact KG _ c (dW a2) a6 b);have P:N (okB a e c d=(!D&&R)):=Z (by rw[W,X];rfl);obtain rfl:=b8.addr (cL a1);have f3:=(b8.f o).u64 (cL a1);obtain⟨i6,d4⟩:=M (row a (eA e) d);rw[<-d4] at f3 z;clear d4 W X d0 d6;have⟨h9,i0⟩:=dy d a;obtain⟨i5,a5⟩:=M (WD (((L.range a).drop (d+1)).find? (okB a e c)));rw[<-a5];have b6:=Z a5;clear a5;cases D
    .cases R
     .skip
      go_wp2_with (first|(go_at_call 272;refine(G.1 _).mono ?_;rintro f y ⟨rfl,rfl⟩)|(go_at_call 273;refine(z.1 _).mono ?_;rintro f y ⟨rfl,rfl⟩));go_roundg d
      .exact⟨O,Y,by rw[F.1,rZ,P.1];exact cH (ζ.int .i64) b6.1,Y⟩
      omega
     skip
     go_wp2_with (first|(go_at_call 272;refine(G.1 _).mono ?_;rintro f y ⟨rfl,rfl⟩)|(go_at_call 273;refine(z.1 _).mono ?_;rintro f y ⟨rfl,rfl⟩));go_roundg d
     .exact⟨O,Y,by rw[F.1,rZ,P.1];rfl,Y⟩
     omega
    skip
    go_wp2_with (first|(go_at_call 272;refine(G.1 _).mono ?_;rintro f y ⟨rfl,rfl⟩)|(go_at_call 273;refine(z.1 _).mono ?_;rintro f y ⟨rfl,rfl⟩));go_roundg d
    .exact⟨O,Y,by rw[F.1,rZ,P.1];exact cH (ζ.int .i64) b6.1,Y⟩
    omega
  have r:N (je a e=S k):=Z (by have c9:=Q.1;rw[show gk=0 from by have:=HK.1;omega] at c9;exact c9.symm);have e3:=b4;go_wp2;go_ret2;exact pf.some r.1 A.read e3
end Go.Proofs.YtecdpehmhpleeaaGreatDoor
