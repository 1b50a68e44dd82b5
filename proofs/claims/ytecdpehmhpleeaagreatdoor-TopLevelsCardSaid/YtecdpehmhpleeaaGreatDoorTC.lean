/- Part of the proof that TopLevels holds, for any argument and memory that the statement allows. -/
import Derived.Test.YtecdpehmhpleeaaGreatDoorTB
import Derived.ChangeKeysEq
import Derived.Lib.OwnKind
import Derived.Lib.Overlaps
import Derived.Laws.CopyRow
import Derived.Laws.Externs
import Derived.WalkMore
import Derived.ScopeJumps
open _root_ renaming rfl->Y,List->L,Nat->E,Int->T,Array->θ,Option->ι,Bool->κ
open Option renaming some->S,none->η
open Bool renaming true->γ,false->δ
open Go renaming World->ε,Value->ζ
open Nat renaming reduceEqDiff->ξ
namespace Go.Proofs.YtecdpehmhpleeaaGreatDoor
open Go.RowKit Tryz
set_option linter.unusedVariables false
set_option linter.unusedSimpArgs false
set_option maxRecDepth 100000
set_option maxHeartbeats 16000000
variable{α β:Type}{P:Program}{m q n1 n2 n3 n4 n5:Nat}{W V U w4:World}{x v1 v2 v3 v4:Value}{i1 i2 i3 i4 i5 i6:Int}{t:TypeId}{e p1 p2:List Int}{Q:Exit→Act→World→Prop}{A:Option Addr}{C:World→List Value→α→Prop}{L1:List (List Value)}{X X1:List α}{Y1:List Value}{u u1:List UInt8}{S1:Nat→Prop}{p0 q0:Prop}{R R1:List It}{B D:List Nat}{K:List Ch}{a1 a2:Act}{r1:List Oper}{o1:Array Oper}{o2:Oper}{F:List Fc}{K1:Act→World→Prop}{x1 x2:α}{S2:ByteArray}{c3:Ch}{f1 f2:Nat×Nat}{m1:List Mk}{e1:List Ev}{N1:List Nd}{e2:Ending}{G:World→Prop}
theorem Fr.all{q:E}{b:Obj}(c:W.heap[q]? =S b):N (∀a,Fr j W a->a.heap[q]? =S b):=Z (λb a=>a.hs c)
theorem th{a:Mk}:∀{P:L Mk},a∈P->a.dn.length+1<=oY P
 |[],b=>by cases b
 |a::P,b=>by
  have a:oY (a::P)=(a.dn.length+1)+oY P:=by simp[oY]
  rcases cK.1 b with rfl|c
  .omega
  have:=th c;omega
theorem Bu:∀P:L Mk,P.length<=oY P
 |[]=>by simp
 |a::P=>by
  have a:oY (a::P)=(a.dn.length+1)+oY P:=by simp[oY]
  have:=Bu P;simp only[bW];omega
abbrev gN(a:ε)(q:E)(b c d e:ζ):ε:=(((a.setCell ⟨q,0,η⟩ b).setCell ⟨q,1,η⟩ c).setCell ⟨q,2,η⟩ d).setCell ⟨q,3,η⟩ e
theorem bP{q:E}(e:aY W q #[x,v1,v2,v3] t)(a b c d:ζ):(gN W q a b c d).heap[q]? =S (.cells #[a,b,c,d] t (0,0)):=aD (aD (aD (aD e 0 a) 1 b) 2 c) 3 d
theorem bC(a:ε)(q:E)(b c d e:ζ):bT q a (gN a q b c d e):=(((rF.aK _ _).aK _ _).aK _ _).aK _ _
theorem Sl.past{b a:TypeId}{d q:E}{c:TypeId->Prop}{e:θ ζ}(g:Sl b d C W x X)(i:dU c C)(f:bT q W V)(k:aY W q e a)(e:b≠a)(h:¬c a):Sl b d C V x X:=
 g.aJ i f (λf d c b a=>b.ne ⟨_,_,a▸k⟩ (λa=>c.elim (λb=>e (b.symm.trans a)) (λb=>h (a▸b))) Y)
theorem Em:¬AF 288:=by unfold AF;decide
theorem qB:¬fS 288:=by unfold fS;decide
theorem nX{e:Rl}(l:m<=64)(i:pf m e W e2 V):(∃c g d,e2=.returned (.tuple #[c,.bool d])/\Sl 3 1 CI V c g/\g.length<=64/\(d=γ->∃b,je m e=S b/\g=cU b)/\(d=δ->je m e=η))/\Fr j W V:=by
 obtain⟨f,k⟩:=i;refine⟨?_,k⟩;split at f
 .rename_i b a
  obtain⟨c,h,n⟩:=f;exact⟨c,_,γ,h,n,by have:=(oN l a).1;simp only[cU,eo];omega,λ_=>⟨b,a,Y⟩,(λe2=>by cases e2)⟩
 rename_i a;exact⟨_,[],δ,f,dJ,sI,(λe2=>by cases e2),λ_=>a⟩
theorem cc1(a:L ζ)(c:Ch)(d:CC W a c):∀b∈a,b.oneCell'=γ:=λe b=>by
 rw[show a=eM c from d] at b;simp only[eM,rB] at b;rcases b with rfl|rfl|rfl<;>rfl
def adC(k:Hs)(m:T)(l:L Fc)(P:L Mk)(n:ε)(i:Ending)(a:ε):Prop:=
 ∃d c e b f g h,i=.returned (.tuple #[d,yL e g h aV])/\iy k m l P c e b f/\b.length<=64/\Sl 279 5 MC a d c/\Sl 3 1 CI a g b/\Sl 146 4 NC a h f/\Fr j n a
theorem Mq(a:Hs)(c:T)(b:List Fc)(P:List Mk)(d5 d6 d7:ζ)(i:ε)(v:Gl i)(c7:eJ i d5 a)(a7:Sl 276 7 CF i d6 b)(d0:Sl 279 5 MC i d7 P)(a6:b.length<=fV)(F:oY P<=100000000000)(c3:∀d∈P,Su d.dn)(e9:∀d∈P,qZ d.c):
  aQ 178 #[d5,I c,d6,d7] i (adC a c b P i):=by
 have w:=c7;have HP:=d0;have x:P.length<=100000000000:=(oB (Bu P));obtain⟨h8,rfl,-⟩:=c7;obtain⟨g1,g4,h6,h0,rfl,-,-,-⟩:=d0;have m:(prog.info? 288).map (·.size)=S 4:=kR
 delta aQ;go_in
 go_wp2_with fail;refine aZ.nm (λK d=> ?_);obtain⟨c7,e⟩:=M i.heap.size;obtain⟨h,g⟩:=M (c7+1);rw[<-e,<-g];have u:=lq d;have z:=qa1 d e;have A:N (∀f,Fr j K f->aY f h #[aI,aV,aV,aV] 288):=Fr.all (by rw[d];exact bM sO);have n:(i.heap.size<=h/\K.heap.size=h+1):=(by rw[d];simp;omega);clear d e g;refine sg (Xp _ P K (HP.f u) (oB x) (λd k=>⟨by have:=th k;have:=F;unfold fV;omega,c3 d k⟩)) ?_;rintro i f4 ⟨c7,e2,rfl,c4,V⟩;obtain⟨G,d⟩:=M P.length;obtain⟨f7,g6,rfl,h2,h3⟩:=c4.shape d.symm;have HN:=Z d;have t:=(u.step V);rw[<-d];clear d;have i:=bx (z.1 _ V);go_wp2_with fail;refine sg (wT a c b P _ _ _ f4 (w.fr t) (a7.f t) (HN.1▸HP.f t) a6 (by have:=x;unfold fV;omega) (λd k=> ?_) e9) ?_
 .have:=th k;have:=F;omega
 rintro i d8 ⟨rfl,a4⟩;have f:=(V.step a4);have l:=(t.step a4);have y:=(c4.f a4);cases d:iQ a c b P
 .have e:=A.1 _ f
  obtain⟨g,i,o,p,r⟩:=gZ e;go_wp2;refine aO (dZ Y _ _ _ h 288 _ (0,0) _ Y (bP e (I 3) aV aV aV) Y underlying288 (by rw[m];rfl)) Y ⟨_,_,_,_,_,_,_,Y,(iy.stuck d),sI,Sl.past (y.read) MC.aJ (bC _ _ _ _ _ _) e J Em,Sl.past dJ iA (bC _ _ _ _ _ _) e J id,Sl.past dJ NC.aJ (bC _ _ _ _ _ _) e J qB,l.keep (bC _ _ _ _ _ _) (λg e=>e▸n.1)⟩
 obtain⟨a8,e⟩:=M b.length;have HLN:=Z e;have i:a8<=1000000000000:=by have:=a6;unfold fV at this;omega
 have i:G<=100000000000:=gX x HN.1;clear e;go_wp2_with fail;refine sg (eQ b _ d8 (a7.f l) a6) ?_;rintro t f5 ⟨V,i,rfl,c5,b9⟩;obtain⟨f8,g7,rfl,-,-⟩:=c5.shape (m:=a8) (by rw[HLN.1];simp[fe]);have e3:=c5;go_wp2_with fail;refine sg (Aq P _ f5 (HN.1▸HP.f (l.step b9)) (by have:=x;unfold fV;omega)) ?_;rintro t V ⟨x,i,rfl,f0,c2⟩;have c0:=(b9.step c2);have e4:=(e3.f c2);have f1:=f0.read;obtain⟨f9,g3,h4,g8,rfl,-,-,e0⟩:=f1;have i:(P.map Mk.yG).length=G:=by rw[HN.1];simp
 rw[i];go_wp2_with (at_builtin;refine stop ?_);refine aZ.go (ja Y (.tmp 30) (.tmp 32) Y lD a8 G (by rw[HLN.1];simp[fe]) i Y e4 EN id Y e0 cc1 O mL c0.size ?_);intro a4 a6 x V t i _ _;have a0:=(i.fr eG c0);have b7:=t.read;have R:=(l.step a0);have i:=bx (z.1 _ (f.step a0));go_wp2_with fail;refine sg (ng a c (kq b P) _ _ x (v.fr R) (w.fr R) b7) ?_;rintro i f6 ⟨c8,a2⟩;have RR:=(dO (gK d).2.1);rw[aS (by rw[sE d,RR.2];rfl)] at c8;obtain⟨h1,rfl,c6⟩:=c8;have o:a.length<=64:=(oB (bK RR.1));have W:=c6;obtain⟨sg,rfl,f2⟩:=c6;obtain⟨g0,g9,rfl,-,-⟩:=f2.slice;rw[bY] at W |-;obtain⟨p,e⟩:=M a.length;rw[<-e] at W |-;have g:=Z e;clear e;go_wp2_with fail;refine aZ.nm (λt i=> ?_);obtain⟨x,e⟩:=M f6.heap.size;rw[<-e];have D:=cY i;have b6:=yY i e;have b3:=(W.fr D);have b2:=((R.step a2).step D);clear i e;refine sg (mS p _ (gX g.1 o) t (v.fr b2) _ b3) ?_;rintro i d9 ⟨t,rfl,d2,C⟩;have B:=(((a0.step a2).step D).step C);have U:=(b2.step C);have b5:=d2;obtain⟨e6,g5,h7,e8,rfl,-,-,-⟩:=d2;obtain⟨a1,e⟩:=M ((cU (dF p (cP a c (kq b P)))).length);rw[<-e] at b5 |-;have b4:=Z e;clear e;by_cases d3:a1=0
 .subst d3
  have b1:(dF a.length (cP a c (kq b P))=[]):=(by have:=b4.1;rw[g.1] at this;simpa[cU] using this.symm);have i:=bx (z.1 _ (f.step B));go_wp2_with fail;refine sg (Cg a (kq b P) _ _ d9 (w.fr U) (((b7.f a2).f D).f C)) ?_;rintro i Q ⟨rfl,a3⟩;rw[show oX a (kq b P)=oV a (kq b P) by unfold oX;rw[aS (sE d)]];have X:=(C.step a3);have b8:=(B.step a3);cases c9:oV a (kq b P) with
  |none=>
   have i:=λe=>bx (b6.1 _ (X.alloc e));have i:=λe=>dh (b6.1 _ (X.alloc e));unfold yA iP;simp only[pY,qu];go_wp2_with fail;refine aZ.nm (λs e=> ?_);have a5:=cY e;have a9:=((U.step a3).step a5);clear e;refine sg (nP p _ (gX g.1 o) s (v.fr a9) _ (b3.fr (X.step a5))) ?_;intro i t f3;obtain⟨⟨h9,d4,g2,rfl,d1,e1,-,-⟩,c1⟩:=nX (gX g.1 o) f3;have b0:=((b8.step a5).step c1);have HS:=d1;obtain⟨e5,bo,h5,e7,rfl,-,-,-⟩:=d1;obtain⟨t,i⟩:=M d4.length;rw[<-i] at HS |-;have r:=A.1 _ (f.step b0);clear i;obtain⟨i,x,C,D,R⟩:=gZ r;go_wp2;refine aO (dZ Y _ _ _ h 288 _ (0,0) _ Y (bP r (I 1) (.slice e5 t e7) aV aV) Y underlying288 (by rw[m];rfl)) Y ⟨_,_,_,_,_,_,_,Y,(iy.yes d4 d b1 c9),e1,Sl.past ((y.f b0).read) MC.aJ (bC _ _ _ _ _ _) r J Em,Sl.past HS iA (bC _ _ _ _ _ _) r J id,Sl.past dJ NC.aJ (bC _ _ _ _ _ _) r J qB,(a9.step c1).keep (bC _ _ _ _ _ _) (λr i=>i▸n.1)⟩
  |some i=>
   obtain⟨b0,a5,a9⟩:=i;unfold yA iP;simp only[jx,nU];go_wp2_with (at_builtin;refine stop ?_);refine aZ.go (AM (λs e=> ?_));have r:Fr j d8 s:=(by rw[e];exact(b8.alloc _).alloc _);have i:(s.heap[Q.heap.size+1]? =S (.cells #[I b0,I a5,I a9,.bool δ,aV] 279 (0,0))):=(by rw[e];exact bM sI);clear e;refine bH Y (.tmp 72) (.tmp 75) Y Sf G HN.1.symm Y (y.f r) MC.aJ Po (⟨⟨b0,a5,a9⟩,δ,[]⟩:Mk) Y Y (eF.block i oC) (λ_ _=>⟨_,Y,dJ⟩) O mL ?p6 ?p7
   case p6=>have:=r.size;have:=f.size;omega
   case p7=>
    intro x C D t i _ _;have c1:=(i.fr u.size (l.step r));have e:=(i.fr eG (f.step r)).hs (A.1 _ rF);have d1:=t.read;obtain⟨i,l,r,t,x⟩:=gZ e;go_wp2;refine aO (dZ Y _ _ _ h 288 _ (0,0) _ Y (bP e aI aV aV aV) Y underlying288 (by rw[m];rfl)) Y ⟨_,_,_,_,_,_,_,Y,(iy.push ⟨b0,a5,a9⟩ d b1 c9),sI,Sl.past (by have:=d1;rwa[HN.1] at this) MC.aJ (bC _ _ _ _ _ _) e J Em,Sl.past dJ iA (bC _ _ _ _ _ _) e J id,Sl.past dJ NC.aJ (bC _ _ _ _ _ _) e J qB,c1.keep (bC _ _ _ _ _ _) (λi e=>e▸n.1)⟩
 have b0:(dF a.length (cP a c (kq b P))≠[]):=(λe=>d3 (by rw[b4.1,g.1,e];rfl));have i:decide (0<a1)=γ:=sO;have i:=bx (z.1 _ (f.step B));go_wp2_with fail;refine aZ.nm (λQ e=> ?_);have a3:=cY e;have X:=(B.step a3);have r:=(U.step a3);have e1:Sl 146 4 NC Q (.slice (S (H d9.heap.size 0)) 1 1) (fP (cU (dF p (cP a c (kq b P))))):=((cC.lit (B:=0) (n:=4) (C:=NC) (m:=1) (xs:=fP (cU (dF p (cP a c (kq b P))))) (L:=[[aI,aI,aI,.slice e6 a1 e8]]) (by rw[e];exact bM Y) nG Y J Y Y (λi l p a9 a5=>by
  have b1:i=0:=by have:=(cj.1 a5).1;simpa[fP] using this
  subst b1;simp[fP] at a9 a5;subst a9 a5;exact⟨Y,_,Y,(b5.f a3)⟩)).read)
 clear e;refine sg (Of a c b P _ _ _ _ _ e2 K.heap.size Q (v.fr r) (w.fr r) (a7.f r) (by have:=y.f X;rw[HN.1];rw[HN.1] at this;exact this) e1 (gX f.size X.size) (by have:=F;unfold fV;simp only[fP,eK];omega) (λa k=>⟨by have:=th k;have:=F;unfold fV;omega,c3 a k⟩) ?hcy o) ?_
 case hcy=>
  intro a e;simp only[fP,cX] at e;subst e;simp only[cU,eo];exact jv (gX g.1 o)
 rintro b s ⟨a,c⟩;have b1:=(r.keep a (λe b=>bX u.size b));have e:=a.aB (A.1 _ (f.step X)) O;rcases c with⟨d4,f3,a9,b,a,a5,rfl,c1⟩|⟨a9,h9,d1,a5,rfl,c9,hcy,b8⟩
 .obtain⟨e5,e7,rfl,-,-⟩:=c1.shape (m:=d4.length+1) sI
  unfold yL;obtain⟨a,b,c,f,i⟩:=gZ e;go_wp2;refine aO (dZ Y _ _ _ h 288 _ (0,0) _ Y (bP e aI aV aV aV) Y underlying288 (by rw[m];rfl)) Y ⟨_,_,_,_,_,_,_,Y,(iy.eA d4 f3 a9 d b0 (by rw[<-g.1];exact a5)),sI,Sl.past c1.read MC.aJ (bC _ _ _ _ _ _) e J Em,Sl.past dJ iA (bC _ _ _ _ _ _) e J id,Sl.past dJ NC.aJ (bC _ _ _ _ _ _) e J qB,b1.keep (bC _ _ _ _ _ _) (λb a=>a▸n.1)⟩
 have SB:=c9;obtain⟨e5,g2,h5,e7,rfl,-,-,-⟩:=c9;obtain⟨b,a⟩:=M d1.length;rw[<-a] at SB |-;clear a;unfold yL;obtain⟨a,c,f,i,k⟩:=gZ e;go_wp2;refine aO (dZ Y _ _ _ h 288 _ (0,0) _ Y (bP e (I 2) aV (.slice e5 b e7) aV) Y underlying288 (by rw[m];rfl)) Y ⟨_,_,_,_,_,_,_,Y,(iy.no a9 d1 d b0 (by rw[<-g.1];exact a5) (by rw[aS ⟨oB ((gK d).1),(gK d).2.1⟩] at b8;exact b8) hcy),sI,Sl.past dJ MC.aJ (bC _ _ _ _ _ _) e J Em,Sl.past dJ iA (bC _ _ _ _ _ _) e J id,Sl.past SB NC.aJ (bC _ _ _ _ _ _) e J qB,b1.keep (bC _ _ _ _ _ _) (λb a=>a▸n.1)⟩
def AA(c:ε)(q:E)(b:TypeId)(d:E)(P:ζ->Prop):Prop:=∃a:θ ζ,aY c q a b/\a.size=d/\∀(c:E)(b:ζ),a[c]? =S b->P b
section
variable {W W':ε} {q:E} {T:TypeId} {n:E} {P:ζ->Prop}
theorem AA.get(b:AA W q T n P){i:E}(a:i<n):∃a,W.cell? (H q i)=S a/\P a:=by
 obtain⟨a,c,b,d⟩:=b;obtain⟨b,a⟩:∃b,a[i]? =S b:=⟨_,ju O⟩;exact⟨b,(aj c i).trans a,d i b a⟩
theorem AA.free(b:AA W q T n P)(a:E):W.frozen? (H q a)=δ:=by obtain⟨c,b,-⟩:=b;exact aG b a
theorem AA.set(e:AA W q T n P)(i:E){b:ζ}(h:P b):AA (W.setCell (H q i) b) q T n P:=by
 obtain⟨k,e,f,g⟩:=e;refine⟨_,aD e i b,by simp[f],λd u a=> ?_⟩;by_cases c:i=d
 .subst c
  rw[nQ] at a;split at a
  .cases a;exact h
  cases a
 rw[ew c] at a;exact g d u a
theorem AA.fr{S:E->Prop}(a:AA W q T n P)(b:Fr S W W')(e:¬S q):AA W' q T n P:=by obtain⟨a,c,d⟩:=a;exact⟨a,b.aB c e,d⟩
theorem AA.uQ(a:AA W q T n P):fE T W q:=by obtain⟨a,b,c⟩:=a;exact⟨a,_,b⟩
theorem AA.of{a:θ ζ}(b:aY W q a T)(d:a.size=n)(c:∀e∈a.toList,P e):AA W q T n P:=⟨a,b,d,λd b a=>c b (by rw[θ.mem_toList_iff];exact θ.mem_of_getElem? a)⟩
end
def IsB(b:ζ):Prop:=∃a,b=.bool a
def Nl(a:ζ):Prop:=∃b:T,a=I b
section
variable {P:Program} {o:Oper} {a:Act} {w:ε} {K:Act->ε->Prop} {Q:Exit->Act->ε->Prop}
theorem uA(f:TypeId)(g h:Operand)(p:o.op=.store f g h){b:E}{e c:θ ζ}{i:TypeId}(s:a.eval g=aP b 0)(t:a.eval h=.agg c)
  (k:aY w b e i)(r:e.size=c.size)(n:(P.info? f).map (·.size)=S c.size)(l:c.all (·.oneCell')=γ)
  (m:∀d,aY d b c i->bT b w d->K (a.put o.dst undef) d):o.wp P a w K Q:=by
 refine wp_store_mid f g h p b 0 c s t (pS k O) n l ?_;obtain⟨c,d⟩:=ig c.toList 0 w e k;rw[wV (by simp[r])] at c;exact m _ c d
end
def BR(b:κ)(d:ε)(c:Ending)(a:ε):Prop:=c=.returned (.bool b)/\Fr j d a
theorem BR.of{a b:κ}(d:a=b)(c:Fr j W V):BR b W (.returned (.bool a)) V:=⟨by rw[d],c⟩
theorem BR.me{a b:κ}(c:a=b):BR b W (.returned (.bool a)) W:=⟨by rw[c],rF⟩
def BA(d:ε)(c:Ending)(a:ε):Prop:=(∃b,c=.returned (.bool b))/\Fr j d a
theorem BA.me{a:κ}:BA W (.returned (.bool a)) W:=⟨⟨_,Y⟩,rF⟩
theorem VT(b a):Calls prog 95 #[I b] a (BA a):=by
 go_in
 go_wp2;all_goals(go_ret;exact BA.me)
theorem Nu(a b):Calls prog 145 #[.int .u8 a] b (BR (decide (33<=a)&&decide (a<=126)) b):=by
 go_in
 go_wp2;all_goals(go_ret;exact BR.me (by simp;try omega))
theorem Rc(b a):Calls prog 93 #[I b] a λc b=>(∃d,c=.returned (.string d))/\Fr j a b:=by
 go_in
 go_wp2;all_goals(go_ret;exact⟨⟨_,Y⟩,rF⟩)
theorem CX(a b):Calls prog 103 #[I a] b (BR (lm a) b):=by
 go_in
 go_wp2;all_goals(go_ret;exact BR.me (by simp[lm, *]))
theorem NS(a b c):Calls prog 105 #[I a,I b] c (BR (decide (0<=a)&&decide (a<b)) c):=by
 go_in
 go_wp2;all_goals(go_ret;exact BR.me (by simp;try omega))
theorem Xe(b a):Calls prog 144 #[I b] a (BR δ a):=by
 go_in
 go_wp2;all_goals(go_ret;exact BR.me sI)
def xS(a b:T):T:=if a<b then -1 else if b<a then 1 else 0
theorem Yk(a b c):Calls prog 90 #[I a,I b] c λe d=>e=.returned (I (xS a b))/\Fr j c d:=by
 go_in
 go_wp2_with (go_at_call 144;refine(Xe _ _).mono ?_;rintro a b ⟨rfl,a⟩);all_goals(go_ret;exact⟨by simp[xS, *];try omega,by first|exact a|exact Fr.step ‹_› ‹_›⟩)
theorem AQ(c d f e a):Calls prog 59 #[.agg #[I c,I d,I f,I e]] a (BA a):=by
 have a:∀b g,Fr j (a.alloc (.cells #[I c,I d,I f,I e] 165)) b->b.cell? (H a.heap.size g)=#[ζ.int .i64 c,I d,I f,I e][g]? :=λc a b=>aj (b.hs (bM Y)) a;go_in
 go_wp2_with (go_at_call 95;refine(VT _ _).mono ?_;rintro c d ⟨⟨a,rfl⟩,b⟩);all_goals(go_ret;exact⟨⟨_,Y⟩,by first|exact cZ|exact cZ.step b⟩)
theorem ML(b c a):Calls prog 39 #[.agg #[I b,I c]] a (BA a):=by
 go_in
 go_wp2;all_goals(go_ret;exact⟨⟨_,Y⟩,cZ⟩)
def ZT(a b:T):κ:=decide ((a=4\/a=5)/\b=0\/(0<=a/\a<4)/\1<=b/\b<=255)
theorem EO(a b c):Calls prog 47 #[.agg #[I a,I b]] c (BR (ZT a b) c):=by
 go_in
 go_wp2;all_goals(go_ret;exact BR.of (by rw[dS];simp only[ZT,cS,bA,kv,ef,rR,ne_eq,false_iff] at*;omega) cZ)
def Ev.cells(a:Ev):L ζ:=[I a.k,I a.s,I a.y,I a.v]
def Ev.val(a:Ev):ζ:=.agg #[I a.k,I a.s,I a.y,I a.v]
theorem AO(b g):Calls prog 69 #[b.val] g λe d=>e=.returned (.bool (yX b))/\Fr j g d:=by
 obtain⟨m,n,r,o⟩:=b;unfold Ev.val;simp only;go_in
 go_upto_region 1 with fail;refine cT (λh f=> ?_);have s:∀e d,Fr j h e->e.cell? (H g.heap.size d)=#[ζ.int .i64 m,I n,I r,I o][d]? :=λe d a=>aj (a.hs (by rw[f];exact bM Y)) d;have i:=cY f;have c:=Fr.refl j h;clear f;go_wp2_with (first|(go_at_call 105;refine(NS _ _ _).mono ?_;rintro b p ⟨rfl,a⟩;generalize l:(_&&_)=k;replace c:=c.step a;clear a)|(go_at_call 103;refine(CX _ _).mono ?_;rintro b p ⟨rfl,a⟩;generalize l:lm _=k;replace c:=c.step a;clear a));all_goals(go_ret;exact⟨by simp_all [yX]<;>(intros;omega),i.step c⟩)
def AZ(e:ε)(b:ι Addr)(a d:E)(f:L Ev):Prop:=
 (f=[]\/b=S (H a d))/\∀c b,f[c]? =S b->e.cell? (H a (d+c*4))=S (I b.k)/\e.cell? (H a (d+c*4+1))=S (I b.s)/\e.cell? (H a (d+c*4+2))=S (I b.y)/\e.cell? (H a (d+c*4+3))=S (I b.v)
theorem AZ.j{c w':ε}(b:AZ c A m q e1)(a:Fr j c w'):AZ w' A m q e1:=
 ⟨b.1,λe c d=>by
  obtain⟨b,c,d,e⟩:=b.2 e c d;exact⟨a.aF b id,a.aF c id,a.aF d id,a.aF e id⟩⟩
theorem AZ.addr{a c k:E}{d:Ev}(e:AZ W A a c e1)(b:e1[k]? =S d):A=S (H a c):=
 e.1.resolve_left (λx=>by rw[x] at b;simp at b)
def RE(g:ε)(f:ζ)(b:L Ev):Prop:=
 ∃c d e a,f=.slice c b.length a/\b.length<=a/\a<=maxLen/\AZ g c d e b
theorem RE.fr{w a:ε}(b:RE w x e1)(d:Fr j w a):RE a x e1:=by
 obtain⟨a,b,i,c,e,f,g,h⟩:=b;exact⟨a,b,i,c,e,f,g,h.j d⟩
theorem RE.nil(a):RE a aV []:=⟨η,0,0,0,Y,eG,by simp[maxLen],.inl Y,sI⟩
theorem RE.slice(c:RE W x e1):∃a b,x=.slice a e1.length b/\e1.length<=maxLen:=by
 obtain⟨a,b,g,d,rfl,e,f,_⟩:=c;exact⟨_,_,Y,O⟩
def ec(a:L Ev):L ζ:=a.flatMap Ev.cells
theorem Jk(b):∀a∈ec b,a.oneCell'=γ:=by
 intro b a;simp only[ec,ke,Ev.cells,rB] at a;obtain⟨c,_,rfl|rfl|rfl|rfl⟩:=a<;>rfl
theorem Gm(a b):ec (a++b)=ec a++ec b:=by simp[ec]
theorem Ci(d:α->L ζ)(e:∀a,(d a).length=4)(f:L α)(c a)(g:α)(b:f[c]? =S g)(h:a<4):(f.flatMap d)[c*4+a]? =(d g)[a]? :=by
 induction f generalizing c with
 |nil=>simp at b
 |cons f d i=>
  rw[kX];cases c with
  |zero=>
   simp at b;subst b;rw[E.zero_mul,de,jf (by rw[e];exact h)]
  |succ c=>
   rw[iV (by rw[e];omega),e];rw[show(c+1)*4+a-4=c*4+a from by omega];exact i c (sU b)
theorem RE.qc(f:q=e1.length)(g:W.ownsRow m t 4 x q (ec e1)):RE W x e1:=by
 subst f;rcases g.2 with⟨rfl,c⟩|⟨d,a,i,rfl,k,l,h,e,n,o⟩
 .have:e1=[]:=fH c
  subst this;exact RE.nil W
 refine⟨_,d,0,a,Y,h,e,.inr Y,λe f i=> ?_⟩;have b:∀a c,a<4->f.cells[a]? =S c->W.cell? (H d (0+e*4+a))=S c:=λa c h k=>by
  have a:=g.cells (g:=d) Y (e*4+a) c (by rw[ec,Ci Ev.cells (λ_=>Y) e1 e a f i h];exact k);rw[eV] at a;rw[nT];exact a
 exact⟨by have:=b 0 _ O Y;simpa using this,b 1 _ O Y,b 2 _ O Y,b 3 _ O Y⟩
theorem JP:dK prog 116 165 4 32:=dK.of underlying116 (z:=.agg #[aI,aI,aI,aI]) kR Y J
theorem abb:prog.stoodInHeld 165=δ:=kR
theorem acu(a b:Ev):(a.k==b.k&&(a.s==b.s&&(a.y==b.y&&a.v==b.v)))=decide (a=b):=by
 obtain⟨a,c,d,e⟩:=a;obtain⟨a,b,c,d⟩:=b;rw[dS];simp
theorem xJ(a)(b:Tx×κ):∀(d:St)(c:E),ii a (d++[b]) c=if b.1.s=a then S (c+d.length,b.2) else ii a d c
 |[],c=>by by_cases c:b.1.s=a<;>simp[ii,c]
 |y::e,d=>by
  rw[im,ii,xJ a b e (d+1)];by_cases c:b.1.s=a
  .simp[c];omega
  simp[c,ii]
theorem yp:∀{d:St}{a b:E}{c:κ},ii i1 d a=S (b,c)->a<=b/\∃e,d[b-a]? =S (e,c)/\e.s=i1
 |x::f,c,d,g,a=>by
  rw[ii] at a;cases b:ii i1 f (c+1) with
  |some e=>
   rw[b] at a;simp at a;subst a;obtain⟨h,g,e,f⟩:=yp b;refine⟨O,g,?_,f⟩;rw[show d-c=(d-(c+1))+1 from by omega];simpa using e
  |none=>
   rw[b] at a;simp at a;obtain⟨e,rfl,rfl⟩:=a;exact⟨eG,x.1,sI,e⟩
theorem zX{c s':T}{g:Tx}(l:g.s=c)(f):∀{st:St}{i k:E}{b:κ},ii c st i=S (i+k,b)->ii s' (st.set k (g,f)) i=if s'=c then S (i+k,f) else ii s' st i
 |m::h,i,k,b,a=>by
  rw[ii] at a;cases k with
  |zero=>
   cases e:ii c h (i+1) with
   |some d=>
    rw[e] at a;simp at a;subst a
    have:=(yp e).1;omega
   |none=>
    rw[e] at a;simp at a;rw[L.set_cons_zero,ii,ii];by_cases d:s'=c
    .subst d
     simp[e,l]
    have e:¬g.s=s':=λe=>d O;have g:¬m.1.s=s':=λg=>d O;simp[d,e,g]
  |succ k=>
   cases d:ii c h (i+1) with
   |some g=>
    rw[d] at a;simp at a;subst a;rw[sM,ii,(zX (s':=s') l f (i:=i+1) (k:=k) (b:=b) (st:=h) (by rw[d];simp;omega)),ii];by_cases e:s'=c
    .subst e
     simp;omega
    simp[e]
   |none=>
    rw[d] at a;simp at a
theorem Zu{c:St}(a:lk c i1=S m):∃b,c[m]? =S (b,γ)/\b.s=i1/\ii i1 c 0=S (0+m,γ):=by
 unfold lk at a;split at a
 .rename_i g d
  simp at a;subst a;obtain⟨_,b,e,f⟩:=yp d;exact⟨b,sU e,f,by rw[d];simp⟩
 cases a
theorem Zb(b c a):lk (b++[(c,γ)]) a=if c.s=a then S b.length else lk b a:=by
 unfold lk;rw[xJ];by_cases b:c.s=a<;>simp[b]
theorem ON{c:St}{d:Tx}(a)(f:lk c i1=S m)(g:d.s=i1)(b):lk (c.set m (d,a)) b=if b=i1 then(if a then S m else η) else lk c b:=by
 obtain⟨_,_,_,c⟩:=Zu f;unfold lk;rw[zX g a c];by_cases e:b=i1
 .cases a<;>simp[e]
 simp[e]
theorem CO(a b c):(Je a b c).length=a.length:=by
 unfold Je;split
 .rfl
 split<;>simp
theorem Lx(a b c):(lA a b c).length<=a.length+1:=by
 unfold lA;split
 .simp
 split
 .omega
 rw[CO];omega
theorem Ns{b:St}{c:Ev}(a:mh b c=0)(d:c.k=0)(f:b.length<=32):b.length<32/\lk b c.s=η:=by
 unfold mh at a;rw[aS d] at a;split at a
 .cases a
 split at a
 .cases a
 rename_i e;split at a
 .cases a
 exact⟨O,sU e⟩
theorem Iw{st:St}{e:Ev}(c)(d:mh st e=0)(a:st.length<=32):(lA st e c).length<=32:=by
 by_cases b:e.k=0
 .have:=(Ns d b a).1
  have:=Lx st e c;omega
 unfold lA;rw[aR b];split
 .exact a
 rw[CO];exact a
def Tx.cells(a:Tx×ζ):L ζ:=[I a.1.s,.bool a.1.d,I a.1.f,a.2]
def tc(a:L (Tx×ζ)):L ζ:=a.flatMap Tx.cells
theorem aah(a b):tc (a++b)=tc a++tc b:=by simp[tc]
structure TO(w:ε)(B:E)(te:TypeId)(v:ζ)(L:List (Tx×ζ)):Prop where
 row:w.ownsRow B te 4 v L.length (tc L)
 ops:∀(j:E)(x:Tx×ζ),L[j]? =S x->w.ownsRow B 165 4 x.2 x.1.o.length (ec x.1.o)
 apart:∀(i j:E)(x y:Tx×ζ)(g:E),i≠j->L[i]? =S x->L[j]? =S y->x.2.ownBlock=S g->¬y.2.ownBlock=S g
theorem oT(d:W.ownsRow m t q x n1 Y1)(a:x.ownBlock=S n2):m<=n2/\∃b,W.heap[n2]? =S (.cells b t (0,0)):=by
 rcases d.2 with⟨rfl,h⟩|⟨b,f,g,rfl,e,c,k,i,l,n⟩
 .cases a
 obtain rfl:b=n2:=by simpa[ζ.ownBlock] using a
 exact⟨e,_,c⟩
theorem OQ(a:W.ownsRow m t q x n1 Y1)(b:x.ownBlock=S n2):n2<W.heap.size:=by
 obtain⟨_,b,a⟩:=oT a b;exact ba a
theorem jA{b a:TypeId}{c d:L ζ}(e:W.ownsRow m b n1 x n3 c)(c:W.ownsRow q a n2 v1 n4 d)(d:b≠a)(b:x.ownBlock=S n5):¬v1.ownBlock=S n5:=λa=>by
 obtain⟨_,e,b⟩:=oT e b;obtain⟨_,c,a⟩:=oT c a;rw[b] at a;simp only[fZ,Obj.cells.injEq] at a;exact d a.2.1
theorem TO.fr{w c:ε}{a:L (Tx×ζ)}{S:E->Prop}(b:TO w m t x a)(d:Fr S w c)(g:∀e,x.ownBlock=some e->¬S e)(h:∀(i:E)(f:Tx×ζ)(e:E),a[i]? =some f->f.2.ownBlock=some e->¬S e):TO c m t x a:=
 ⟨d.owns b.row g,λc e a=>d.owns (b.ops c e a) (λf d=>h c e f a d),b.apart⟩
theorem TO.keep{b w':ε}{a:L (Tx×ζ)}(d:TO b m t x a)(c:Fr j b w'):TO w' m t x a:=d.fr c (λ_ _ a=>a) (λ_ _ _ _ _ a=>a)
theorem bq{row:ι E}(a:W.grownBy V row):Fr (λb=>row=S b) W V:=
 ⟨a.os,a.tape,a.output,a.size,λd b c=>a.block d b (λa=>c a.symm)⟩
theorem TO.nil(c a b):TO c a b aV []:=⟨iL _ _ _ _,sI,sI⟩
theorem TO.push{c:L (Tx×ζ)}{h:Tx}(d:TO W m t x c)(w:t≠165)(v:h.o=[])(r:V.ownsRow m t 4 v1 (c.length+1) (tc c++Tx.cells (h,aV)))(i:W.grownBy V x.ownBlock):
  TO V m t v1 (c++[(h,aV)]):=by
 refine⟨by rw[aah,cA];simpa[tc] using r,λb e a=> ?_,λn b e p g s a y k l=> ?_⟩
 .rcases dP b c.length with f|f
  .rw[jf f] at a
   exact(bq i).owns (d.ops b e a) (λz u r=>jA d.row (d.ops b e a) w r u)
  rw[iV f] at a;have:b-c.length=0:=by
   rcases jc (b-c.length) with d|d
   .exact d
   rw[jw sO] at a;cases a
  rw[this] at a;simp at a;subst a;simp only[v];exact iL _ _ _ _
 have o:∀(b:E)(e:Tx×ζ)(g:E),(c++[(h,ζ.slice η 0 0)])[b]? =S e->e.2.ownBlock=S g->c[b]? =S e:=λb e g a i=>by
  rcases dP b c.length with f|f
  .rwa[jf f] at a
  rw[iV f] at a;have:b-c.length=0:=by
   rcases jc (b-c.length) with d|d
   .exact d
   rw[jw sO] at a;cases a
  rw[this] at a;simp at a;subst a;cases i
 exact d.apart n b e p g s (o n e g a k) (o b p g y l) k l
theorem TO.at{c:L (Tx×ζ)}(f:TO W m t x c){e:Tx×ζ}(h:c[q]? =S e):
  ∃b g,x=.slice (S (H b 0)) c.length g/\(∀a d,a<4->(Tx.cells e)[a]? =S d->W.cell? (H b (q*4+a))=S d)/\(∀a,W.frozen? (H b a)=δ)/\m<=b/\∃g,W.heap[b]? =S (.cells g t (0,0)):=by
 have p:=(cj.1 h).1;rcases f.row.2 with⟨rfl,n⟩|⟨b,i,l,rfl,k,g,r,o,s,u⟩
 .omega
 refine⟨b,i,Y,λa d i l=> ?_,λa=>aG g a,k,_,g⟩;have a:=f.row.cells (g:=b) Y (q*4+a) d (by rw[tc,Ci Tx.cells (λ_=>Y) c q a e h i];exact l);rwa[eV,de] at a
theorem Kf(e):∀(b:L (Tx×ζ))(a:E)(d:Tx)(c:ζ),b[a]? =S (d,c)->tc (b.set a ({d with d:=e},c))=(tc b).set (a*4+1) (.bool e)
 |x::b,0,d,c,h=>by simp at h;subst h;rfl
 |x::b,a+1,d,c,h=>by
  have f:=Kf e b a d c (sU h);rw[show(a+1)*4+1=(a*4+1)+4 from by omega];simp[tc,Tx.cells] at f |-;exact f
theorem JX(g e):∀(b:L (Tx×ζ))(a:E)(c:Tx)(d:ζ),b[a]? =S (c,d)->tc (b.set a ({c with o:=g},e))=(tc b).set (a*4+3) e
 |x::b,0,c,d,h=>by simp at h;subst h;rfl
 |x::b,a+1,c,d,h=>by
  have f:=JX g e b a c d (sU h);rw[show(a+1)*4+3=(a*4+3)+4 from by omega];simp[tc,Tx.cells] at f |-;exact f
theorem qi(a:(X.set m x1)[q]? =S x2):(q=m/\x2=x1)\/(q≠m/\X[q]? =S x2):=by
 by_cases b:m=q
 .subst b
  rw[L.getElem?_set_self'] at a;cases c:X[m]? with
  |none=>rw[c] at a;cases a
  |some d=>rw[c] at a;simp at a;exact .inl ⟨Y,a.symm⟩
 rw[lQ b] at a;exact .inr ⟨λx2=>b x2.symm,a⟩
theorem TO.BN{d:L (Tx×ζ)}(f:TO W m t (.slice (S (H n1 0)) d.length n2) d)(z:t≠165){g:Tx}(h:d[n3]? =S (g,x))(e):
  TO (W.setCell (H n1 (n3*4+1)) (.bool e)) m t (.slice (S (H n1 0)) d.length n2) (d.set n3 ({g with d:=e},x)):=by
 obtain⟨s,u⟩:=f.row.stored (n3*4+1) (.bool e);have l:∀(b:E)(a:Tx×ζ),d[b]? =S a->(W.setCell (H n1 (n3*4+1)) (.bool e)).ownsRow m 165 4 a.2 a.1.o.length (ec a.1.o):=λb a c=>
  (bq u).owns (f.ops b a c) (λq y o=>jA f.row (f.ops b a c) z (show _=S q from o) y)
 refine⟨by rw[Kf e d n3 g x h,dN];exact s,λb a c=> ?_,λk b a D q w v c=> ?_⟩
 .rcases qi c with⟨rfl,rfl⟩|⟨_,c⟩
  .exact l _ (g,x) h
  exact l b a c
 have i:∀(b:E)(a:Tx×ζ),(d.set n3 ({g with d:=e},x))[b]? =S a->∃n,d[b]? =S n/\n.2=a.2:=λb a c=>by
  rcases qi c with⟨rfl,rfl⟩|⟨_,c⟩
  .exact⟨_,h,Y⟩
  exact⟨_,c,Y⟩
 obtain⟨C,A,p⟩:=i k a v;obtain⟨F,B,r⟩:=i b D c;rw[<-p,<-r];exact f.apart k b C F q w A B
theorem TO.ZK{g:L (Tx×ζ)}(e:TO W m t (.slice (S (H n1 0)) g.length n2) g)(v:t≠165){k:Tx}{d:Ev}(l:g[n3]? =S (k,x))
  (A:V.ownsRow m 165 4 v1 (k.o.length+1) (ec (k.o++[d])))(F:W.grownBy V x.ownBlock)(f:v1.ownBlock=x.ownBlock\/∀q,v1.ownBlock=S q->W.heap.size<=q):
  TO (V.setCell (H n1 (n3*4+3)) v1) m t (.slice (S (H n1 0)) g.length n2) (g.set n3 ({k with o:=k.o++[d]},v1)):=by
 have y:=bq F;have u:=y.owns e.row (λq h d=>jA e.row (e.ops n3 _ l) v h d);obtain⟨C,D⟩:=u.stored (n3*4+3) v1;have z:=bq D;have B:∀(c:E)(a:Tx×ζ),c≠n3->g[c]? =S a->V.ownsRow m 165 4 a.2 a.1.o.length (ec a.1.o):=λc a i b=>
  y.owns (e.ops c a b) (λq h d=>e.apart n3 c _ a q (λa=>i a.symm) l b d h)
 refine⟨by rw[JX _ v1 g n3 k x l,dN];exact C,λc a b=> ?_,λr c a w q p G b n o=> ?_⟩
 .rcases qi b with⟨rfl,rfl⟩|⟨i,b⟩
  .simp only[cA,eK]
   exact z.owns A (λq h d=>jA u A v (show _=S q from d) h)
  exact z.owns (B c a i b) (λq h d=>jA u (B c a i b) v (show _=S q from d) h)
 rcases qi G with⟨rfl,rfl⟩|⟨K,s⟩
 .rcases qi b with⟨rfl,rfl⟩|⟨i,b⟩
  .exact p Y
  rcases f with f|f
  .exact e.apart r c _ w q p l b (by rw[<-f];exact n) o
  have:=f q n
  have:=OQ (e.ops c w b) o;omega
 rcases qi b with⟨rfl,rfl⟩|⟨i,b⟩
 .rcases f with f|f
  .exact e.apart r c a _ q p s l n (by rw[<-f];exact o)
  have:=f q o
  have:=OQ (e.ops r a s) n;omega
 exact e.apart r c a w q p s b n o
def Zs(e:ε)(b:ι Addr)(a c:E)(f:L Tx):Prop:=
 (f=[]\/b=S (H a c))/\∀b d,f[b]? =S d->∃f,e.cell? (H a (c+b*4))=S (I d.s)/\e.cell? (H a (c+b*4+1))=S (.bool d.d)/\e.cell? (H a (c+b*4+2))=S (I d.f)/\e.cell? (H a (c+b*4+3))=S f/\RE e f d.o
theorem Zs.j{d w':ε}{c:L Tx}(b:Zs d A m q c)(a:Fr j d w'):Zs w' A m q c:=
 ⟨b.1,λe c d=>by
  obtain⟨g,b,c,d,e,f⟩:=b.2 e c d;exact⟨g,a.aF b id,a.aF c id,a.aF d id,a.aF e id,f.fr a⟩⟩
theorem Zs.addr{a c k:E}{d:L Tx}{f:Tx}(e:Zs W A a c d)(b:d[k]? =S f):A=S (H a c):=
 e.1.resolve_left (λx=>by rw[x] at b;simp at b)
def RT(g:ε)(f:ζ)(b:L Tx):Prop:=
 ∃c d e a,f=.slice c b.length a/\b.length<=a/\a<=maxLen/\Zs g c d e b
theorem RT.fr{w a:ε}{b:L Tx}(c:RT w x b)(d:Fr j w a):RT a x b:=by
 obtain⟨a,b,i,c,e,f,g,h⟩:=c;exact⟨a,b,i,c,e,f,g,h.j d⟩
theorem RT.nil(a):RT a aV []:=⟨η,0,0,0,Y,eG,by simp[maxLen],.inl Y,sI⟩
theorem TO.read{L:List (Tx×ζ)}(g:TO W m t x L):RT W x (L.map Prod.fst):=by
 rcases g.row.2 with⟨rfl,i⟩|⟨f,d,n,rfl,o,p,l,k,r,s⟩
 .have:L=[]:=fH i
  subst this;exact RT.nil W
 refine⟨_,f,0,d,sI,sU l,k,.inr Y,λb c a=> ?_⟩;rw[fN,vA] at a;obtain⟨e,h,rfl⟩:=a;have c:∀a d,a<4->(Tx.cells e)[a]? =S d->W.cell? (H f (0+b*4+a))=S d:=λa d i k=>by
  have a:=g.row.cells (g:=f) Y (b*4+a) d (by rw[tc,Ci Tx.cells (λ_=>Y) L b a e h i];exact k);rw[eV] at a;rw[nT];exact a
 exact⟨e.2,by have:=c 0 _ O Y;simpa using this,c 1 _ O Y,c 2 _ O Y,c 3 _ O Y,RE.qc Y (g.ops b e h)⟩
section
open Go.RowKit Go.Maps
theorem Zn:Keyed prog 3:=int_keyed underlying3
theorem ade(a):(zeroValue 3).run prog a=.ok aI a:=kR
theorem acX:dK prog 126 130 4 48:=dK.of underlying126 (z:=.agg #[aI,.bool δ,aI,aV]) kR Y J
def MD(b:DataW Unit)(d:St):Prop:=
 ∀a:T,(∀c,lk d a=S c->Maps.has b (.int .i64 a)=γ/\b.atKey (.int .i64 a) (.lit (.int .i64 0))=.lit (.int .i64 (c:E)))/\(lk d a=η->Maps.has b (.int .i64 a)=δ)
def MI(d:ε)(c:E)(b:St):Prop:=
 ∃a:DataW Unit,d.ownsMap prog 3 (plainElem prog 3) c b.length a/\MD a b
theorem MI.fr{w a:ε}{b:St}{S:E->Prop}(c:MI w m b)(d:Fr S w a)(f:¬S m):MI a m b:=by
 obtain⟨a,⟨c,b,g,h⟩,e⟩:=c;exact⟨a,⟨c,b,d.aB g f,h⟩,e⟩
theorem MI.keep{b w':ε}{a:St}(d:MI b m a)(c:Fr j b w'):MI w' m a:=d.fr c id
theorem MI.obj{a:St}(c:MI W m a):∃b a,W.heap[m]? =S (.map b a):=by
 obtain⟨b,⟨d,c,a,f⟩,e⟩:=c;exact⟨_,_,a⟩
def GO(a:L Ev)(e:ε)(d:Ending)(b:ε):Prop:=
 ∃c,d=.returned (.tuple #[c,I (iD a 0 []).2.1,I (iD a 0 []).2.2])/\RT b c ((iD a 0 []).1.map Prod.fst)/\Fr j e b
theorem Ac{a:Ev}(c:e1[m]? =S a)(b):iD (e1.drop m) m b=if mh b a=0 then iD (e1.drop (m+1)) (m+1) (lA b a m) else([],m,mh b a):=by
 obtain⟨a,b⟩:=cj.1 c;rw[nR a,b];rfl
theorem GO.err{b:Ev}{c:St}(e:e1[m]? =S b)(a:iD (e1.drop m) m c=iD e1 0 [])(d:mh c b=i1)(c:i1≠0)(b:Fr j W V):
  GO e1 W (.returned (.tuple #[aV,I m,I i1])) V:=by
 rw[Ac e,d,aR c] at a;refine⟨_,by rw[<-a],by rw[<-a];exact RT.nil _,b⟩
theorem GO.ok{b:St}{c:L (Tx×ζ)}(f:m=e1.length)(a:iD (e1.drop m) m b=iD e1 0 [])(e:c.map Prod.fst=b.map Prod.fst)(g:TO V q t x c)(d:Fr j W V):
  GO e1 W (.returned (.tuple #[x,aI,aI])) V:=by
 rw[f,L.drop_length] at a;refine⟨x,by rw[<-a];rfl,by rw[<-a];show RT V x (b.map Prod.fst);rw[<-e];exact g.read,d⟩
theorem pB{a:Ev}{b:St}(e:e1[m]? =S a)(c:iD (e1.drop m) m b=iD e1 0 [])(d:mh b a=0):iD (e1.drop (m+1)) (m+1) (lA b a m)=iD e1 0 []:=by
 rw[Ac e,d,aS Y] at c;exact c
theorem aci{st:St}{a:Ev}(b:yX a=δ):mh st a=1:=by simp[mh,b]
theorem acA{b:St}{a:Ev}(c:yX a=γ)(e:a.k=0)(d:lk b a.s=S m):mh b a=5:=by simp[mh,c,e,d]
theorem acQ{b:St}{a:Ev}(c:yX a=γ)(e:a.k=0)(d:lk b a.s=η)(f:b.length=32):mh b a=4:=by simp[mh,c,e,d,f]
theorem acR{b:St}{a:Ev}(c:yX a=γ)(e:a.k=0)(d:lk b a.s=η)(f:¬b.length=32):mh b a=0:=by simp[mh,c,e,d,f]
theorem adb{b:St}{a:Ev}(c:yX a=γ)(e:¬a.k=0)(d:lk b a.s=η):mh b a=6:=by simp[mh,c,e,d]
theorem acy{b:St}{a:Ev}(c:yX a=γ)(e:¬a.k=0)(d:lk b a.s=S m):mh b a=0:=by simp[mh,c,e,d]
theorem Xd{a:Ev}(b:yX a=γ):0<=a.k/\a.k<=4/\0<=a.s/\a.s<=7:=by
 simp[yX] at b;omega
theorem AJ(b:i1≠i2):(Lit.int .i64 i1)≠.int .i64 i2:=λa=>b (by cases a;rfl)
theorem MD.put{c:DataW Unit}{d:St}(g:MD c d)(e:IsMap c)(a):MD (c.put (.int .i64 a.s) (.lit (.int .i64 (d.length:E)))) (d++[(a,γ)]):=λf=>by
 rw[Zb];by_cases b:a.s=f
 .subst b
  rw[aS Y];refine⟨λk h=> ?_,λi=>by cases i⟩;obtain rfl:=cI h;exact⟨has_put_same e (show WideAt.IsKeyLit (.int .i64 a.s) from trivial) _,atKey_put_same e (show WideAt.IsKeyLit (.int .i64 a.s) from trivial) _ _⟩
 rw[aR b,has_put_other (AJ λx=>b x.symm),atKey_put_other (AJ λx=>b x.symm)];exact g f
theorem MD.del{d:DataW Unit}{b:St}(f:MD d b){c:Tx}{s0:T}(g:lk b s0=S m)(h:c.s=s0):MD (d.del (.int .i64 s0)) (b.set m (c,δ)):=λe=>by
 rw[ON δ g h];by_cases a:e=s0
 .subst a
  rw[aS Y];exact⟨λc b=>by simp at b,λ_=>has_del_same⟩
 rw[aR a,has_del_other (AJ a),atKey_del_other (AJ a)];exact f e
theorem MD.set{d:DataW Unit}{b:St}(f:MD d b){c:Tx}{s0:T}(g:lk b s0=S m)(h:c.s=s0):MD d (b.set m (c,γ)):=λa=>by
 rw[ON γ g h];by_cases e:a=s0
 .subst e
  rw[aS Y]
  have:=f a;rw[g] at this;exact this
 rw[aR e];exact f a
theorem Ap{b:θ MapEntry}(d:W.heap[m]? =S (.map b n3))(b:W.ownsRow q t n1 x n2 Y1):¬x.ownBlock=S m:=λc=>by
 obtain⟨_,b,a⟩:=oT b c;rw[d] at a;cases a
theorem TO.AS{b:L (Tx×ζ)}(a:TO W m t x b){c:St}(d:MI W q c)(c:W.grownBy V (S q)):TO V m t x b:=by
 obtain⟨e,d,b⟩:=d.obj;exact a.fr (bq c) (λe d c=>Ap b a.row (by rw[d];exact c.symm)) (λf g h e d c=>Ap b (a.ops f g e) (by rw[d];exact c.symm))
theorem MI.grown{b:St}(a:MI W m b)(c:W.ownsRow q t n1 x n2 Y1)(d:W.grownBy V x.ownBlock):MI V m b:=by
 obtain⟨f,e,b⟩:=a.obj;exact a.fr (bq d) (Ap b c)
theorem Fr.mW(a:Fr j W V)(b:W.heap.size<=m)(b:V.ownsRow m t q x n1 Y1)(c:V.grownBy U x.ownBlock):Fr j W U:=
 a.grown c (λd a c=>by have:=(oT b a).1;omega)
theorem Yn{a:L (Tx×ζ)}{c:St}(f:a.map Prod.fst=c.map Prod.fst){d:Tx}{e:κ}(h:c[m]? =S (d,e)):∃b,a[m]? =S (d,b):=by
 have a:=cH (λ(a:L Tx)=>a[m]?) f;simp only[fN,h,rM] at a;obtain⟨⟨a,i⟩,g,b⟩:=vA.1 a;simp at b;subst b;exact⟨i,g⟩
theorem Qy{c:St}{a:Ev}(b)(d:a.k=0):lA c a b=c++[(⟨a.s,δ,b,[]⟩,γ)]:=by simp[lA,d]
theorem abY{b:St}{a:Ev}(g)(d:¬a.k=0){c:Tx}(e:lk b a.s=S m)(f:b[m]? =S (c,γ)):lA b a g=if lm a.k then b.set m ({c with o:=c.o++[a]},γ) else b.set m ({c with d:=a.k==3},δ):=by
 simp only[lA,aR d,e,Je,f]
theorem NF(c6 F z)(t:RE z c6 F)(g9:F.length<=10000):Calls prog 41 #[c6] z (GO F z):=by
 obtain⟨g4,g6,h0,g7,rfl,-,-,R⟩:=t;obtain⟨G,c6⟩:=M F.length;rw[<-c6];have HN:=Z c6;have g4:G<=10000:=O;clear c6;have c6:=@run_makeMap prog;go_enter func41,ntmps41;go_wp2_with fail;obtain⟨f,b3⟩:=M z.heap.size;obtain⟨d4,b4⟩:=M (z.alloc (.map #[] 0));rw[<-b4,<-b3];have f3:(MI d4 f []):=⟨.map [],by rw[b4,b3];exact ε.ownsMap_made _ _ _ _,λc6=>⟨λc e4=>by simp[lk,ii] at e4,λ_=>Y⟩⟩;have f0:(Fr j z d4):=(by rw[b4];exact(Fr.refl j z).alloc _);have HM:=Z b3;clear b4 b3;go_loopg [5,14] G (λgk s5 b7 wr=>∃(c:E)(h:St)(g:L (Tx×ζ)),c+gk=G/\b7=.int .i64 c/\g.map Prod.fst=h.map Prod.fst/\TO wr f 130 s5 g/\MI wr f h/\iD (F.drop c) c h=iD F 0 []/\h.length<=32/\(∀d∈g,d.1.o.length<=c)/\Fr j z wr)
 .exact⟨0,[],[],du,Y,Y,TO.nil _ _ _,f3,Y,sI,sI,f0⟩
 case round=>
  obtain⟨c,h,g,e4,rfl,B,e8,e5,u,b2,g0,c5⟩:=hrel;have⟨A,x⟩:=bD e8 g0;have z:c<=G:=O;obtain⟨d5,a3,rfl,-,-⟩:=bB e8.row;by_cases z:c<G
  .obtain⟨a,p⟩:=gE F c fU
   obtain rfl:=R.addr p;obtain⟨z,F,b3,b4⟩:=(R.j c5).2 c a p;have⟨z,F⟩:=dy c G;go_wp2_with (go_at_call 69;refine stop ?_);(refine sg (AO a _) ?_;rintro a i ⟨rfl,z⟩;obtain⟨a9,b3⟩:=M wr.heap.size;obtain⟨F,b4⟩:=M (wr.alloc (.cells #[.int .i64 a.k,.int .i64 a.s,.int .i64 a.y,.int .i64 a.v] 165));have d4:Fr j wr F:=by rw[b4];exact(Fr.refl j wr).alloc _);have c6:i.heap[a9]? =S (.cells #[.int .i64 a.k,.int .i64 a.s,.int .i64 a.y,.int .i64 a.v] 165 (0,0)):=by
    refine z.aB ?_ (λd=>d);exact bM b3
   (rw[<-b4] at z;rw[<-b3];have F:=d4.step z;have⟨w,c0,b0,OB⟩:=gB (c5.step F) (A.1.keep F) (e5.keep F) c6;obtain⟨a2,z,F,d4,-⟩:=gZ c6;have z:f<a9:=by obtain⟨f7,Q,t⟩:=e5.obj;have:=ba t;omega);clear b4 b3;cases D:yX a
   .go_wp2
    (go_ret3);exact GO.err p u (aci (st:=h) D) J w.1
   (obtain⟨K,C,U⟩:=b0.1;have d2:=(U a.s);obtain⟨o,z⟩:=M g.length;have v:h.length=o:=by have:=cH L.length B;simp at this;omega);have F:o<=32:=O;have P:=Z z;rw[<-z] at c0;rw[v] at C;rw[<-z];obtain⟨b4,c6,F,b3⟩:=Xd D;have a6:keyOf prog 3 (.int .i64 a.s)=S (.int .i64 a.s):=keyOf_int_mk underlying3 (kD O);clear z;go_wp2_with (at_lookup;refine stop ?_);refine aZ.go (wpList_lookup_own_ok_int _ Y _ _ 184 Y 3 3 .i64 Zn underlying184 underlying3 (ade _) f _ K Y C _ _ Y a6 ?_);intro Q e0 _;cases n:lk h a.s with
   |none=>
    rw[(d2.2 n)];by_cases l:a.k=0
    .by_cases R:o=32
     .have y:=(acQ D l n (v.trans R))
      rw[l] at a2;subst R;go_wp2;(go_ret3);exact GO.err p u y J w.1
     have y:=(acR D l n (λd=>R (v.symm.trans d)));have z:((o:T)==32)=δ:=sO;rw[l] at a2;go_wp2_with (at_mapUpdate;refine stop ?_);refine aZ.go (wpList_mapUpdate_own _ Y _ _ _ 184 Y 3 3 Zn underlying184 _ f o K Y C (by unfold maxLen;omega) _ _ _ Y Y a6 _ [] (plainElem_int underlying3 (kD O)) ?_);intro a8 F z;have d8:=bq z;have c1:=Z (c0.1.AS b0.1 z);have a0:(MI a8 f (h++[(⟨a.s,δ,c,[]⟩,γ)])):=⟨_,by rw[cA,v];exact F,by have:=U.put C.isMap ⟨a.s,δ,c,[]⟩;rw[v] at this;exact this⟩;have e6:=d8.aB OB.1 (λd=>by cases d;omega);have z:=dh e6;have z:f<a8.heap.size:=oB (ba e6);go_wp2_with (at_builtin;refine stop ?_);refine aZ.go (eD Y (.tmp 69) (.tmp 74) Y acX Y (base:=f) (n:=o) (xs:=tc g) ?p1 (m:=1) (news:=Tx.cells (⟨a.s,δ,c,[]⟩,.slice η 0 0)) Y Y ?p3 ?p4 ?p5 ?p6 ?p7)
     case p1=>have:=c1.1.row;rw[<-P.1] at this;exact this.alloc _
     case p3=>exact eF.block (cs:=#[.int .i64 a.s,.bool δ,.int .i64 c,.slice η 0 0]) (bM Y) oC
     case p4=>omega
     case p5=>simp only[maxLen];omega
     case p6=>simp;omega
     case p7=>
      intro g3 r V m _;have W:(a8.alloc (.cells #[.int .i64 a.s,.bool δ,.int .i64 c,.slice η 0 0] 130)).ownsRow f 130 4 (.slice d5 o a3) g.length (tc g):=c1.1.row.alloc _;obtain⟨g5,g8,rfl,-,-⟩:=bB V;go_wp2;go_roundg (gk-1)
      .refine⟨c+1,h++[(⟨a.s,δ,c,[]⟩,γ)],g++[(⟨a.s,δ,c,[]⟩,.slice η 0 0)],O,by go_num,by simp[B],(TO.push (c1.1.keep ((Fr.refl j a8).alloc _)) J Y (by rw[<-P.1];exact V) m),((a0.keep ((Fr.refl j a8).alloc _)).grown W m),?_,?_,?_,(((w.1.keep d8 (λb7 a5=>by have:=HM.1;cases a5;omega)).alloc _).mW VG W m)⟩
       .have:=pB p u y
        rw[Qy _ l] at this;exact this
       .have:=Iw (st:=h) (e:=a) (c:T) y b2
        rw[Qy _ l] at this;exact this
       intro d k;rcases cB.1 k with k|k
       .exact kY (x.1 d k)
       simp at k;subst k;exact nG
      omega
    have e9:(a.k==0)=δ:=sU l;go_wp2;(go_ret3);exact GO.err p u (adb D l n) J w.1
   |some b=>
    (obtain⟨z,f8⟩:=d2.1 b n;rw[z];obtain rfl:Q=(b:T):=by rw[f8] at e0;cases e0;rfl);by_cases l:a.k=0
    .rw[l] at a2
     go_wp2;(go_ret3);exact GO.err p u (acA D l n) J w.1
    (have y:=(acy D l n);obtain⟨tx,c9,d1,-⟩:=Zu n;obtain⟨X,d9⟩:=Yn B c9;have z:b<o:=oB ((cj.1 c9).1);have b9:=c0.1;rw[P.1] at b9;obtain⟨e,f5,e7,e1,f9,c2,e3⟩:=b9.at d9;obtain⟨rfl,rfl⟩:d5=S ⟨e,0,η⟩/\a3=f5:=by simp at e7;exact e7);(have g1:i.cell? ⟨e,b*4+1,η⟩=S (.bool tx.d):=e1 1 _ O Y;have p3:i.cell? ⟨e,b*4+3,η⟩=S X:=e1 3 _ O Y;have g2:i.frozen? ⟨e,b*4+1,η⟩=δ:=f9 _;have c3:f≠e:=λd=>by obtain⟨f7,Q,t⟩:=b0.1.obj;obtain⟨f6,c4⟩:=e3;rw[d,c4] at t;cases t);(have z:a9≠e:=λd=>by obtain⟨f6,c4⟩:=e3;have:=OB.1;rw[d,c4] at this;simp at this);have D:e≠a9:=λd=>z d.symm;have NX:=(abY (c:T) l n c9);have⟨A,s⟩:=bD b9 d9;have⟨z,D⟩:=dy b o;have e9:(a.k==0)=δ:=sU l;by_cases b5:a.k=3
    .rw[b5] at a2
     go_wp2_with (at_delete;refine stop ?_);have a7:=C.setCell (a:=⟨e,b*4+1,η⟩) c3 (.bool γ);refine aZ.go (wpList_delete_own _ Y _ _ 184 3 Y 3 Zn underlying184 _ f o K Y a7 _ _ Y a6 ?_);intro r c7 d0;have m:=d0.grown;have b8:MI (i.setCell ⟨e,b*4+1,η⟩ (.bool γ)) f h:=⟨K,by rw[v];exact a7,U⟩;have a0:(MI r f (h.set b ({tx with d:=γ},δ))):=⟨_,by rw[dN,v];exact c7,U.del n d1⟩;go_wp2;go_roundg (gk-1)
     .refine⟨c+1,h.set b ({tx with d:=γ},δ),g.set b ({tx with d:=γ},X),O,by go_num,by rw[lU,lU,B],(by rw[P.1];exact(A.1.BN J s.1 γ).AS b8 m),a0,?_,by rw[dN];exact b2,?_,((w.1.cN ⟨e,b*4+1,η⟩ (by have:=HM.1;have:=c2;show _<=e;omega) (.bool γ)).keep (bq m) (λb7 a5=>by have:=HM.1;cases a5;omega))⟩
      .have:=pB p u y
       rw[NX,b5] at this;exact this
      intro d k;rcases lT k with k|rfl
      .exact kY (x.1 d k)
      exact kY (show tx.o.length<=c from x.1 (tx,X) (bQ s.1))
     omega
    by_cases b6:a.k=4
    .rw[b6] at a2
     go_wp2_with (at_delete;refine stop ?_);have a7:=C.setCell (a:=⟨e,b*4+1,η⟩) c3 (.bool δ);refine aZ.go (wpList_delete_own _ Y _ _ 184 3 Y 3 Zn underlying184 _ f o K Y a7 _ _ Y a6 ?_);intro r c7 d0;have m:=d0.grown;have b8:MI (i.setCell ⟨e,b*4+1,η⟩ (.bool δ)) f h:=⟨K,by rw[v];exact a7,U⟩;have a0:(MI r f (h.set b ({tx with d:=δ},δ))):=⟨_,by rw[dN,v];exact c7,U.del n d1⟩;go_wp2;go_roundg (gk-1)
     .refine⟨c+1,h.set b ({tx with d:=δ},δ),g.set b ({tx with d:=δ},X),O,by go_num,by rw[lU,lU,B],(by rw[P.1];exact(A.1.BN J s.1 δ).AS b8 m),a0,?_,by rw[dN];exact b2,?_,((w.1.cN ⟨e,b*4+1,η⟩ (by have:=HM.1;have:=c2;show _<=e;omega) (.bool δ)).keep (bq m) (λb7 a5=>by have:=HM.1;cases a5;omega))⟩
      .have:=pB p u y
       rw[NX,b6] at this;exact this
      intro d k;rcases lT k with k|rfl
      .exact kY (x.1 d k)
      exact kY (show tx.o.length<=c from x.1 (tx,X) (bQ s.1))
     omega
    have v:(a.k==3)=δ:=sU b5;have v:(a.k==4)=δ:=sU b6;have f2:N (lm a.k=γ):=Z (by
     have:a.k=1\/a.k=2:=O;rcases this with t|t<;>simp[lm,t])
    (have c8:i.ownsRow f 165 4 X tx.o.length (ec tx.o):=A.1.ops b _ s.1;obtain⟨d6,d7,rfl,-,-⟩:=bB c8;have b1:=Z (((Fr.refl j i).drew).owns c8 (λ_ _ d=>d));have t:tx.o.length<=10000:=by have:=x.1 _ (bQ s.1);simp at this;omega);(have t:(tx.o.length+1)*32<=140737488355328:=O;have v:tx.o.length+1<=maxLen:=mL;have z:f<=(i.drew.alloc (.cells #[.int .i64 a.k,.int .i64 a.s,.int .i64 a.y,.int .i64 a.v] 165)).heap.size:=by have:=ba OB.1;simp;omega);have⟨d3,f4,f1⟩:=dt (A.1.keep ((Fr.refl j i).drew)) (b0.1.keep ((Fr.refl j i).drew)) w.1.drew;have w:(i.alloc (.cells #[.int .i64 a.k,.int .i64 a.s,.int .i64 a.y,.int .i64 a.v] 165)).cell? ⟨e,b*4+3,η⟩=S (.slice d6 tx.o.length d7):=((Fr.refl j i).alloc _).aF p3 (λd=>d);clear g1 g2 c8 b5 b6 l a6 C;go_wp2_with fail;(go_region_law ((refine jl Y (.tmp 36) (.tmp 38) Y JP Y (base:=f) (n:=tx.o.length) (xs:=ec tx.o) (pO (w:=i.drew) b1.1 _) (m:=1) (news:=ec [a]) Y Y (eF.block (w:=i.drew.alloc _) (cs:=#[.int .i64 a.k,.int .i64 a.s,.int .i64 a.y,.int .i64 a.v]) (eR (w:=i.drew) Y _) (Jk [a])) t v z ?_;intro g3 r V m e2;obtain⟨a1,a4,rfl,-,-⟩:=bB V;have W:(i.drew.alloc (.cells #[.int .i64 a.k,.int .i64 a.s,.int .i64 a.y,.int .i64 a.v] 165)).ownsRow f 130 4 (.slice (S ⟨e,0,η⟩) g.length a3) g.length (tc g):=d3.1.row.alloc _;have l:r.ownsRow f 130 4 (.slice (S ⟨e,0,η⟩) g.length a3) g.length (tc g):=(bq m).owns W (λq t d=>jA W (b1.1.alloc _) J t d);have⟨z,w,t,v⟩:=gB l V m e2;have z:r.cell? ⟨e,b*4+3,η⟩=S (.slice d6 tx.o.length d7):=(by have Q:=l.cells (g:=e) Y (b*4+3) _ (by rw[tc,Ci Tx.cells (λ_=>Y) g b 3 _ s.1 O];rfl);rw[eV,de] at Q;exact Q);have z:r.frozen? ⟨e,b*4+3,η⟩=δ:=l.frozenAt _;clear W l V m e2)));all_goals
     have m:(TO (r.setCell ⟨e,b*4+3,η⟩ (.slice a1 (tx.o.length+1) a4)) f 130 (.slice (S ⟨e,0,η⟩) o a3) (g.set b ({tx with o:=tx.o++[a]},.slice a1 (tx.o.length+1) a4))):=(by
      rw[P.1];exact TO.ZK (d3.1.keep ((Fr.refl j i.drew).alloc _)) J s.1 (by rw[Gm];exact w.1) t.1 v.1)
     have l:(MI (r.setCell ⟨e,b*4+3,η⟩ (.slice a1 (tx.o.length+1) a4)) f (h.set b ({tx with o:=tx.o++[a]},γ))):=(by
      obtain⟨f,o,r⟩:=(f4.1.keep ((Fr.refl j i.drew).alloc _)).grown (b1.1.alloc _) t.1;exact⟨f,by rw[dN];exact o.setCell c3 _,r.set n d1⟩)
     go_wp2;go_roundg (gk-1)
     .refine⟨c+1,h.set b ({tx with o:=tx.o++[a]},γ),g.set b ({tx with o:=tx.o++[a]},.slice a1 (tx.o.length+1) a4),O,by go_num,by rw[lU,lU,B],m,l,?_,by rw[dN];exact b2,?_,(((f1.1.alloc _).mW VG (b1.1.alloc _) t.1).cN ⟨e,b*4+3,η⟩ (by have:=HM.1;have:=c2;show _<=e;omega) (.slice a1 (tx.o.length+1) a4))⟩
      .have:=pB p u y
       rw[NX,f2.1] at this;exact this
      intro d k;rcases lT k with k|rfl
      .exact kY (x.1 d k)
      have:tx.o.length<=c:=x.1 (tx,_) (bQ s.1);simp;omega
     omega
  have a:c=G:=O;go_wp2;go_ret3
  exact GO.ok (a.trans HN.1) u B A.1 c5
end
theorem jH{P:Program}(i:E)(b:ε)(m A B g:TypeId)(e d l s:E)(f:Addr)(o z:E)(c:θ ζ)(p:TypeId)(a:L ζ)
  (y:P.underlying m=S (.slice g))(n:(P.info? g).map (·.size)=S i)
  (u:aY b e c p)(k:E)(v:k=E.min o l)(w:a.length=k*i)
  (x:∀h r,a[h]? =S r->b.cell? (f.add h)=S r)(t:d+a.length<=c.size)(r:∀h∈a,h.oneCell'=γ):
  (Builtin.copy_ #[m,A] B #[.slice (S (H e d)) l s,.slice (S f) o z]).run P b=
   .ok (goInt k) (b.setRow e (c.toList.take d++a++c.toList.drop (d+a.length)).toArray):=by
 cases h:P.info? g with
 |none=>simp[h] at n
 |some g=>
  have g:g.size=i:=by simpa[h] using n
  simp[Builtin.copy_,run_underlying y,Builtin.lenOf,Builtin.firstCells,sizeOf,typeInfo,h,g,<-v,<-w,(run_loadCells_list (P:=P) b f a x),(run_storeCells_at P e d p a 0 c b u (sU t) r)]
def ic(a:L It):L ζ:=a.flatMap (λa=>[I a.1,I a.2])
theorem qV(a b:L It):ic (a++b)=ic a++ic b:=by simp[ic]
theorem fK(a:L It):(ic a).length=a.length*2:=by
 induction a with
 |nil=>rfl
 |cons c b a=>simp only[ic,kX,cA,bW,fq] at a |-;omega
theorem vS:∀(b:L It)(a:E),(ic b).take (a*2)=ic (b.take a)
 |[],a=>by simp[ic]
 |x::r,0=>by simp[ic]
 |x::r,a+1=>by
  rw[show(a+1)*2=a*2+2 from by omega]
  have:=vS r a;simp[ic] at this |-;exact this
theorem vP:∀(b:L It)(a:E),(ic b).drop (a*2)=ic (b.drop a)
 |[],a=>by simp[ic]
 |x::r,0=>by simp[ic]
 |x::r,a+1=>by
  rw[show(a+1)*2=a*2+2 from by omega]
  have:=vP r a;simp[ic] at this |-;exact this
theorem AU(b:L It):∀a∈ic b,a.oneCell'=γ:=by
 intro b a;simp only[ic,ke,rB] at a;obtain⟨c,-,rfl|rfl⟩:=a<;>rfl
theorem Zq:dK prog 193 200 2 16:=dK.of underlying193 (z:=.agg #[aI,aI]) kR Y J
theorem Kg:(prog.info? 200).map (·.size)=S 2:=kR
def YG(e:E)(c:ζ)(g:E)(h:L It)(d:ε)(f:Ending)(b:ε):Prop:=∃a,f=.returned a/\b.ownsRow e 200 2 a (g+1) (ic h)/\Fr (λq=>c.ownBlock=S q) d b/\(a.ownBlock=c.ownBlock\/∀b,a.ownBlock=S b->d.heap.size<=b)
theorem Ya(f:E)(h:ζ)(r:L It)(a:E)(c:It)(k s:E)(b:ε)(g:b.ownsRow f 200 2 h a (ic r))(p:aY b k #[I c.1,I c.2] 200)(z:a<=1000)(l:f<=b.heap.size):
  aQ 155 #[h,I a,.slice (S (H k 0)) 1 s] b (YG f h a (r++[c]) b):=by
 obtain⟨x,i,rfl,y,t⟩:=bB g;unfold maxLen at t;obtain⟨d,e⟩:=c;have m:(a+1)*16<=140737488355328:=O;have n:a+1<=maxLen:=mL;by_cases o:a=i
 .subst o
  delta aQ;go_in
  go_wp2_with (at_builtin;refine stop ?_);refine aZ.go ?_;refine eD Y (.tmp 23) (.tmp 24) Y Zq Y g (m:=1) (news:=[I d,I e]) Y Y (eF.block (cs:=#[I d,I e]) p oC) m n l ?_;intro b c w v u;go_wp2;go_ret;exact⟨_,Y,(by rw[qV];exact w),(bq v),(u.imp id (λc f b=>c f b))⟩
 have a:¬i=a:=λa=>o a.symm
 delta aQ;go_in
 go_wp2_with (at_builtin;refine stop ?_);refine aZ.go ?_;refine eD Y (.tmp 23) (.tmp 24) Y Zq Y g (m:=1) (news:=[I d,I e]) Y Y (eF.block (cs:=#[I d,I e]) p oC) m n l ?_;intro a b w v u;go_wp2;go_ret;exact⟨_,Y,(by rw[qV];exact w),(bq v),(u.imp id (λb c a=>b c a))⟩
theorem Hg(b:L It)(a:E)(e f:T)(g:L ζ)(c:a<b.length)(c:2<=g.length):
  let c:=ic b++g
  let d:=c.take ((a+1)*2)++ic (b.drop a)++c.drop ((a+1)*2+(ic (b.drop a)).length)
  let d:=d.take (a*2)++[I e,I f]++d.drop (a*2+2)
  d.take ((b.length+1)*2)=ic (b.take a++(e,f)::b.drop a)/\d.length=c.length:=by
 intro c d h;have i:c.length=b.length*2+g.length:=by simp[c,fK]
 have k:(ic (b.drop a)).length=(b.length-a)*2:=by rw[fK,ik]
 have g:c.take ((a+1)*2)=ic (b.take (a+1)):=by
  simp only[c];rw[pF (by rw[fK];omega),vS]
 have l:d.length=c.length:=by simp only[d,cA,cV,ik,k,i];omega
 have l:d.take (a*2)=ic (b.take a):=by
  simp only[d];rw[g,dm,pF (by rw[fK,cV];omega),vS,L.take_take,rP O]
 have d:d.drop (a*2+2)=ic (b.drop a)++c.drop ((a+1)*2+(ic (b.drop a)).length):=by
  simp only[d];rw[g,dm,show a*2+2=(ic (b.take (a+1))).length from by rw[fK,cV];omega,L.drop_left]
 have c:h=ic (b.take a++(e,f)::b.drop a)++c.drop ((a+1)*2+(ic (b.drop a)).length):=by
  simp only[h];rw[l,d,qV];simp[ic]
 have a:(ic (b.take a++(e,f)::b.drop a)).length=(b.length+1)*2:=by
  rw[fK];simp;omega
 refine⟨?_,?_⟩
 .rw[c,pF O,dq O]
 rw[c,cA,a,ik,k,i];omega
theorem wU{P:Program}(a f:Operand)(b c:TypeId)(i:o2.op=Op.call {callee:=Callee.builtin Builtin.copy,args:=#[a,f],argTypes:=#[b,c]})
  (e d:ζ)(h:a1.eval a=e)(l:a1.eval f=d)(k:(Builtin.copy_ #[b,c] o2.type #[e,d]).run P W=.ok x V)(g:K1 (a1.put o2.dst x) V):Oper.wp P o2 a1 W K1 Q:=by
 unfold Oper.wp;simp[execOp,i,resolve,invoke,builtin,h,l,k,Result.andThen];exact g
theorem yC{P:Program}
  (i:o2.guard=η)(a f:Operand)(b c:TypeId)(k:o2.op=Op.call {callee:=Callee.builtin Builtin.copy,args:=#[a,f],argTypes:=#[b,c]})
  (e d:ζ)(h:a1.eval a=e)(m:a1.eval f=d)(l:(Builtin.copy_ #[b,c] o2.type #[e,d]).run P W=.ok x V)(g:K1 (a1.put o2.dst x) V):
  if Region.wanted o2 (yielded o1 a1.tmps)=γ then Oper.wp P o2 a1 W K1 Q else p0:=by
 rw[aS (by simp[Region.wanted,i])];exact wU a f b c k e d h m l g
theorem YQ(A:E)(b f:E)(g:θ ζ)(e:L It)(c a:E)(z:It)(i r:E)(d:ε)(t:d.heap[b]? =S (.cells g 200 (0,0)))(u:g.size=f*2)(a2:g.toList.take (c*2)=ic e)(x:e.length=c)(a6:a<c)(a5:c+1<=f)(K:f<=maxLen)(y:d.heap[i]? =S (.cells #[I z.1,I z.2] 200 (0,0)))(Q:b≠i)(a6:c<=1000)(a0:A<=b):
  aQ 155 #[.slice (S (H b 0)) c f,I a,.slice (S (H i 0)) 1 r] d (YG A (.slice (S (H b 0)) c f) c (e.take a++z::e.drop a) d):=by
 unfold maxLen at K;obtain⟨n,o⟩:=z;obtain⟨R,C⟩:∃h,g.toList=ic e++h:=⟨g.toList.drop (c*2),by rw[<-a2,rT]⟩;have a4:2<=R.length:=by
  have h:g.toList.length=f*2:=by rw[nY];exact u
  rw[C,cA,fK] at h;omega
 have a3:∀k h,(callFunc 198 #[.slice (S (H i 0)) 1 r,.slice (S (H b ((a+1)*2))) k h]).run prog d=.ok (.value (.bool δ)) d:=λk h=>by
  rw[run_callFunc_extern func198 kR kR kR (e:=Extern.SlicesOverlaps.overlaps #[193,193] #[4]) kR,
   Lib.run_overlaps_apart d 193 4 200 underlying193 2 (λl=>by kernel_rfl) (H i 0) (H b ((a+1)*2)) 1 r k h Q.symm 200 200 2 (f*2) (by simp[ε.shape?,y]) (by simp[ε.shape?,t,u]) O (aG y _) (aG y _)]
  rfl
 have z:=Z t;have z:(0:Int)<=(a:Int):=O;have z:((a:Int)+1).toNat=a+1:=O;have z:¬(f=a+1):=O;have z:¬(f=a):=O;have z:IntKind.i64.wrap ((a:Int)+1)=(a:Int)+1:=by rw[IntKind.wrap_i64];omega
 have z:(0:Int)<=(a:Int)+1:=O;have z:(a:Int)+1<=(c:Int)+1:=O;have z:(a:Int)<=(c:Int)+1:=O;have P:∀l k h,(Builtin.copy_ #[193,193] l #[.slice (S (H b ((a+1)*2))) (c-a) k,.slice (S (H b (a*2))) (c+1-a) h]).run prog d.drew=.ok (goInt (c-a:E)) (d.drew.setRow b (g.toList.take ((a+1)*2)++ic (e.drop a)++g.toList.drop ((a+1)*2+(ic (e.drop a)).length)).toArray):=λl k h=>by
  refine jH 2 d.drew 193 193 l 200 b ((a+1)*2) (c-a) k (H b (a*2)) (c+1-a) h g 200 (ic (e.drop a)) underlying193 Kg t (c-a) (by simp only[E.min_def];split<;>omega) (by rw[fK,ik,x]) (λD h v=> ?_) (by rw[fK,ik,x,u];omega) (AU _);rw[eV];rw[(aj (w:=d.drew) t (a*2+D)),<-kp,C];rw[<-vP,qt] at v;rw[jf (cj.1 v).1];exact v
 obtain⟨m,w⟩:=M (g.toList.take ((a+1)*2)++ic (e.drop a)++g.toList.drop ((a+1)*2+(ic (e.drop a)).length));obtain⟨h,s⟩:=M (d.drew.setRow b m.toArray);simp only[<-w,<-s] at P;have G:h.heap[b]? =S (.cells m.toArray 200 (0,0)):=by rw[s];exact setRow_heap d.drew b g _ 200 (0,0) t
 have W:h.heap[i]? =S (.cells #[I n,I o] 200 (0,0)):=by rw[s,nF _ _ _ _ Q.symm];exact y
 have U:bT b d h:=(by rw[s];exact⟨Y,Y,Y,by simp only[ε.setRow,tA];exact eG,λp t g=>nF d.drew b p _ g⟩);obtain⟨p,B⟩:=M (m.take (a*2)++[I n,I o]++m.drop (a*2+2));have F:(p.take ((c+1)*2)=ic (e.take a++(n,o)::e.drop a)/\p.length=f*2):=(by
  have d:=Hg e a n o R O a4;dsimp only at d
  rw[<-C,<-w,<-B,x] at d;exact⟨d.1,d.2.trans (by rw[nY];exact u)⟩)
 have X:m.length=f*2:=by
  rw[w];simp only[cA,cV,ik,fK,nY,u,x];omega
 have a1:∀l k,(Builtin.copy_ #[193,193] l #[.slice (S (H b (a*2))) (c+1-a) k,.slice (S (H i 0)) 1 r]).run prog h=.ok (goInt (1:E)) (h.setRow b p.toArray):=λl k=>by
  have:=jH (P:=prog) 2 h 193 193 l 200 b (a*2) (c+1-a) k (H i 0) 1 r m.toArray 200 [I n,I o] underlying193 Kg G 1 (by simp only[E.min_def];split<;>omega) Y (λD d v=>by
   rw[eV,de,aj W D,<-kp];exact v) (by simp[X];omega) oC
  rw[this,B];rfl
 have V:(h.setRow b p.toArray).ownsRow A 200 2 (.slice (S (H b 0)) (c+1) f) (c+1) (ic (e.take a++(n,o)::e.drop a)):=⟨by rw[fK];simp;omega,.inr ⟨b,f,p.toArray,Y,a0,setRow_heap h b _ _ 200 (0,0) G,a5,by unfold maxLen;exact K,sU F.2,sU F.1⟩⟩;clear w s B
 delta aQ;go_in
 go_wp2_with (simp only[a3]);go_region_law (refine yC Y _ _ 193 193 Y _ _ (by simp[Act.eval,Act.put]) (by simp[Act.eval,Act.put]) (P _ _ _) ?_)
 go_wp2_with (at_builtin;refine wpList_plain Y λc a=>wU _ _ 193 193 Y _ _ Y Y (a1 _ _) (a _ _ ?_));go_ret;exact⟨_,Y,V,(U.trans (T:=λq=>q=b) ⟨Y,Y,Y,by simp only[ε.setRow,tA];exact eG,λc d a=>nF h b c _ a⟩ (λa _ s=>by subst s;rfl) (λa _ s=>by subst s;rfl)),.inl Y⟩
def VF(d:ε)(b:ι Addr)(a:E)(e:L It):Prop:=
 (e=[]\/b=S (H a 0))/\∀b c,e[b]? =S c->d.cell? (H a (b*2))=S (I c.1)/\d.cell? (H a (b*2+1))=S (I c.2)
theorem VF.fr{w b:ε}{S:E->Prop}(a:VF w A m R)(c:Fr S w b)(d:¬S m):VF b A m R:=
 ⟨a.1,λe f b=>⟨c.aF (a.2 e f b).1 d,c.aF (a.2 e f b).2 d⟩⟩
theorem VF.addr{a k:E}{x:It}(c:VF W A a R)(b:R[k]? =S x):A=S (H a 0):=c.1.resolve_left (λa=>by rw[a] at b;simp at b)
theorem acS(c:L It)(a:E)(b:It)(d:c[a]? =S b):(ic c)[a*2]? =S (I b.1)/\(ic c)[a*2+1]? =S (I b.2):=by
 have b:(ic c).drop (a*2)=I b.1::I b.2::ic (c.drop (a+1)):=by
  rw[vP,nR (cj.1 d).1,(cj.1 d).2];rfl
 refine⟨?_,?_⟩
 .rw[<-fI (a*2),<-qt,b];rfl
 rw[<-qt,b];rfl
theorem VF.qc(e:W.ownsRow m 200 2 x q (ic R))(o:R.length=q):∃b c a,x=.slice b q a/\q<=a/\a<=maxLen/\VF W b c R/\(x.ownBlock=S c\/R=[]/\x.ownBlock=η):=by
 rcases e.2 with⟨rfl,h⟩|⟨d,g,c,rfl,l,n,k,i,p,r⟩
 .have c:R=[]:=fH O
  exact⟨η,0,0,by rw[h],O,by simp[maxLen],⟨.inl c,λb f a=>by rw[c] at a;simp at a⟩,.inr ⟨c,Y⟩⟩
 refine⟨_,d,g,Y,k,i,⟨.inr Y,λb f a=> ?_⟩,.inl Y⟩;have c:=acS R b f a;have a:=e.cells (g:=d) Y (b*2) _ c.1;have b:=e.cells (g:=d) Y (b*2+1) _ c.2;rw[eV,de] at a b;exact⟨a,b⟩
def yS(c:T)(b:L It)(a:E):Prop:=a<=b.length/\(∀d e,d<a->b[d]? =S e->e.1<c)/\(∀d e,a<=d->b[d]? =S e->c<=e.1)
def qD(b:T)(c:L It)(a:E):κ:=match c[a]? with|some a=>a.1==b|none=>δ
def Sx(d:L It):Prop:=∀(a b:E)(c e:It),a<b->d[a]? =S c->d[b]? =S e->c.1<e.1
def BSR(b:T)(c:L It)(f:ε)(e:Ending)(d:ε):Prop:=∃a:E,e=.returned (.tuple #[I a,.bool (qD b c a)])/\yS b c a/\Fr j f d
theorem Fs(a:It)(b:T)(c:ε):dr 152 #[.agg #[I a.1,I a.2],I b] c (I (xS a.1 b)):=by
 obtain⟨a,g⟩:=a;simp only
 delta dr aQ;go_in
 go_wp2_with fail;refine sg (Yk a b _) ?_;rintro a f ⟨rfl,d⟩;have e:Fr j c f:=(((Fr.refl j c).alloc _).step d);clear d;go_wp2;go_ret;exact⟨Y,e⟩
theorem YC(u:ι Addr)(z e A:E)(d:L It)(b:T)(m:ε)(a:VF m u z d)(c:d.length=e)(z:e<=1000)(v:Sx d):
  aQ 151 #[.slice u e A,I b,.func (.func 152) #[] #[]] m (BSR b d m):=by
 have i:=a;have HN:=Z c;clear a c
 delta aQ;go_in
 go_wp2_with fail;go_loopg [9,10] e (λu s9 s10 wr=>∃c a:E,s9=I c/\s10=I a/\c<=a/\a<=e/\a-c<=u/\Fr j m wr/\(∀f g,f<c->d[f]? =S g->g.1<b)/\(∀c f,a<=c->d[c]? =S f->b<=f.1))
 .exact⟨0,e,Y,Y,nG,eG,O,rF,λc f a=>by omega,λf g c a=>by have:=(cj.1 a).1;have:=HN.1;omega⟩
 case round=>
  obtain⟨c,a,rfl,rfl,D,B,C,g,f,h⟩:=hrel;have⟨t,o⟩:=bD f h;clear f h;by_cases m:c<a
  .obtain⟨x,f⟩:∃h,d[(c+a) / 2]? =S h:=⟨_,cF fU⟩
   obtain rfl:=i.addr f;obtain⟨h,l⟩:=(i.fr g id).2 _ x f;have k:=Z f;have m:(c+a) / 2<e:=O;obtain⟨n,y⟩:=x;clear f;simp only at h l;go_wp2_with fail;refine sg (Fs (n,y) b wr) ?_;rintro m u ⟨rfl,f⟩;have r:=(g.step f);clear f h l;obtain⟨l,h⟩:=M (xS n b);rw[show xS (n,y).1 b=l from h.symm];by_cases f:n<b
   .obtain rfl:l= -1:=by rw[h,xS,aS f]
    have s:=Z f;clear h f;go_wp2;go_roundg (a-((c+a) / 2+1))
    .exact⟨(c+a) / 2+1,a,by rw[show((c:T)+(a:T)) / 2+1=(((c+a) / 2+1:E):T) by omega],Y,O,B,eG,r,λp n m w=>by
      rcases dP p ((c+a) / 2) with m|m
      .have:=v p _ n _ m w k.1
       have:=s.1;simp only at*;omega
      obtain rfl:p=(c+a) / 2:=O
      have:=cI (k.1.symm.trans w);subst this;exact s.1,o.1⟩
    omega
   have s:(l<0)=False:=by
    rw[h,xS,aR f];split<;>simp
   (have l:decide (l<0)=δ:=by simp[s]);have p:=Z f;clear h f s;go_wp2;go_roundg ((c+a) / 2-c)
   .exact⟨c,(c+a) / 2,Y,by rw[show((c:T)+(a:T)) / 2=(((c+a) / 2:E):T) by omega],O,O,eG,r,t.1,λf l h s=>by
     rcases dP ((c+a) / 2) f with h|h
     .have:=v _ f _ l h k.1 s
      have:=p.1;simp only at*;omega
     obtain rfl:f=(c+a) / 2:=O
     have:=cI (k.1.symm.trans s);subst this
     have:=p.1;simp only;omega⟩
   omega
  obtain rfl:a=c:=O;have CU:yS b d a:=⟨oB HN.1,t.1,o.1⟩;by_cases c:a<e
  .obtain⟨r,h⟩:=gE d a fU
   obtain rfl:=i.addr h;obtain⟨l,n⟩:=(i.fr g id).2 _ r h;obtain⟨f,s⟩:=r;have w:N (qD b d a=(f==b)):=Z (by simp[qD,h]);have x:b<=f:=(o.1 a _ eG h);simp only at l n;clear h;go_wp2_with fail;refine sg (Fs (f,s) b wr) ?_;rintro c e ⟨rfl,p⟩;have k:=(g.step p);have h:N ((xS f b==0)=qD b d a):=Z (by
    rw[w.1,dS]
    have:=x;unfold xS;rw[aR O];split
    .simp;omega
    simp;omega)
   clear p l n;obtain⟨e,c⟩:=M (xS f b);rw[show xS (f,s).1 b=e from c.symm];rw[<-c] at h;obtain⟨n,e⟩:=M (qD b d a);rw[<-e] at h;have l:=Z e;have f:=h.1;clear c e;cases n
   .go_wp2
    go_ret2;exact⟨a,by rw[<-l.1];rfl,CU,k⟩
   go_wp2;go_ret2;exact⟨a,by rw[<-l.1];rfl,CU,k⟩
  have b:N (qD b d a=δ):=Z (by
   unfold qD;rw[jw fU])
  go_wp2;go_ret2;exact⟨a,by rw[b.1];rfl,CU,g⟩
def iW(q f e:E)(a:TypeId)(b d:ε):Prop:=
 ∀c,aY b q c a->∃b:θ ζ,b.size=c.size/\aY d q b a/\∀a,(a<f\/e<=a)->b[a]? =c[a]?
theorem iW.apart{q e a:E}(b:Fr S1 W V)(c:¬S1 q):iW q e a t W V:=λa d=>⟨a,Y,b.aB d c,λ_ _=>Y⟩
theorem iW.trans{q b a:E}(c:iW q b a t W V)(d:iW q b a t V U):iW q b a t W U:=λa b=>by
 obtain⟨a,s1,b,c⟩:=c a b;obtain⟨a,s2,b,d⟩:=d a b;exact⟨a,s2.trans s1,b,λb a=>(d b a).trans (c b a)⟩
theorem iW.set{q c b:E}{t:TypeId}(a:ζ)(d:c<=m)(d:m<b):iW q c b t W (W.setCell (H q m) a):=λb c=>
 ⟨b.setIfInBounds m a,sI,aD c m a,λb a=>by rw[ew O]⟩
def uX(q f e:E)(g:TypeId)(d:E)(h:TypeId)(a b:ε):Prop:=Fr (λc=>c=q\/c=d) a b/\iW q f e g a b/\iW d 0 100 h a b
theorem uX.of{q c b d:E}{e f:TypeId}(a:Fr j W V):uX q c b e d f W V:=⟨a.mono (λ_ _ b=>b.elim),iW.apart a id,iW.apart a id⟩
theorem uX.trans{q d b e:E}{f g:TypeId}(a:uX q d b f e g W V)(c:uX q d b f e g V U):uX q d b f e g W U:=
 ⟨a.1.tr c.1,a.2.1.trans c.2.1,a.2.2.trans c.2.2⟩
def Kz(b:E)(c:L T)(a:T):κ:=(decide (0<=a)&&decide (a<(b:T)))&&!c.contains a
def mx(b:E)(a c:L T):κ:=a.all (Kz b c)
def yJ(a:E):L T->L T->κ
 |_,[]=>γ
 |pre,b::c=>Kz a pre b&&yJ a (pre++[b]) c
def tY:L T->κ
 |[]=>γ
 |[_]=>γ
 |x::a::b=>decide (x<a)&&tY (a::b)
def jS(b:E)(c:L T):E->L (L T)->κ
 |_,[]=>γ
 |i,a::d=>(tY a&&mx b a (c.take i))&&jS b c (i+1) d
def OG(b:Hs)(c:T)(a:L T)(left:L (L T)):κ:=
 (bm b&&(decide (1<=c)&&decide (c<=32))&&decide (a.length<=b.length-1))&&yJ b.length [] a&&
  (if left.length=0 then a.length==0 else left.length==a.length+1&&jS b.length a 0 left)
def OK(c:E)(a:L T):Prop:=a.Nodup/\∀b∈a,0<=b/\b<(c:T)
theorem KV:Kz m e i1=γ↔(0<=i1/\i1<(m:T))/\i1 ∉ e:=by simp[Kz]
theorem OK.snoc(b:OK m e)(h:Kz m e i1=γ):OK m (e++[i1]):=by
 obtain⟨d,f⟩:=KV.1 h;refine⟨L.nodup_append.2 ⟨b.1,sI,λa g h c=> ?_⟩,λi a=> ?_⟩
 .simp at c
  subst c;exact λc=>f (c▸g)
 rcases cB.1 a with a|a
 .exact b.2 i a
 simp at a;subst a;exact d
theorem KZ:∀(b a:L T),OK m a->yJ m a b=γ->OK m (a++b)
 |[],b,a,_=>by simpa using a
 |t::d,c,b,a=>by
  simp only[yJ,bA] at a
  have:=KZ d (c++[t]) (b.snoc a.1) a.2;simpa using this
theorem OK.len(a:OK m e):e.length<=m:=by
 have:=uk e (cU (L.range m)) a.1 (λb c=>by
  obtain⟨a,c⟩:=a.2 b c;exact rH.2 ⟨b.toNat,sO,O⟩)
 simpa[cU] using this
theorem OK.all(b:OK m e)(a:e.length=m):∀a,0<=a->a<(m:T)->a∈e:=λa a c=>by
 refine nV λd=> ?_
 have:=(b.snoc (KV.2 ⟨⟨a,c⟩,d⟩)).len;simp at this;omega
theorem Cm:∀(left:L (L T))(b c:E)(a:L T),jS m e b left=γ->left[c]? =S a->tY a=γ/\mx m a (e.take (b+c))=γ
 |[],a,b,c,_,hj=>by simp at hj
 |x::r,a,0,b,h,hj=>by
  simp only[jS,bA] at h;simp at hj;subst hj;exact h.1
 |x::r,a,b+1,c,h,hj=>by
  simp only[jS,bA] at h
  have:=Cm r (a+1) b c h.2 (sU hj);rwa[show a+1+b=a+(b+1) from by omega] at this
structure WrP(h:Hs)(wd:T)(path:L T)(left:L (L T)):Prop where
 hr:bm h=γ
 wd:1<=wd/\wd<=32
 pth:OK h.length path
 len:path.length<=h.length-1
 left:left=[]/\path=[]\/left.length=path.length+1/\∀t r,left[path.length]? =S (t::r)->Kz h.length path t=γ
theorem abP{b:Hs}{left:L (L T)}(c:OG b i1 e left=γ):WrP b i1 e left:=by
 simp only[OG,bA,cS] at c;obtain⟨⟨⟨⟨f,g,h⟩,i⟩,k⟩,a⟩:=c;refine⟨f,⟨g,h⟩,by simpa using KZ e [] ⟨sI,sI⟩ k,i,?_⟩;split at a
 .rename_i d
  exact .inl ⟨fH d,fH (sU a)⟩
 simp only[bA,ef] at a;refine .inr ⟨a.1,λn m l=> ?_⟩
 have:=(Cm left 0 _ _ a.2 l).2;rw[de,oz] at this;simp only[mx,lM,bA] at this;exact this.1
theorem zw{a:Hs}(b:bm a=γ):dw a (rj a e)=γ:=by
 simp only[dw,bA,fY,cS];refine⟨⟨b,?_⟩,λd c=>Tv c⟩;have c:=jt a;rw[iX b] at c;have a:(rj a e).length<=(iC a).length:=L.length_filterMap_le _ _;omega
theorem Md{a:Hs}(b:bm a=γ)(c:ep i1=γ)(g:OK a.length e)(d:e.length=a.length)(f:je a.length (cP a i1 (rj a e))=S B):Kw a i1:=
 sN (zw b) c (oN (oB (bK b)) f).2.2.2 (λq a=>Re (λc b=>g.all d c (gY.1 b).1 (gY.1 b).2) a (pL a).1)
theorem XH(b:ep i1=γ):Kw [] i1:=
 sN (h:=[]) (l:=[]) (by decide+kernel) b (λb a=>by
  have d:∀b e,Tc (Eg 0 (cP [] i1 [])) b e->False:=λb e c=>by
   induction c with
   |one b=>exact absurd b.1 O
   |more _ b _=>exact absurd b.1 O
  exact d _ _ a) (λb a=>by
  have:iC []=[]:=by decide+kernel
  rw[this] at a;cases a)
theorem Ua{a:Hs}(b:iu a i1 F=γ)(d:F.length<=20000)(e:oV a (fe F)=η)(f:je a.length (cP a i1 (fe F))=S B):il a i1 1:=
 ⟨J,J,λ_=>sN (ry b d) (dO b).2 (oN (oB (bK (dO b).1)) f).2.2.2 (zE e),λc=>by cases c⟩
theorem Yi{a:Hs}(b:iu a i1 F=γ)(d:F.length<=20000)(e:je a.length (cP a i1 (fe F))=η):il a i1 2:=
 ⟨J,J,λc=>(by cases c),λ_=>Ir (ry b d) (dO b).2 (Fm (oB (bK (dO b).1)) e) (λc hw a=>vx hw a b)⟩
theorem LU{a:Hs}(b:bm a=γ)(e:ep i1=γ)(d:dF a.length (cP a i1 [])≠[]):il a i1 2:=
 ⟨J,J,λc=>(by cases c),λ_=>Ir (l:=[]) (by simp[dw,b]) e (λa=>d ((kL (oB (bK b))).2 a)) (λa hw d b c=>by cases c)⟩
theorem GZ{a:Hs}(b:bm a=γ)(f:ep i1=γ)(e:dF a.length (cP a i1 [])=[])(c:cQ a=[]):il a i1 1:=
 ⟨J,J,λ_=>sN (l:=[]) (by simp[dw,b]) f ((kL (oB (bK b))).1 e) (λa d=>by rw[iX b] at c;rw[c] at d;cases d),λd=>by cases d⟩
def jm(g:Hs)(h:T)(f:E)(b:ε)(i:ζ)(a:rK):Prop:=
 ∃d e c,i=yL a.said d e c/\oD g h f a/\Sl 3 1 CI b d a.ord/\Sl 146 4 NC b e a.tree/\Sl 276 7 CF b c a.fs
theorem fQ{P:Program}{b d:TypeId}{a:θ ζ}{c:TypeDesc}(f:W.heap[m]? =S (.cells a d f1))(e:(match c with|.struct _|.array _ _=>γ|_=>δ)=γ)
  (h:P.underlying b=S c)(g:(P.info? b).map (·.size)=S a.size):(loadVar b (H m 0)).run P W=.ok (.agg a) W:=by
 cases c<;>first|exact run_loadVar_row W m d b a f1 _ f h Y g|exact absurd e sI
theorem bO{g:Func}{c:Tmp}(i:g.results=#[.cell c t])(d:θ ζ)(P:Program)(e:ε)(b:E)(m:TypeId)(a:θ ζ)(h:E×E)(f:TypeDesc)
  (l:d.getD c undef=aP b 0)(k:e.heap[b]? =S (.cells a m h))(h:(match f with|.struct _|.array _ _=>γ|_=>δ)=γ)(m:P.underlying t=S f)
  (f:(P.info? t).map (·.size)=S a.size):(results g d).run P e=.ok (.agg a) e:=by
 have a:d[c]?.getD undef=aP b 0:=sU l;simp[results,i,a,asAddr,fQ k h m f,Result.andThen]
theorem IA{a:Hs}(d:il a i1 i2)(b:N1.length<=m)(c:Su N1):oD a i1 m ⟨i2,[],N1,[]⟩:=⟨d,sI,b,c,sI,(λa e=>by cases e)⟩
theorem Jb{a:Hs}(c:il a i1 i2)(b:e.length<=64):oD a i1 m ⟨i2,e,[],[]⟩:=⟨c,b,sI,(λa d=>by cases d),sI,(λa d=>by cases d)⟩
theorem QD{w:ε}(c:aY w m #[aI,aI,aI,.slice A q n1] 146)(f:Sl 3 1 CI w (.slice A q n1) e):Sl 146 4 NC w (.slice (S (H m 0)) 1 1) (fP e):=
 (cC.lit (B:=0) (n:=4) (C:=NC) (m:=1) (xs:=fP e) (L:=[[aI,aI,aI,.slice A q n1]]) c nG Y J Y Y (λc g h b a=>by
  have d:c=0:=by have:=(cj.1 a).1;simpa[fP] using this
  subst d;simp[fP] at b a;subst b a;exact⟨Y,_,Y,f⟩)).read
def UW(c:E)(f:ζ)(d:ε):Prop:=∃b e a,f=.tuple #[b,I e]/\Sl 146 4 NC d b a/\Su a/\a.length=c
def UE(b:E)(d:ζ)(c:ε):Prop:=∃a,Sl 146 4 NC c d a/\Su a/\a.length=b
def SW.uw(b a:E):SW:=⟨.w1 b (UW a),λ_ _ _ ⟨g,a,e,b,f,d⟩ c=>⟨g,a,e,b,f.f c,d⟩⟩
def SW.ue(b a:E):SW:=⟨.w1 b (UE a),λ_ _ _ ⟨c,d,b⟩ a=>⟨c,d.f a,b⟩⟩
theorem Pp(b:Hs)(e:T)(c:L Fc)(b2 b3:ζ)(f:ε)(n:Gl f)(A:eJ f b2 b)(a4:Sl 276 7 CF f b3 c)(m:c.length<20000)(a7:iu b e c=γ):
  aQ 217 #[b2,I e,b3] f λg a=>∃d h,g=.returned d/\jm b e (1+2*c.length) a d h/\Fr j f a:=by
 have u:=A;have HL:=a4;have RP:=Z a7;have RR:(bm b=γ/\ep e=γ):=(dO a7);obtain⟨b1,rfl,-⟩:=A;have A:(prog.info? 288).map (·.size)=S 4:=kR;have HI:=Z A;obtain⟨c5,e4,e7,c9,rfl,-,-,-⟩:=a4;obtain⟨h,a⟩:=M c.length;rw[<-a] at HL |-;have HLN:=Z a;clear a
 delta aQ;go_in
 go_wp2_with fail;refine aZ.nm (λA d=> ?_);obtain⟨a4,g⟩:=M f.heap.size;obtain⟨i,l⟩:=M (a4+1);rw[<-g,<-l];have k:=lq d;have w:N (∀a,Fr j A a->aY a a4 #[b1] 54):=Fr.all (by rw[d];exact aC (bM g) _);have x:N (∀a,Fr j A a->aY a i #[aI,aV,aV,aV] 288):=Fr.all (by rw[d];exact bM sO);have v:f.heap.size<=i:=O;clear d g l;refine sg (eQ c _ A (HL.f k) (by have:=m;unfold fV;omega)) ?_;rintro A d7 ⟨v7,f,rfl,a1,y⟩;have Q:=a1.read;obtain⟨e3,e5,rfl,-,-⟩:=a1.shape (m:=h) (by rw[HLN.1];simp[fe]);have f:=bx (w.1 _ y);go_wp2_with fail;refine sg (Cg b (fe c) _ _ d7 (u.fr (k.step y)) Q) ?_;rintro f d8 ⟨rfl,a0⟩;have C:(dw b (fe c)=γ):=(ry RP.1 (oB m));rw[show oX b (fe c)=oV b (fe c) by unfold oX;rw[aS C]];have o:=(y.step a0);cases d2:oV b (fe c) with
 |some d=>
  obtain⟨g,d,f⟩:=d;unfold yA iP;simp only[jx,nU];have d:∀d,(d8.alloc d).heap[i]? =S (.cells #[aI,aV,aV,aV] 288 (0,0)):=λd=>x.1 _ (o.alloc d);have f:=λf=>bx (d f);have f:=λf=>dh (d f);have f:=λf=>iU (d f);have f:=λf=>iT (d f);have f:=λg f=>aG (d g) f;go_wp2;exact aO (bO Y _ _ _ i 288 _ (0,0) _ Y (bP (d _) (I 3) aV aV aV) Y underlying288 tZ) Y ⟨_,⟨3,[],[],[]⟩,Y,⟨_,_,_,Y,jV sL,dJ,dJ,dJ⟩,(k.step (o.alloc _)).keep (bC _ _ _ _ _ _) (λf d=>d▸v)⟩
 |none=>
  have c0:=Z d2;unfold yA iP;simp only[pY,qu];have f:=λd=>bx (w.1 _ (o.alloc d));go_wp2_with fail;refine aZ.nm (λA d=> ?_);have y:=cY d;have R:=(o.step y);have f:=(k.step R);clear d;refine sg (ng b e (fe c) _ _ A (n.fr f) (u.fr f) ((Q.f a0).f y)) ?_;rintro f d9 ⟨a3,d1⟩;rw[aS (by rw[C,RR.2];rfl)] at a3;obtain⟨e6,rfl,a2⟩:=a3;have K:b.length<=64:=(oB (bK RR.1));have t:=a2;obtain⟨sg,rfl,d3⟩:=a2;obtain⟨V,W,rfl,-,-⟩:=d3.slice;rw[bY] at t |-;obtain⟨d,f⟩:=M b.length;rw[<-f] at t |-;have G:=Z f;have s:d<=64:=oB K;clear f;go_wp2_with fail;refine aZ.nm (λy g=> ?_);obtain⟨A,f⟩:=M d9.heap.size;rw[<-f];have o:=cY g;have P:N (∀a,Fr j y a->aY a A #[I d,.slice V d W] 355):=Fr.all (by rw[g];exact bM f);have F:=(t.fr o);have U:=((R.step d1).step o);have D:=(k.step U);clear g f;refine sg (nP d _ s y (n.fr D) _ F) ?_;intro f B r;obtain⟨⟨e9,a9,c7,rfl,a8,b9,X,p⟩,l⟩:=nX s r;have z:=(U.step l);have g:=(D.step l);have HS:=a8;have⟨c1,b8⟩:=bD X p;obtain⟨c6,bo,e8,d0,rfl,-,-,-⟩:=a8;obtain⟨d5,f⟩:=M a9.length;rw[<-f] at HS |-;clear r f X p;cases c7 with
  |true=>
   have f:=x.1 _ z;have p:=Z f;obtain⟨k,o,r,t,y⟩:=gZ f;clear f;go_wp2;refine aO (bO Y _ _ _ i 288 _ (0,0) _ Y (bP p.1 (I 1) (.slice c6 d5 d0) aV aV) Y underlying288 tZ) Y ⟨_,⟨1,a9,[],[]⟩,Y,⟨_,_,_,Y,Jb ?_ b9,Sl.past HS iA (bC _ _ _ _ _ _) p.1 J id,dJ,dJ⟩,g.keep (bC _ _ _ _ _ _) (λk f=>f▸v)⟩;obtain⟨k,f,-⟩:=c1.1 trivial;rw[G.1] at f;exact Ua RP.1 (oB m) c0.1 f
  |false=>
   have e2:=λa(f:Fr j B a)=>bx (w.1 _ (z.step f));have e0:=λa(f:Fr j B a)=>bx (P.1 _ (l.step f));have e1:=λa(f:Fr j B a)=>dh (P.1 _ (l.step f));obtain⟨p,f⟩:=M ((cU (dF d (cP b e (fe c)))).length);have b7:=Z f;clear f;go_wp2_with fail;refine eU [[],[],[],[],[3],[3,4],[3,4,5],[0,1,2,3,4,5,6],[0,1,2,3,4,5,6,7],[0,1,2,3,4,5,6,7,8],[0,1,2,3,4,5,6,7,8],[0,1,2,3,4,5,6,7,8,9],[0,1,2,3,4,5,6,7,8,10]] [.eq 0 (.agg #[b1]),.eq 1 (I e),.eq 2 (.slice c5 h c9),.eq 3 (.agg #[I d,.slice V d W]),.sl iA 4 3 1 p ((cU (dF d (cP b e (fe c))))),⟨.w1 5 (λb4 a=>∃f k,b4=.agg #[aI,aI,aI,.slice f p k]/\Sl 3 1 CI a (.slice f p k) (cU (dF d (cP b e (fe c))))),λ_ _ _ ⟨f,k,o,t⟩ r=>⟨f,k,o,t.f r⟩⟩,.sl NC.aJ 6 146 4 1 (fP (cU (dF d (cP b e (fe c))))),.uw 7 (1+2*h),.uw 8 (1+2*h),.ue 9 (1+2*h),.no,.ue 11 (1+2*h),.no] [[0],[1],[2],[3],[4],[5],[6],[7],[8],[9],[],[11],[]] kR kR Y (λ_ _ _ _ h f=>⟨h.symm.trans f.1,f.2⟩) (λf=> ?_);refine⟨?_,?_,?_,?_,?_,?_,?_,?_,?_,?_,?_,?_,?_,?_⟩;any_goals(first|(intro a o h k f;simp only[rY,ξ,SW.eq,SW.lit,SW.sl,SW.no,di,dg,SW.uw,SW.ue] at h f |-;(try simp only[h] at f);go_simp;exact f _ _ rF Y)|fail)
   .intro a h f k r
    simp only[rY,ξ,SW.eq,SW.lit,SW.sl,SW.no,di,dg,SW.uw,SW.ue] at f r |-;(try simp only[f] at r);go_simp;go_at_call 214;refine(mS d _ s a (n.fr (g.step h)) _ (F.fr (l.step h))).mono ?_;rintro f d ⟨h,rfl,a5,X⟩;obtain⟨b0,b5,rfl,a6⟩:=a5.oH b7.1;exact r _ _ X ⟨_,_,Y,a6⟩
   .intro a k f h d
    have h:=f 4 J;simp only[rY,ξ,SW.eq,SW.lit,SW.sl,SW.no,di,dg,SW.uw,SW.ue] at h f d |-;(try simp only[f] at d);obtain⟨h,k,f,-,-,r⟩:=h;simp only[f] at d;go_simp;exact d _ _ rF ⟨_,_,Y,r⟩
   .intro a k f h d
    have h:=f 5 J;simp only[rY,ξ,SW.eq,SW.lit,SW.sl,SW.no,di,dg,SW.uw,SW.ue] at h f d |-;(try simp only[f] at d);obtain⟨f,h,k,l⟩:=h;simp only[k] at d;go_simp;have r:=QD (w:=a.alloc (.cells #[aI,aI,aI,.slice f p h] 146)) (bM Y) (l.f cZ);exact d _ _ cZ ⟨_,_,Y,eG,J,r⟩
   .intro a f d h r
    have h:=d 6 J;simp only[rY,ξ,SW.eq,SW.lit,SW.sl,SW.no,di,dg,SW.uw,SW.ue] at h d r |-;(try simp only[d] at r);obtain⟨k,l,d,-,-,h⟩:=h;simp only[d] at r;go_simp;go_at_call 276;refine(tN b e c _ _ _ _ a (n.fr (g.step f)) (u.fr (g.step f)) (HL.f (g.step f)) h (by unfold fV;simp[fP]) ?hcy K).mono ?_
    case hcy=>
     intro b4 X;simp only[fP,cX] at X;subst X;simp only[cU,eo];exact jv s
    rintro d b ⟨⟨e,c,b0,rfl,a6,hcy,X⟩,a5⟩;rw[aS ⟨m,RP.1⟩] at X;exact r _ _ a5 ⟨_,_,b0,Y,a6,hcy,by rw[X,HLN.1];rfl⟩
   .intro a e b d c
    have d:=b 7 J;simp only[rY,ξ,SW.eq,SW.lit,SW.sl,SW.no,di,dg,SW.uw,SW.ue] at d b c |-;(try simp only[b] at c);go_simp;exact c _ _ rF d
   .intro a e c d b
    have d:=c 8 J;simp only[rY,ξ,SW.eq,SW.lit,SW.sl,SW.no,di,dg,SW.uw,SW.ue] at d c b |-;(try simp only[c] at b);obtain⟨h,f,e,c,d⟩:=d;simp only[c] at b;go_simp;exact b _ _ rF ⟨e,d⟩
   .intro a e c d b
    have d:=c 8 J;simp only[rY,ξ,SW.eq,SW.lit,SW.sl,SW.no,di,dg,SW.uw,SW.ue] at d c b |-;(try simp only[c] at b);obtain⟨h,d,f,c,e⟩:=d;simp only[c] at b;go_simp;exact b _ _ rF trivial
   .intro a e b d c
    have d:=b 9 J;simp only[rY,ξ,SW.eq,SW.lit,SW.sl,SW.no,di,dg,SW.uw,SW.ue] at d b c |-;(try simp only[b] at c);go_simp;exact c _ _ rF d
   .intro a e c d b
    simp only[rY,ξ,SW.eq,SW.lit,SW.sl,SW.no,di,dg,SW.uw,SW.ue] at c b |-;(try simp only[c] at b);go_simp;exact b _ _ rF trivial
   intro a r c;have b:=c 11 J J;simp only[rY,ξ,SW.eq,SW.lit,SW.sl,SW.no,di,dg,SW.uw,SW.ue] at b;clear c;simp only[Act.put,rC];obtain⟨b0,b,b6,a5⟩:=b;have c3:=(z.step r);have b5:=(g.step r);have SB:=b;have c2:=Z a5;obtain⟨c4,b,c,c8,X,-,-,-⟩:=b;rw[X] at SB |-;obtain⟨d6,a6⟩:=M b0.length;rw[<-a6] at SB |-;obtain⟨a,d4⟩:=M a;subst d4;clear r a5 a6 X e2 e0 e1;have a:=x.1 _ c3;have r:=Z a;obtain⟨b,c,d,e,f⟩:=gZ a;clear a;go_wp2;exact aO (bO Y _ _ _ i 288 _ (0,0) _ Y (bP r.1 (I 2) aV (.slice c4 d6 c8) aV) Y underlying288 tZ) Y ⟨_,⟨2,[],b0,[]⟩,Y,⟨_,_,_,Y,IA (Yi RP.1 (oB m) (by have:=b8.1 trivial;rwa[G.1] at this)) (gh c2.1) b6,dJ,Sl.past SB NC.aJ (bC _ _ _ _ _ _) r.1 J qB,dJ⟩,b5.keep (bC _ _ _ _ _ _) (λb a=>a▸v)⟩
theorem zW(e:Hs)(l:T)(g:L Ch)(s:Ch)(u:ζ)(o:ι Addr)(d n:E)(x y z:E)(f:ε)(A:Gl f)(a1:eJ f (.agg #[u]) e)(V:Sl 144 3 CC f (.slice o d n) g)(w:d=g.length)(K:d<=40000)(W:d<=n)(X:n<=maxLen)
  (c:aY f x #[u] 54)(m:aY f y #[I l] 3)(p:aY f z #[.slice o d n] 265)(r:dw e (g++[s])=γ)(t:ep l=γ)(a2:e.length<=64):
  aQ 278 #[iP s,aP x 0,aP y 0,aP z 0] f λh a=>∃b,h=.returned b/\Sl 3 1 CI a b (cU (dF e.length (cP e l (g++[s]))))/\Fr j f a:=by
 have⟨HN,CB,G⟩:=dt w r t;have K:=Fr.all c;have P:=Fr.all m;have Q:=Fr.all p;obtain⟨b,a⟩:=M e.length;have v:=Z a;obtain⟨k,h,i⟩:=s;unfold iP;simp only;clear w r t c m p a
 delta aQ;go_in
 go_upto_region 1 with fail;refine cT (λc p=> ?_);obtain⟨s,a⟩:=M f.heap.size;rw[<-a];have m:=cY p;have f:=yY p a;clear p a;have p:∀a,oL c.heap.size 355 c a->Fr j c a:=λa p=>p.Fz;have r:=Z p;clear p;have a3:∀a,oL c.heap.size 355 c a->a.cell? (H x 0)=S u:=λa p=>aj (K.1 _ (m.step p.Fz)) 0;have a4:∀a,oL c.heap.size 355 c a->a.cell? (H y 0)=S (I l):=λa p=>aj (P.1 _ (m.step p.Fz)) 0;have a5:∀a,oL c.heap.size 355 c a->a.cell? (H z 0)=S (.slice o d n):=λa p=>aj (Q.1 _ (m.step p.Fz)) 0;have a6:∀a,oL c.heap.size 355 c a->a.cell? (H s 0)=S (I k):=λa p=>aj (f.1 _ p.Fz) 0;have a7:∀a,oL c.heap.size 355 c a->a.cell? (H s 1)=S (I h):=λa p=>aj (f.1 _ p.Fz) 1;have a8:∀a,oL c.heap.size 355 c a->a.cell? (H s 2)=S (I i):=λa p=>aj (f.1 _ p.Fz) 2;refine iR [11] [12] (oL c.heap.size 355) [[],[],[],[2],[],[4],[2,3,4,5],[0,1,2,3,4,5,6],[0,1,2,3,4,5,6,7],[0,1,2,3,4,5,6,7,8],[0,1,2,3,4,5,6,7,8],[],[0,1,2,3,4,5,6,7,8,9,11],[0,1,2,3,4,5,6,7,8,10]] [.eq 0 (.agg #[u]),.eq 1 (I l),.eq 2 (.slice o d n),.eq 3 (.slice o d d),.eq 4 (.agg #[I k,I h,I i]),.w1 5 (λf a=>∃p,f=.slice (S (H p 0)) 1 1/\aY a p #[I k,I h,I i] 144),.w1 6 (λf a=>∃s p,f=.slice s (d+1) p/\d+1<=p/\p<=maxLen/\Sl 144 3 CC a (.slice s (d+1) p) (g++[⟨k,h,i⟩])),.w1 7 (λf a=>∃p s,f=.tuple #[.agg #[I b,.slice p b s],aI]/\iM b (cP e l (g++[⟨k,h,i⟩])) a (.agg #[I b,.slice p b s])),.w1 8 (λf a=>∃p s,f=.tuple #[.agg #[I b,.slice p b s],aI]/\iM b (cP e l (g++[⟨k,h,i⟩])) a (.agg #[I b,.slice p b s])),.w1 9 (λf a=>∃p s,f=.agg #[I b,.slice p b s]/\iM b (cP e l (g++[⟨k,h,i⟩])) a (.agg #[I b,.slice p b s])),.eq 10 aI,.w1 11 (λf a=>∃p,f=aP p 0/\c.heap.size<=p/\aY a p #[aI,aV] 355),.w2 9 11 (λD f a=>∃s,f=aP s 0/\∃f p,D=.agg #[I b,.slice f b p]/\aY a s #[I b,.slice f b p] 355/\iM b (cP e l (g++[⟨k,h,i⟩])) a (.agg #[I b,.slice f b p])),.w0] [[0],[1],[2],[3],[4],[5],[6],[7],[8],[9],[10],[11],[9,11],[]] Jh kR kR kR Y (λ_ _ _ _ p f=>⟨p.symm.trans f.1,f.2⟩) (λ_ _ f=>oL.of f) (λ_ _ _ f p=>f.trans p) ?hstab ?hstabM (λf=> ?_)
 case hstab=>exact Il
 case hstabM=>
  intro f p;simp only[rB] at p;subst p;all_goals(refine⟨?_,?_,?_,?_,?_,?_,?_,?_,?_,?_,?_,?_,?_,?_,trivial⟩<;>first|exact λf=>absurd Y f|exact λ_ f=>absurd J f|exact λ_ _ f=>absurd J f|exact λ_ _ _ _ _ _ f _=>f|exact λ_ _ _ _ _ _ ⟨f,p,s⟩ t=>⟨f,p,t.obj s J⟩|exact λ_ _ _ _ _ _ ⟨f,p,s,u,w,t⟩ x=>⟨f,p,s,u,w,x.sl t EN J id⟩|exact λ_ _ _ _ _ _ ⟨f,p,s,t⟩ u=>⟨f,p,s,u.gr t⟩|exact λ_ _ _ _ _ _ _ _=>trivial)
 refine⟨?_,?_,?_,?_,?_,?_,?_,?_,?_,?_,?_,?_,?_,?_,?_⟩;any_goals(first|(intro a t p s f;simp only[rY,ξ,SW.eq,SW.lit,SW.sl,SW.no,bG.eq,di,dg] at p f |-;(try simp only[p] at f);go_simp;exact f _ _ rF Y)|fail)
 .intro a t f s p
  simp only[rY,ξ,SW.eq,SW.lit,SW.sl,SW.no,bG.eq,di,dg] at f p |-;try simp only[f] at p
  go_simp;go_at_call 169;refine(Bz o d n a W X).mono ?_;rintro n f ⟨rfl,rfl⟩;exact p _ _ rF Y
 .intro a p n o f
  simp only[rY,ξ,SW.eq,SW.lit,SW.sl,SW.no,bG.eq,di,dg] at n f |-;try simp only[n] at f
  go_simp;exact f _ _ cZ ⟨_,Y,bM Y⟩
 .intro a C f n t
  have p:=f 3 J;have n:=f 5 J;simp only[rY,ξ,SW.eq,SW.lit,SW.sl,SW.no,bG.eq,di,dg] at p n f t |-;obtain⟨n,eB,f⟩:=n;obtain⟨f,B,F⟩:=(eF.block f oC).1.resolve_left sI;obtain rfl:=cI B;rw[aS (by first|rfl|go_simp)];refine pK fX (.tmp 12) (.tmp 14) fX lD d HN.1.symm p (V.f (m.step (r.1 _ C))).clip EN (⟨k,h,i⟩:Ch) eB Y F oC (λ_ _=>Y) O mL ?_;intro o p n f w d R U;exact t _ _ d ⟨_,_,Y,R,U,w.read⟩
 .intro a n d f p
  have f:=d 6 J;simp only[rY,ξ,SW.eq,SW.lit,SW.sl,SW.no,bG.eq,di,dg] at f d p |-;try simp only[d] at p
  obtain⟨o,s,d,-,-,f⟩:=f;simp only[d] at p;go_simp;go_at_call 213;refine(ng e l (g++[⟨k,h,i⟩]) _ _ a (A.fr (m.step (r.1 _ n))) (a1.fr (m.step (r.1 _ n))) f).mono ?_;rintro e d ⟨w,B⟩;rw[aS (by rw[CB.1,G.1];rfl)] at w;obtain⟨D,rfl,t⟩:=w;rw[<-v.1] at t;obtain⟨C,F,rfl⟩:=t.open_;exact p _ _ B ⟨_,_,Y,t⟩
 .intro a g d f e
  have f:=d 7 J;simp only[rY,ξ,SW.eq,SW.lit,SW.sl,SW.no,bG.eq,di,dg] at f d e |-;try simp only[d] at e
  go_simp;exact e _ _ rF f
 .intro a g e f d
  have f:=e 8 J;simp only[rY,ξ,SW.eq,SW.lit,SW.sl,SW.no,bG.eq,di,dg] at f e d |-;try simp only[e] at d
  obtain⟨f,g,e,p⟩:=f;simp only[e] at d;go_simp;exact d _ _ rF ⟨_,_,Y,p⟩
 .intro a g e f d
  have f:=e 8 J;simp only[rY,ξ,SW.eq,SW.lit,SW.sl,SW.no,bG.eq,di,dg] at f e d |-;try simp only[e] at d
  obtain⟨f,g,e,h⟩:=f;simp only[e] at d;go_simp;exact d _ _ rF Y
 .intro a p e f d
  simp only[rY,ξ,SW.eq,SW.lit,SW.sl,SW.no,bG.eq,di,dg] at e d |-;try simp only[e] at d
  go_simp;exact d _ _ cZ ⟨_,Y,p.size,bM Y⟩
 .intro a f d e t
  have g:=d 1 J;have f:=d 9 J;have e:=d 11 J;simp only[rY,ξ,SW.eq,SW.lit,SW.sl,SW.no,bG.eq,di,dg] at g f e d t |-;try simp only[d] at t
  obtain⟨p,d,U,w⟩:=e;obtain⟨B,C,e,a0⟩:=f;simp only[d,e] at t;obtain⟨d,e,f⟩:=oK w;go_simp;have F:oL c.heap.size 355 a ((a.setCell (H p 0) (I b)).setCell (H p 1) (.slice B b C)):=(((Fr.refl (λc=>c=p) _).aK 0 _).aK 1 _).mono (λc _ R=>by subst R;exact⟨U,_,_,w⟩);exact t undef _ F ⟨p,Y,B,C,Y,aD (aD w 0 _) 1 _,F.gr a0⟩
 .intro a f d e c
  simp only[rY,ξ,SW.eq,SW.lit,SW.sl,SW.no,bG.eq,di,dg] at d c |-;try simp only[d] at c
  go_simp;exact c _ _ rF trivial
 intro a e d;have c:=d 12 J J;simp only[rY,ξ,SW.eq,SW.lit,SW.sl,SW.no,bG.eq,di,dg] at c;clear d;simp only[Act.put,rC];obtain⟨h,d,i,k,g,c,f⟩:=c;have p:=(m.step (r.1 _ e));have h:=bx c;have h:=dh c;rw[d];clear e c d g a3 a4 a5 a6 a7 a8;go_wp2_with fail;refine sg (mS b _ (gX a2 v.1) a (A.fr p) _ f) ?_;rintro b a ⟨c,rfl,B,t⟩;have w:=(p.step t);clear t;go_wp2;go_ret;exact⟨_,Y,by rw[<-v.1];exact B,w⟩
def tB(a:Hs)(b:L T):L Ch:=(cQ a).filterMap (xG b)
theorem uS{a:Hs}(b:bm a=γ):tB a e=rj a e:=by unfold tB rj;rw[iX b]
theorem cC.base{b B':E}(a:cC b t q C W x X L1)(c:B'<=b):cC B' t q C W x X L1:=
 ⟨kt a.row (λd b=>bX c (aW a.row b).1),a.len,a.each⟩
theorem Fq(c:Hs)(b:L T)(v w:ζ)(h:ε)(u:eJ h v c)(U:Sl 3 1 CI h w b):
  aQ 221 #[v,w] h λf d=>∃a e,f=.returned a/\cC h.heap.size 144 3 CC d a (tB c b) e/\Fr j h d:=by
 have A:=u;obtain⟨a7,rfl,-⟩:=u;obtain⟨G,P,rfl,W,a6,SP⟩:=U.oH Y;obtain⟨X,d⟩:=M b.length;rw[<-d] at SP W |-;obtain⟨Q,a⟩:=M h.heap.size;have R:=Z a;rw[<-a];clear d a
 delta aQ;go_in
 go_wp2_with fail;refine aZ.nm (λh a=> ?_);have r:=cY a;clear a;refine sg (mR c _ h (A.fr r)) ?_;rintro h p ⟨u,rfl,V,D⟩;have z:=(r.step D);obtain⟨g,a⟩:=M ((cQ c).length);obtain⟨a1,a2,rfl,a4,a5,B⟩:=V.oH a;have HKN:=Z a;have h:g<=16384:=by rw[a];exact jt c
 clear a;go_wp2_with fail;go_loopg [5,13] g (λgk s5 s13 wr=>∃(a:E)(d:L (L ζ)),a+gk=g/\s13=I a/\cC p.heap.size 144 3 CC wr s5 (((cQ c).take a).filterMap (xG b)) d/\Fr j p wr)
 .exact⟨0,[],du,Y,qG,rF⟩
 case round=>
  obtain⟨a,C,a3,rfl,y,x⟩:=hrel;have h:a<=g:=O;obtain⟨n,d⟩:∃e,(((cQ c).take a).filterMap (xG b)).length=e:=⟨_,Y⟩;obtain⟨F,K,rfl,-,-⟩:=y.shape d;have h:n<=16384:=by
   rw[<-d]
   have:=L.length_filterMap_le (xG b) ((cQ c).take a);rw[cV] at this;omega
  have l:=Z d;clear d;by_cases h:a<g
  .obtain⟨a0,m⟩:∃d,(cQ c)[a]? =S d:=⟨_,cF aaq⟩
   obtain⟨h,i,k,r,o,-,-,s⟩:=B.f x;simp only[cM] at o;obtain⟨rfl,-,rfl⟩:=o;obtain rfl:=s.addr m;have h:=Sl.pl s m;obtain⟨f,d,e⟩:=a0;have o:wr.cell? (H i (k+a*3))=S (I f):=h 0 _ Y;have o:wr.cell? (H i (k+a*3+1))=S (I d):=h 1 _ Y;have h:wr.cell? (H i (k+a*3+2))=S (I e):=h 2 _ Y;have t:(((cQ c).take (a+1)).filterMap (xG b)=((cQ c).take a).filterMap (xG b)++(xG b ⟨f,d,e⟩).toList):=(by
    rw[bJ m,L.filterMap_append];cases h:xG b ⟨f,d,e⟩<;>simp[h])
   have⟨g,h⟩:=dy a g;go_upto_region 5 with fail;refine cT (λu i=> ?_);obtain⟨o,h⟩:=M wr.heap.size;rw[<-h];have m:=cY i;have k:=(x.step m);have g:=yY i h;have D:p.heap.size<=o:=(oB x.size);have F:(∀p:E,(ζ.slice F n K).ownBlock=S p->p≠o):=(λs p r=>by
    have:=(aW y.row p).2;obtain⟨r,s,p⟩:=this
    have:=ba p;omega)
   (clear i h;obtain⟨v,h⟩:=M (ix b d);obtain⟨i,YA⟩:=M (ix b e);have p:(xG b ⟨f,d,e⟩=if v<0/\i<0 then η else if v<0\/(0<=i/\i<v) then S ⟨f,e,d⟩ else S ⟨f,d,e⟩):=(by rw[h,YA];rfl));have r:N (∀(r:aX u)(s:T),aQ 91 #[.slice G X P,I s] r.w λw u=>w=.returned (I (ix b s))/\r.w=u):=Z (λr s=>zU _ b s r.w (SP.f (z.step (k.step r.fr))));have s:=aX.cell (aj (g.1 _ rF) 1);have s:=aX.cell (aj (g.1 _ rF) 2);have⟨u,w⟩:=bD h YA;clear h YA;refine bj kR kR ?_;(repeat(go_big_quiet_step ((go_at_call 91;exact aX.rU _ (r.1 _ _)))));refine wpQuiet_nil ?_;intro P h;have h:=bI h;have r:=(k.step h);have s:=((y.f m).f h);have m:=(g.1 _ h);rw[<-u.1,<-w.1];by_cases h:v<0
   .have g:=cD h
    by_cases g:i<0
    .have k:=cD g
     have k:(((cQ c).take (a+1)).filterMap (xG b)=((cQ c).take a).filterMap (xG b)):=(by rw[t,p,aS ⟨h,g⟩];simp);go_wp2;go_roundg (gk-1)
     .exact⟨a+1,C,O,by go_num,by rw[k];exact s,r⟩
     omega
    have k:=bV g;have U:(((cQ c).take (a+1)).filterMap (xG b)=((cQ c).take a).filterMap (xG b)++[⟨f,e,d⟩]):=(by rw[t,p,aR (λk=>g k.2),aS (.inl h)];rfl);obtain⟨g,k,u,w⟩:=mD m;go_upto_region 9 with fail;(refine cT (λw k=> ?_);have u:bT o P w:=by rw[k];exact(rF.aK _ _).aK _ _);(have A:aY w o #[I f,I e,I d] 144:=by rw[k];exact aD (aD m 1 _) 2 _);clear k;obtain⟨g,B,G,-⟩:=mD A;go_wp2_with (at_builtin;refine stop ?_);refine aZ.go (AM (λg g=> ?_));have G:=cY g;have K:=dL g Y;have B:=((r.keep u (λV B=>B▸D)).step G);clear g;refine bH Y (.tmp 48) (.tmp 50) Y lD n l.1 Y ((s.aJ EN u (λW V=>F W V) (λ_ _ V=>V.elim)).f G) EN id (⟨f,e,d⟩:Ch) Y Y (eF.block K.1 oC) (λ_ _=>Y) O mL B.size ?_;intro V W X G K _ _;go_wp2;go_roundg (gk-1)
    .exact⟨a+1,_,O,by go_num,by rw[U];exact G,(K.fr eG B)⟩
    omega
   have B:=bV h;by_cases K:i<0
   .have B:=cD K
    have B:decide (0<=i)=δ:=sO;have V:(((cQ c).take (a+1)).filterMap (xG b)=((cQ c).take a).filterMap (xG b)++[⟨f,d,e⟩]):=(by rw[t,p,aR (λB=>h B.1),aR (λB=>B.elim h (λB=>by omega))];rfl);obtain⟨B,G,U,-⟩:=mD m;go_wp2_with (at_builtin;refine stop ?_);refine aZ.go (AM (λB g=> ?_));have G:=cY g;have U:=dL g Y;have B:=(r.step G);clear g;refine bH Y (.tmp 48) (.tmp 50) Y lD n l.1 Y (s.f G) EN id (⟨f,d,e⟩:Ch) Y Y (eF.block U.1 oC) (λ_ _=>Y) O mL B.size ?_;intro W X a0 G U _ _;go_wp2;go_roundg (gk-1)
    .exact⟨a+1,_,O,by go_num,by rw[V];exact G,(U.fr eG B)⟩
    omega
   have B:=bV K;have B:decide (0<=i)=γ:=sO;by_cases i:i<v
   .have v:=cD i
    have B:(((cQ c).take (a+1)).filterMap (xG b)=((cQ c).take a).filterMap (xG b)++[⟨f,e,d⟩]):=(by rw[t,p,aR (λv=>h v.1),aS (.inr ⟨O,i⟩)];rfl);obtain⟨v,G,K,U⟩:=mD m;go_upto_region 9 with fail;(refine cT (λw k=> ?_);have u:bT o P w:=by rw[k];exact(rF.aK _ _).aK _ _);(have A:aY w o #[I f,I e,I d] 144:=by rw[k];exact aD (aD m 1 _) 2 _);clear k;obtain⟨k,o,v,-⟩:=mD A;go_wp2_with (at_builtin;refine stop ?_);refine aZ.go (AM (λk g=> ?_));have o:=cY g;have v:=dL g Y;have k:=((r.keep u (λw k=>k▸D)).step o);clear g;refine bH Y (.tmp 48) (.tmp 50) Y lD n l.1 Y ((s.aJ EN u (λw u=>F w u) (λ_ _ u=>u.elim)).f o) EN id (⟨f,e,d⟩:Ch) Y Y (eF.block v.1 oC) (λ_ _=>Y) O mL k.size ?_;intro v w A o u _ _;go_wp2;go_roundg (gk-1)
    .exact⟨a+1,_,O,by go_num,by rw[B];exact o,(u.fr eG k)⟩
    omega
   have k:=bV i;have k:(((cQ c).take (a+1)).filterMap (xG b)=((cQ c).take a).filterMap (xG b)++[⟨f,d,e⟩]):=(by rw[t,p,aR (λb=>h b.1),aR (λb=>b.elim h (λb=>i b.2))];rfl);obtain⟨b,h,i,-⟩:=mD m;go_wp2_with (at_builtin;refine stop ?_);refine aZ.go (AM (λb g=> ?_));have h:=cY g;have i:=dL g Y;have b:=(r.step h);clear g;refine bH Y (.tmp 48) (.tmp 50) Y lD n l.1 Y (s.f h) EN id (⟨f,d,e⟩:Ch) Y Y (eF.block i.1 oC) (λ_ _=>Y) O mL b.size ?_;intro f g h d e _ _;go_wp2;go_roundg (gk-1)
   .exact⟨a+1,_,O,by go_num,by rw[k];exact d,(e.fr eG b)⟩
   omega
  have d:((cQ c).take a=cQ c):=(dq aaq);go_wp2;go_ret;exact⟨_,C,Y,by have:=(y.base (B':=Q) (gX z.size R.1));rw[d] at this;rw[<-l.1,d];rw[<-l.1,d] at this;exact this,z.step x⟩
theorem Ia(b:E)(c:L T)(o:ζ)(a:T)(i n:E)(e:ε)(m:Sl 3 1 CI e o c)(k:aY e i #[I b] 3)(l:aY e n #[o] 30):
  dr 203 #[I a,aP i 0,aP n 0] e (.bool (!Kz b c a)):=by
 obtain⟨p,r,rfl,-,-⟩:=m.slice;have e:=bx k;have e:=bx l;obtain⟨g,e⟩:=M (decide (0<=a));obtain⟨h,i⟩:=M (decide (a<(b:T)));have f:N (Kz b c a=((g&&h)&&!c.contains a)):=Z (by rw[Kz,e,i]);have d:N (g=decide (0<=a)/\h=decide (a<(b:T))):=Z ⟨e,i⟩;clear k l e i;cases g
 .have e:decide (a<0)=γ:=by have:=d.1.1;simp at this |-;omega
  delta dr aQ;go_in
  go_wp2;go_ret;exact aM (by rw[f.1];rfl) rF
 have k:decide (a<0)=δ:=by have:=d.1.1;simp at this |-;omega
 cases h
 .have e:decide ((b:T)<=a)=γ:=by have:=d.1.2;simp at this |-;omega
  delta dr aQ;go_in
  go_wp2;go_ret;exact aM (by rw[f.1];rfl) rF
 have b:decide ((b:T)<=a)=δ:=by have:=d.1.2;simp at this |-;omega
 delta dr aQ;go_in
 go_wp2_with fail;refine sg (dC _ c a _ m) ?_;rintro a b ⟨rfl,rfl⟩;go_wp2;go_ret;exact aM (by rw[f.1];simp) rF
theorem Ah(b:E)(c a:L T)(f h:ζ)(d:ε)(k:Sl 3 1 CI d f c)(l:Sl 3 1 CI d h a):
  dr 165 #[I b,f,h] d (.bool (mx b c a)):=by
 have o:N (mx b c a=!c.any (λe=>!Kz b a e)):=Z (by unfold mx;rw[L.not_any_eq_all_not];simp);obtain⟨p,r,rfl,-,-⟩:=l.slice;obtain⟨i,m,rfl,-,-⟩:=k.slice
 delta dr aQ;go_in
 go_wp2_with fail;refine aZ.nm (λm e=> ?_);obtain⟨i,h⟩:=M d.heap.size;obtain⟨f,s⟩:=M (i+1);rw[show d.heap.size+1=f by omega,<-h];have g:=lq e;have n:=qa1 e h;have d:N (∀d,Fr j m d->aY d f #[.slice p a.length r] 30):=Fr.all (by rw[e];exact bM sO);clear e h s;refine sg (ux 203 #[aP i 0,aP f 0] _ c (λc=>!Kz b a c) m (λc e=>by simp[go_sem]) (k.f g) (λm h e k c=>Ia b a _ h i f e (l.f (g.step c)) (n.1 _ c) (d.1 _ c))) ?_;rintro a b ⟨rfl,e⟩;have a:=(g.step e);clear e;go_wp2;go_ret;exact aM (by rw[o.1];try simp) a
def CR(d:ε)(b:L ζ)(c:L T):Prop:=∃a,b=[a]/\Sl 3 1 CI d a c
theorem CR.aJ:dU fS CR:=by
 rintro g i f h x a d ⟨e,b,c⟩;exact⟨e,b,c.aJ iA a (λc b a=>d c b (a.resolve_right id))⟩
instance:SC CR:=⟨_,CR.aJ⟩
theorem fF.rw{a:L (L T)}(d:fF 30 1 CR W A m q a)(f:a[n1]? =S e):∃a,W.cell? (H m (q+n1))=S a/\Sl 3 1 CI W a e:=by
 obtain⟨h,-,⟨g,rfl,b⟩,c⟩:=d.2 n1 e f
 have:=c 0 _ Y;rw[gA] at this;exact⟨g,this,b⟩
theorem Hx(a:e.length<=1):tY e=γ:=by
 match e,a with
 |[],_=>rfl
 |[_],_=>rfl
theorem Lv{a:Hs}{left:L (L T)}{g b c d f q:κ}(n:bm a=g)(h:decide (i1<1)=b)(i:decide (32<i1)=c)(k:decide (max ((a.length:T)-1) 0<(e.length:T))=d)(l:yJ a.length [] e=f)
  (m:(if left.length=0 then e.length==0 else left.length==e.length+1&&jS a.length e 0 left)=q):OG a i1 e left=((g&&(!b&&!c)&&!d)&&f&&q):=by
 unfold OG;rw[n,l,m,<-h,<-i,<-k];have c:decide (1<=i1)=!decide (i1<1):=by
  by_cases b:i1<1
  .rw[cD b,bV O];rfl
  rw[bV b,cD O];rfl
 have b:decide (i1<=32)=!decide (32<i1):=by
  by_cases b:32<i1
  .rw[cD b,bV O];rfl
  rw[bV b,cD O];rfl
 have a:decide (e.length<=a.length-1)=!decide (max ((a.length:T)-1) 0<(e.length:T)):=by
  by_cases a:max ((a.length:T)-1) 0<(e.length:T)
  .rw[cD a,bV O];rfl
  rw[bV a,cD O];rfl
 rw[c,b,a]
theorem xY(b:Hs)(m:T)(d8:κ)(a:List T)(left:List (List T))(f0 f2 f1:ζ)(x:ε)(e2:eJ x f0 b)(i3:Sl 3 1 CI x f2 a)(i0:Sl 30 1 CR x f1 left)(l8:a.length<=1000)(l2:left.length<=1000)(i5:∀e∈left,e.length<=1000):
  dr 123 #[f0,.agg #[I m,.bool d8,f2,f1]] x (.bool (OG b m a left)):=by
 have f8:=e2;obtain⟨n0,rfl,i6⟩:=e2;obtain⟨t,a0⟩:=M b.length;obtain⟨j4,j7,rfl,l7,i2,-⟩:=i6.oH a0;have c8:=Z a0;obtain⟨g,a2⟩:=M a.length;obtain⟨g8,b2,rfl,m2,m3,SP⟩:=i3.oH a2;have HPN:=Z a2;obtain⟨k,c1⟩:=M left.length;obtain⟨g7,h3,rfl,m0,m1,g5⟩:=i0.oH c1;have⟨HRN,g1⟩:=bD c1 i5;have m8:g<=1000:=O;have m9:k<=1000:=O;unfold maxLen at i2;obtain⟨a5,c0⟩:=M (bm b);obtain⟨R,b4⟩:=M (decide (m<1));obtain⟨A,b5⟩:=M (decide (32<m));obtain⟨U,b6⟩:=M (decide (max ((t:T)-1) 0<(g:T)));obtain⟨w,v⟩:=M (yJ b.length [] a);obtain⟨q,b9⟩:=M (if left.length=0 then a.length==0 else left.length==a.length+1&&jS b.length a 0 left)
 have b0:N (OG b m a left=((a5&&(!R&&!A)&&!U)&&w&&q)):=Z (Lv c0.symm b4.symm b5.symm (by rw[<-a0,<-a2];exact b6.symm) v.symm b9.symm);have⟨g0,HP,HQ⟩:=dt c0 v b9;have k0:=b4.symm;have k1:=b5.symm;have k2:=b6.symm;clear a0 a2 c1 b4 b5 b6 v b9 c0
 delta dr aQ;go_in
 go_upto_region 1 with fail;refine cT (λa6 a3=> ?_);obtain⟨j0,b8⟩:=M x.heap.size;obtain⟨e9,i4⟩:=M (j0+1);rw[show x.heap.size+1=e9 by omega,<-b8];have l:=lq a3;have g3:=qa1 a3 b8;have r:N (∀d7,Fr j a6 d7->aY d7 e9 #[I m,.bool d8,.slice g8 g b2,.slice g7 k h3] 61):=Fr.all (by rw[a3];exact bM sO);clear a3 b8 i4;have h1:=bx (g3.1 _ rF);go_wp2_with fail;refine sg (dV b _ a6 (f8.fr l)) ?_;rintro e0 n2 ⟨rfl,Q⟩;rw[<-g0.1];have j6:=bx (r.1 _ Q);have B:=iU (r.1 _ Q);by_cases V:a5=γ/\R=δ/\A=δ/\U=δ
 .obtain⟨rfl,rfl,rfl,rfl⟩:=V
  have RS:N (OG b m a left=(w&&q)):=Z (by rw[b0.1];simp);go_upto_region 4 with fail;go_wp2_with fail;go_loopg [39] g (λgk s39 wr=>∃d,d+gk=g/\s39=I d/\Fr j a6 wr/\w=yJ b.length (a.take d) (a.drop d))
  .exact⟨0,du,Y,Q,by rw[HP.1];rfl⟩
  case round=>
   obtain⟨d,h8,rfl,n,v⟩:=hrel;have⟨HJ,d1⟩:=bD h8 v;have l1:d<=g:=O;clear v;by_cases l3:d<g
   .obtain⟨h,i⟩:=gE a d yW
    obtain⟨g6,g9,i9,h0,C,-,-,u⟩:=SP.f (l.step n);simp only[cM] at C;obtain⟨rfl,-,rfl⟩:=C;obtain rfl:=u.addr i;have d9:=u.int i;have B:=λi8=>iU (r.1 _ (n.alloc i8));have f9:N (w=(Kz b.length (a.take d) h&&yJ b.length (a.take (d+1)) (a.drop (d+1)))):=Z (by rw[d1.1,gF i,yJ,bJ i]);have⟨h6,h7⟩:=dy d g;have l0:(d:T)<=(b2:T):=O;go_wp2_with fail;refine aZ.nm (λf3 c2=> ?_);have g4:Sl 3 1 CI f3 (.slice (S (H wr.heap.size 0)) 1 1) [h]:=(cC.lit (B:=0) (n:=1) (C:=CI) (m:=1) (xs:=[h]) (L:=[cW h]) (by rw[c2];exact bM Y) nG Y J Y Y (λi7 j9 K e5 p=>by
     (have h9:i7=0:=by have:=(cj.1 p).1;simpa using this);subst h9;simp at e5 p;subst e5 p;exact⟨Y,Y⟩)).read
    have c4:=(n.step (cY c2));clear c2;refine sg (Ah t [h] (a.take d) _ _ f3 g4 ((SP.f (l.step c4)).take yW)) ?_;rintro e0 n3 ⟨rfl,D⟩;have c5:=(c4.step D);clear D;obtain⟨s,o⟩:=M (Kz t (a.take d) h);rw[show mx t [h] (a.take d)=s by rw[o];simp[mx]];have d2:N (w=(s&&yJ b.length (a.take (d+1)) (a.drop (d+1)))):=Z (by rw[f9.1,o,c8.1]);clear o;cases s
    .go_wp2
     go_ret;exact aM (by rw[RS.1,d2.1];rfl) (l.step c5)
    go_wp2;go_roundg (gk-1)
    .exact⟨d+1,oB HJ.1,by go_num,c5,by rw[d2.1];rfl⟩
    have:=HJ.1;omega
   have PT:N (w=γ):=Z (by rw[d1.1,dY yW];rfl);have RQ:N (OG b m a left=q):=Z (by rw[RS.1,PT.1];rfl);have B:=iU (r.1 _ n);have h2:=iT (r.1 _ n);by_cases G:k=0
   .subst G
    have z:N (q=(g==0)):=Z (by rw[HQ.1,aS HRN.1.symm,<-HPN.1]);by_cases b7:g=0
    .subst b7
     go_wp2;go_ret;exact aM (by rw[RQ.1,z.1];rfl) (l.step n)
    have f6:((g:T)==0)=δ:=sU b7;have c3:(g==0)=δ:=sU b7;go_wp2;go_ret;exact aM (by rw[RQ.1,z.1,c3]) (l.step n)
   have f6:((k:T)==0)=δ:=sU G;have c3:(k==0)=δ:=sU G;have z:N (q=(k==g+1&&jS b.length a 0 left)):=Z (by rw[HQ.1,aR (by rw[<-HRN.1];exact G),<-HPN.1,<-HRN.1]);by_cases X:k=g+1
   .have f7:((k:T) !=(g:T)+1)=δ:=sO
    have b1:N (OG b m a left=jS b.length a 0 left):=Z (by rw[RQ.1,z.1,X];simp);have c7:=Z X;clear X G;go_upto_region 14 with fail;go_wp2_with fail;go_loopg [73] k (λgk s73 wr=>∃c,c+gk=k/\s73=I c/\Fr j a6 wr/\jS b.length a 0 left=jS b.length a c (left.drop c))
    .exact⟨0,du,Y,n,Y⟩
    case round=>
     obtain⟨c,e3,rfl,P,e7⟩:=hrel;have⟨c9,d3⟩:=bD e3 e7;have k8:c<=k:=O;clear e3 e7 B h2 f6 c3 f7;obtain⟨h5,rfl⟩:=M gk;by_cases l4:c<k
     .obtain⟨e,i⟩:∃h,left[c]? =S h:=⟨_,cF vj⟩
      (obtain⟨g6,g9,i9,h0,C,-,-,u⟩:=g5.f (l.step P);simp only[cM] at C;obtain⟨rfl,-,rfl⟩:=C;obtain rfl:=u.addr i;obtain⟨n1,d9,e8⟩:=u.rw i;obtain⟨lw,a1⟩:=M e.length;obtain⟨j5,j8,rfl,m4,m5,SR⟩:=e8.oH a1;have a8:=Z a1;have m6:lw<=1000:=by rw[a1];exact g1.1 e (bQ i));have d4:N (jS b.length a 0 left=((tY e&&mx b.length e (a.take c))&&jS b.length a (c+1) (left.drop (c+1)))):=Z (by rw[d3.1,gF i,jS]);have⟨h6,h7⟩:=dy c k;have k7:(c:T)<=(b2:T):=oB c7.1;have k9:c<=g:=oB c7.1;clear i u e8 a1;go_wp2_with fail;go_loopg [10] lw (λgk s10 j2=>∃f,f+gk=lw/\s10=I ((f:T)+1)/\Fr j wr j2/\tY e=tY (e.drop f))
      .exact⟨0,du,Y,rF,Y⟩
      case round=>
       obtain⟨f,e6,rfl,y,e4⟩:=hrel;have⟨HM,d0⟩:=bD e6 e4;have l6:f<=lw:=O;clear e6 e4 d9;by_cases l5:f+1<lw
       .obtain⟨h,i⟩:=gE e f (oB a8.1)
        obtain⟨K,p⟩:∃h,e[f+1]? =S h:=⟨_,cF (oB a8.1)⟩;rename_i n5;obtain⟨j3,A,m7,h1,e1,-,-,W⟩:=SR.f y;simp only[cM] at e1;obtain⟨rfl,-,rfl⟩:=e1;obtain rfl:=W.addr i;have f4:=aX.cell (W.int i);have f5:=aX.cell (W.int p);have d6:N (tY e=(decide (h<K)&&tY (e.drop (f+1)))):=Z (by rw[d0.1,gF i,gF p];rfl);have i1:decide ((f:T)+1<(lw:T))=γ:=sO;have⟨k3,k4⟩:=dy f lw;have k5:(0:T)<=(f:T)+1:=O;have k6:(f:T)+1<(lw:T):=O;have l9:(f:T)+1-1=(f:T):=O;clear i p W;by_cases a4:h<K
        .have h4:decide (K<=h)=δ:=sO
         have a9:N (tY e=tY (e.drop (f+1))):=Z (by rw[d6.1,cD a4];rfl);clear a4;go_wp2_with fail;refine bj kR kR ?_;(repeat(go_big_quiet_step (fail)));refine wpQuiet_nil ?_;intro j1 F;have b3:=(bI F);clear F f4 f5;go_wp2;go_roundg (gk-1)
         .exact⟨f+1,oB HM.1,by go_num,y.step b3,a9.1⟩
         have:=HM.1;omega
        have h4:decide (K<=h)=γ:=sO;have a9:N (tY e=δ):=Z (by rw[d6.1,bV a4];rfl);clear a4;go_wp2_with fail;refine bj kR kR ?_;(repeat(go_big_quiet_step (fail)));refine wpQuiet_nil ?_;intro j1 F;have b3:=(bI F);clear F f4 f5;go_wp2;go_ret;exact aM (by rw[b1.1,d4.1,a9.1];rfl) (l.step (P.step (y.step b3)))
       have i1:decide ((f:T)+1<(lw:T))=δ:=sO;have g2:N (tY e=γ):=Z (by rw[d0.1];exact Hx (by simp;have:=a8.1;omega));have a7:=(P.step y);have B:=iU (r.1 _ a7);go_wp2_with fail;clear B;refine sg (Ah t e (a.take c) _ _ _ (SR.f y) ((SP.f (l.step a7)).take yW)) ?_;rintro e0 n4 ⟨rfl,D⟩;have c6:=(a7.step D);clear D;obtain⟨s,o⟩:=M (mx t e (a.take c));rw[<-o];have d5:N (jS b.length a 0 left=(s&&jS b.length a (c+1) (left.drop (c+1)))):=Z (by rw[d4.1,g2.1,o,c8.1];rfl);clear o;cases s
       .go_wp2
        go_ret;exact aM (by rw[b1.1,d5.1];rfl) (l.step c6)
       go_wp2;go_roundg (h5-1)
       .exact⟨c+1,oB c9.1,by go_num,c6,by rw[d5.1];rfl⟩
       have:=c9.1;omega
     have RT:N (jS b.length a 0 left=γ):=Z (by rw[d3.1,dY vj];rfl);go_wp2;go_ret;exact aM (by rw[b1.1,RT.1]) (l.step P)
   have f7:((k:T) !=(g:T)+1)=γ:=sO;go_wp2;go_ret;exact aM (by rw[RQ.1,z.1];simp[X]) (l.step n)
 have RS:N (OG b m a left=δ):=Z (by rw[b0.1];cases a5<;>cases R<;>cases A<;>cases U<;>simp at V |-);clear b0;cases a5<;>cases R<;>cases A<;>cases U<;>first|exact absurd ⟨Y,Y,Y,Y⟩ V|(clear V;go_wp2;go_ret;exact aM RS.1.symm (l.step Q))
theorem cC.put{g f l k i:E}{x:α}{u:ζ}{h:TypeId->Prop}(s:dU h C)(v:¬h t)(a:cC g t n3 C W (.slice (S (H f 0)) X.length l) X L1)(d:L1[k]? =S Y1)(h:i<n3)
  (n:Fr j (W.setCell (H f (k*n3+i)) u) V)(y:C V (Y1.set i u) x):cC g t n3 C V (.slice (S (H f 0)) X.length l) (X.set k x) (L1.set k (Y1.set i u)):=by
 obtain⟨f,r⟩:=a.row.stored (k*n3+i) u;refine⟨by rw[Cd a.lens d h,dN];exact n.owns f (λ_ _ x=>x),by simp[a.len],λo m p c e=> ?_⟩;by_cases b:k=o
 .subst b
  rw[jU (cj.1 d).1] at c;rw[jU (gX ((cj.1 d).1) a.len)] at e;obtain rfl:=cI c;obtain rfl:=cI e;exact⟨by simp[(a.lens Y1 (bQ d))],y⟩
 rw[lQ b] at c e;obtain⟨d,f⟩:=a.each o m p c e;refine⟨d,s _ W _ m p ((gJ r).step n) (λc q w c b=> ?_) f⟩;exact c.ne ((aW a.row Y).2) (λb=>v (by subst b;exact w)) (sU b.symm)
theorem Nq(a:m=X.length)(a:q<m)(a:X[q]? =S x2):(X.take q++L.replicate (m-q) x1).set q x2=X.take (q+1)++L.replicate (m-(q+1)) x1:=by
 rw[vJ _ _ sO];have:q-(X.take q).length=0:=sO;rw[this,bJ a,show m-q=(m-(q+1))+1 by omega,sF];simp
theorem Zd:¬fS 30:=by unfold fS;decide
theorem Oq(b:ζ)(a:E):(madeCells #[b] a).toList=L.replicate a b:=by simp[madeCells,E.mod_one,L.map_const']
theorem Ut:(L.replicate m [x]).flatten=L.replicate m x:=by
 induction m with
 |zero=>rfl
 |succ m a=>rw[sF,sF,oq,a];rfl
theorem Bq{c:Obj}{a:Addr}(b:a.block<W.heap.size):Fr j (W.setCell a x) ((W.drew.alloc c).setCell a x):=by
 refine⟨Y,Y,Y,by simp[ε.setCell],λb a _=> ?_⟩;simp only[ε.setCell,ε.alloc,tA] at a |-;rw[vB,vB];have a:(W.drew.heap.push c)[b]? =W.heap[b]? :=by
  show(W.heap.push c)[b]? =_;rw[θ.getElem?_push_lt a,ju a]
 rw[a]
theorem Sj(a:W.cell? (H m q)=S x)(b:fE t W m):(W.setCell (H m q) v1).cell? (H m q)=S v1:=by
 obtain⟨c,d,b⟩:=b;rw[aj b] at a;rw[aj (aD b q v1),vG (fJ.1 a).1]
theorem ZN(b:aY W m ((e.map cW).flatten).toArray 3)(d:q=e.length)(c:q<=maxLen):Sl 3 1 CI W (.slice (S (H m 0)) q q) e:=
 (cC.lit (B:=0) (n:=1) (C:=CI) (m:=q) (xs:=e) (L:=e.map cW) b nG d c sI sI (λd c f a b=>by
  rw[fN,b] at a;obtain rfl:=cI a;exact⟨Y,Y⟩)).read
theorem wE(i:T)(h:κ)(o:L T)(left:L (L T))(c1 c0:ζ)(l:ε)(e2:Sl 3 1 CI l c1 o)(d4:Sl 30 1 CR l c0 left)(f4:o.length<=1000)(f4:left.length<=1000)(e3:∀a∈left,a.length<=1000):
  aQ 219 #[.agg #[I i,.bool h,c1,c0]] l λg a=>∃b d c e f,g=.returned (.agg #[I i,.bool h,.slice b o.length d,.slice c left.length e])/\Sl 3 1 CI a (.slice b o.length d) o/\cC l.heap.size 30 1 CR a (.slice c left.length e) left f/\Fr j l a:=by
 obtain⟨d,e⟩:=M o.length;obtain⟨G,P,rfl,f7,f8,f0⟩:=e2.oH e;obtain⟨b,f⟩:=M left.length;obtain⟨F,K,rfl,f5,f6,e9⟩:=d4.oH f;rw[<-e,<-f];have⟨HPN,HRN⟩:=bD e f;have e7:d<=1000:=O;have e8:b<=1000:=O;have c0:(prog.info? 61).map (·.size)=S 4:=kR;have HI:=Z c0;have Gg:(prog.info? 30).map (λa=>(a.zero,a.size,a.bytes))=S (S aV,1,24):=kR;have b6:N (∀(c:E)(a:ε),c<=1000->(Instr.makeSlice 30 (I c) (I c)).run prog a=.ok (.slice (S (H a.heap.size 0)) c c) (a.alloc (.cells (madeCells #[aI] c) 3))):=Z (λc a g=>by
  obtain⟨p,g,k,m,n⟩:=lV Kq
  have:=run_make (P:=prog) (w:=a) 30 3 p aI underlying30 g k .i64 .i64 c c O O (by rw[n];omega) O;simpa[m,ζ.cells] using this)
 have e1:N (∀(c:E)(a:ε),c<=1000->(Instr.makeSlice 59 (I c) (I c)).run prog a=.ok (.slice (S (H a.heap.size 0)) c c) (a.alloc (.cells (madeCells #[aV] c) 30))):=Z (λc a g=>by
  obtain⟨p,g,k,m,n⟩:=lV Gg
  have:=run_make (P:=prog) (w:=a) 59 30 p aV underlying59 g k .i64 .i64 c c O O (by rw[n];omega) O;simpa[m,ζ.cells] using this)
 clear e f
 delta aQ;go_in
 go_upto_region 1 with fail;refine cT (λe c=> ?_);obtain⟨k,f⟩:=M l.heap.size;obtain⟨t,g⟩:=M (k+1);rw[show l.heap.size+1=t by omega,<-f];have v:=fa2 c;have n:N (∀a,Fr j e a->a.heap[k]? =S (.cells #[I i,.bool h,.slice G d P,.slice F b K] 61 (0,0))):=Fr.all (by rw[c];exact aC (bM f) _);have d0:N (∀a,Fr j e a->a.heap[t]? =S (.cells #[aI,.bool δ,aV,aV] 61 (0,0))):=Fr.all (by rw[c];exact bM sO);have b1:N (l.heap.size<=t/\e.heap.size=t+1):=Z (by rw[c];simp;omega);clear c f g;have c0:∀a,oL e.heap.size 61 e a->a.cell? (H k 0)=S (I i):=λa c=>aj (n.1 _ c.Fz) 0;have c0:∀a,oL e.heap.size 61 e a->a.cell? (H k 1)=S (.bool h):=λa c=>aj (n.1 _ c.Fz) 1;have c0:∀a,oL e.heap.size 61 e a->a.cell? (H k 2)=S (.slice G d P):=λa c=>aj (n.1 _ c.Fz) 2;have c0:∀a,oL e.heap.size 61 e a->a.cell? (H k 3)=S (.slice F b K):=λa c=>aj (n.1 _ c.Fz) 3;refine iR [13] [14] (oL e.heap.size 61) [[],[0],[],[2],[],[4],[4,5],[4,5,6],[],[8],[8,9],[8,9,10],[0,1,2,3,4,5,6,7,8,9,10,11],[],[0,1,2,3,4,5,6,7,8,9,10,11,12,13]] [.eq 0 (aP k 0),.eq 1 (I i),.eq 2 (aP k 1),.eq 3 (.bool h),.eq 4 (aP k 2),.eq 5 (.slice G d P),.eq 6 (I d),.w1 7 (λg a=>∃c,g=.slice (S (H c 0)) d d/\a.heap[c]? =S (.cells (madeCells #[aI] d) 3 (0,0))/\e.heap.size<=c),.eq 8 (aP k 3),.eq 9 (.slice F b K),.eq 10 (I b),.w1 11 (λg a=>∃c,g=.slice (S (H c 0)) b b/\a.heap[c]? =S (.cells (madeCells #[aV] b) 30 (0,0))/\e.heap.size<=c),.w1 12 (λg a=>∃c f,g=.agg #[I i,.bool h,.slice (S (H c 0)) d d,.slice (S (H f 0)) b b]/\(a.heap[c]? =S (.cells (madeCells #[aI] d) 3 (0,0))/\e.heap.size<=c)/\(a.heap[f]? =S (.cells (madeCells #[aV] b) 30 (0,0))/\e.heap.size<=f)),.w1 13 (λg a=>∃c,g=aP c 0/\e.heap.size<=c/\a.heap[c]? =S (.cells #[aI,.bool δ,aV,aV] 61 (0,0))),.w2 12 13 (λg c0 a=>∃m,c0=aP m 0/\e.heap.size<=m/\∃c f,g=.agg #[I i,.bool h,.slice (S (H c 0)) d d,.slice (S (H f 0)) b b]/\a.heap[m]? =S (.cells #[I i,.bool h,.slice (S (H c 0)) d d,.slice (S (H f 0)) b b] 61 (0,0))/\(a.heap[c]? =S (.cells (madeCells #[aI] d) 3 (0,0))/\e.heap.size<=c)/\(a.heap[f]? =S (.cells (madeCells #[aV] b) 30 (0,0))/\e.heap.size<=f))] [[0],[1],[2],[3],[4],[5],[6],[7],[8],[9],[10],[11],[12],[13],[12,13]] Jh kR kR kR Y (λ_ _ _ _ f c=>⟨f.symm.trans c.1,c.2⟩) (λ_ _ c=>oL.of c) (λ_ _ _ c f=>c.trans f) ?hstab ?hstabM (λc=> ?_)
 case hstab=>refine⟨?_,?_,?_,?_,?_,?_,?_,?_,?_,?_,?_,?_,?_,?_,?_,trivial⟩<;>first|exact Lu|exact λ_ _ _ ⟨c,f,p,r⟩ m=>⟨c,f,m.aB p id,r⟩|exact λ_ _ _ ⟨f,m,p,⟨r,u⟩,s,w⟩ c=>⟨f,m,p,⟨c.aB r id,u⟩,c.aB s id,w⟩|exact λ_ _ _ ⟨c,f,r,p⟩ m=>⟨c,f,r,m.aB p id⟩|exact λ_ _ _ ⟨p,r,w,f,m,s,u,⟨a2,y⟩,x,z⟩ c=>⟨p,r,w,f,m,s,c.aB u id,⟨c.aB a2 id,y⟩,c.aB x id,z⟩
 case hstabM=>
  intro f c;simp only[rB] at c;subst c;all_goals(refine⟨?_,?_,?_,?_,?_,?_,?_,?_,?_,?_,?_,?_,?_,?_,?_,trivial⟩<;>first|exact wZ|exact λ_ _ _ _ _ _ ⟨c,f,m,p⟩ r=>⟨c,f,r.obj m J,p⟩|exact λ_ _ _ _ _ _ ⟨f,m,p,⟨r,u⟩,s,w⟩ c=>⟨f,m,p,⟨c.obj r J,u⟩,c.obj s J,w⟩)
 refine⟨?_,?_,?_,?_,?_,?_,?_,?_,?_,?_,?_,?_,?_,?_,?_,?_⟩;any_goals(first|(intro a p f m c;simp only[rX,ξ] at f c |-;(try simp only[f] at c);go_simp;exact c _ _ rF Y)|fail)
 .refine IG ?_
  intro a f m c;have m:=b6.1 d a e7;go_simp;exact c _ _ cZ ⟨_,Y,bM Y,f.size⟩
 .refine IG ?_
  intro a f m c;have m:=e1.1 b a e8;go_simp;exact c _ _ cZ ⟨_,Y,bM Y,f.size⟩
 .refine rb3 1 7 11 ?_
  intro a w s c u m f;obtain⟨s,m,p⟩:=m;obtain⟨s,f,r⟩:=f;simp only[m,f] at c;go_simp;exact c _ _ rF ⟨_,_,Y,p,r⟩
 .refine IG ?_
  intro a f m c;go_simp;exact c _ _ cZ ⟨_,Y,f.size,bM Y⟩
 .intro a x c w f
  have C:=c 1 J;have w:=c 12 J;have x:=c 13 J;simp only[rX,ξ] at C w x c f |-;try simp only[c] at f
  obtain⟨u,x,y,m⟩:=x;obtain⟨r,s,c,z,A⟩:=w;simp only[x,c] at f;obtain⟨c,w,x,C,D⟩:=gZ m;go_simp;have p:oL e.heap.size 61 a (gN a u (I i) (.bool h) (.slice (S (H r 0)) d d) (.slice (S (H s 0)) b b)):=(bC _ _ _ _ _ _).mono (λc _ B=>by subst B;exact⟨y,_,_,m⟩);exact f undef _ p ⟨u,Y,y,r,s,Y,bP m _ _ _ _,⟨p.obj z.1 J,z.2⟩,p.obj A.1 J,A.2⟩
 refine re1 14 ?_;intro a c1 c0;obtain⟨R,c0,d3,p,f,d4,r,y,a3⟩:=c0;have V:N (Fr j e a):=Z c1.Fz;rw[c0];obtain⟨c0,e5⟩:=M a;subst e5;have c0:p≠f:=λc=>by rw[c] at y;rw[a3.1] at y;simp at y
 have c1:R≠p:=λc=>by rw[c] at r;rw[y.1] at r;simp at r
 have d4:R≠f:=λc=>by rw[c] at r;rw[a3.1] at r;simp at r
 have⟨a7,a5,u,w⟩:=gB r y a3 (And.intro c0 (And.intro c1 (And.intro d4 d3)));have c2:=iU a7.1;have r:=iU (n.1 _ V.1);have r:(prog.info? 3).map (·.size)=S 1:=kR;have b0:=Z r;go_wp2_with (refine kQ Y (.tmp 20) (.tmp 22) Y (elem:=3) underlying30 b0.1 (g:=p) (n:=d) Y Y a5.1.1 (ns _ _) (o.map cW).flatten ?c1 ?c2 ?c3)
 case c1=>rw[iw (n:=1) (λm c=>by obtain⟨s,_,rfl⟩:=dE.1 c;rfl),eo,HPN.1,gA]
 case c2=>
  obtain⟨r,x,z,y,c,-,-,s⟩:=f0.f (v.1.step V.1);simp only[cM] at c;obtain⟨rfl,-,rfl⟩:=c;exact s.src (λ_=>Y) (λr c m=>by simp[cW] at m;subst m;rfl)
 case c3=>
 intro A y r;have C:N (Fr j e A):=Z (V.1.keep r (λm c=>c▸a5.1.2));have c5:N (A.heap[R]? =S (.cells #[I i,.bool h,.slice (S (H p 0)) d d,.slice (S (H f 0)) b b] 61 (0,0))):=Z (r.aB a7.1 w.1.2.1);have c4:=Z (r.aB u.1.1 w.1.1.symm);have c9:N (A.heap[p]? =S (.cells ((o.map cW).flatten).toArray 3 (0,0))):=Z y;have o:=iT (n.1 _ C.1);go_wp2_with fail;go_loopg [27] b (λgk s27 wr=>∃(c:E)(m:L (L ζ)),c+gk=b/\s27=I c/\bT f A wr/\cC e.heap.size 30 1 CR wr (.slice (S (H f 0)) b b) (left.take c++L.replicate (b-c) []) m)
 .refine⟨0,L.replicate b [aV],du,Y,rF,?_⟩
  refine cC.lit c4.1 u.1.2 sI mL (by rw[Oq,Ut]) sI (λm c g d9 s=> ?_);simp only[L.take_zero,eW,E.sub_zero] at s;obtain rfl:=L.eq_of_mem_replicate (bQ d9);obtain rfl:=L.eq_of_mem_replicate (bQ s);exact⟨Y,_,Y,dJ⟩
 case round=>
  obtain⟨c,D,d8,rfl,z,b7⟩:=hrel;have⟨a8,U,a0⟩:=dt d8 z b7;have o:c<=b:=O;have a1:N (Fr j l wr):=Z ((v.1.step C.1).keep z (λl m=>by subst m;have:=u.1.2;have:=v.1.size;omega));have f3:N (wr.heap[k]? =S (.cells #[I i,.bool h,.slice G d P,.slice F b K] 61 (0,0))):=Z (z.aB (n.1 _ C.1) (λm=>by subst m;have:=ba (n.1 _ rF);have:=u.1.2;omega));have x:N (wr.heap[t]? =S (.cells #[aI,.bool δ,aV,aV] 61 (0,0))):=Z (z.aB (d0.1 _ C.1) (λm=>by subst m;have:=b1.1.2;have:=u.1.2;omega));have B:=Z (z.aB c5.1 w.1.2.2.1);by_cases e0:c<b
  .obtain⟨Q,s⟩:∃g,left[c]? =S g:=⟨_,cF vj⟩
   (obtain⟨k,l,o,n,W,-,-,X⟩:=e9;simp only[cM] at W;obtain⟨rfl,-,rfl⟩:=W;obtain rfl:=X.addr s;obtain⟨l,k,a4⟩:=X.rw s;have k:=a1.1.aF k id;obtain⟨lw,m⟩:=M Q.length;obtain⟨a6,b2,rfl,b3,b4,f1⟩:=a4.oH m;have a9:=Z m;have e6:lw<=1000:=by rw[m];exact e3 Q (bQ s));have k:(left.take c++L.replicate (b-c) [])[c]? =S []:=by
    rw[iV (by rw[cV];have:=HRN.1;omega),L.getElem?_replicate,aS (by rw[cV];have:=HRN.1;omega)]
   (have b5:(left.take c++L.replicate (b-c) []).length=b:=by simp;have:=HRN.1;omega);obtain⟨k,l,b2,b3,d5,d7,-,d6,b4,-,n⟩:=(show cC e.heap.size 30 1 CR wr (.slice (S (H f 0)) (left.take c++L.replicate (b-c) []).length b) (left.take c++L.replicate (b-c) []) D by rw[b5];exact b7).at k;simp only[cM,fZ,Addr.mk.injEq] at b3;obtain⟨⟨rfl,-⟩,-⟩:=b3;obtain⟨b9,e4⟩:∃k,b2=[k]:=by
    match b2,d7 with
    |[k],_=>exact⟨k,Y⟩
   (subst e4;have l:wr.cell? (H f c)=S b9:=by have:=d6 0 _ Y;rwa[gA,fI] at this);(have k:∀k,(wr.alloc k).cell? (H f c)=S b9:=λk=>((Fr.refl j wr).alloc k).aF l id;have k:wr.frozen? (H f c)=δ:=b4 _;have k:∀k,(wr.alloc k).frozen? (H f c)=δ:=λk=>by rw[((Fr.refl j wr).alloc k).frozen (p:=(H f c)) (vL wr _ l) id];exact b4 _);have⟨c7,HLN⟩:=bD d5 b5;have o:N (f<wr.heap.size):=Z (vL wr _ l);have c3:=iT B.1;have k:=λk=>iT (aC B.1 k);have a:=λa=>b6.1 lw a e6;have⟨a,k⟩:=dy c b;clear m;go_upto_region 6 with fail;go_region;refine Xk (λn k=> ?_);obtain⟨m,a⟩:=M wr.heap.size;rw[<-a] at k;have X:N (Fr j (wr.setCell (H f (c*1+0)) (.slice (S (H m 0)) lw lw)) n):=Z (by rw[k,gA,fI];exact Bq o.1);have W:N (bT f wr n):=Z (((Fr.refl (λr=>r=f) wr).aK _ _).step X.1);have o:N (n.heap[m]? =S (.cells (madeCells #[aI] lw) 3 (0,0))):=Z (by rw[k];exact bi (bM (sU a)) _ (λr=>by have:=o.1;simp at r;omega) _);have a6:=Z a;have l:n.cell? (H f c)=S (.slice (S (H m 0)) lw lw):=by
    (have a2:(wr.setCell (H f (c*1+0)) (.slice (S (H m 0)) lw lw)).cell? (H f c)=S (.slice (S (H m 0)) lw lw):=by rw[gA,fI];exact Sj l (aW a0.1.row Y).2);exact X.1.aF a2 id
   have l:=iT (W.1.aB B.1 w.1.2.2.1);clear k a;go_wp2_with (refine kQ Y (.tmp 43) (.tmp 44) Y (elem:=3) underlying30 b0.1 (g:=m) (n:=lw) Y Y o.1 (ns _ _) (Q.map cW).flatten ?c1 ?c2 ?c3)
   case c1=>rw[iw (n:=1) (λa a4=>by obtain⟨b8,_,rfl⟩:=dE.1 a4;rfl),eo,a9.1,gA]
   case c2=>
    obtain⟨c8,d1,f2,d2,a4,-,-,c6⟩:=f1.f (a1.1.keep W.1 (λa b8=>by subst b8;have:=u.1.2;have:=v.1.size;omega));simp only[cM] at a4;obtain⟨rfl,-,rfl⟩:=a4;exact c6.src (λ_=>Y) (λk a b8=>by simp[cW] at b8;subst b8;rfl)
   case c3=>
   intro b8 d2 a4;have c8:N (cC e.heap.size 30 1 CR b8 (.slice (S (H f 0)) b b) (left.take (c+1)++L.replicate (b-(c+1)) []) (D.set c [.slice (S (H m 0)) lw lw])):=Z (by
    have:=(show cC e.heap.size 30 1 CR wr (.slice (S (H f 0)) (left.take c++L.replicate (b-c) []).length b) _ D by rw[HLN.1];exact a0.1).put (k:=c) (i:=0) (u:=.slice (S (H m 0)) lw lw) (x:=Q) CR.aJ Zd c7.1 J (X.1.keep a4 (λa c6=>by subst c6;have:=a6.1;simp[ε.setCell];omega)) ⟨_,Y,ZN d2 a9.1 mL⟩;rw[HLN.1,Nq HRN.1 e0 s] at this;exact this)
   have c6:N (bT f A b8):=Z ((U.1.trans W.1 (λ_ _ g=>g) (λ_ _ g=>g)).trans a4 (λ_ _ g=>g) (λe a d1=>by subst d1;have:=a6.1;have:=U.1.size;omega));go_wp2;go_roundg (gk-1)
   .exact⟨c+1,_,oB a8.1,by go_num,c6.1,c8.1⟩
   have:=a8.1;omega
  have a4:N (left.take c++L.replicate (b-c) []=left):=Z (by rw[dq vj,show b-c=0 by omega];simp);obtain⟨a,c,e,g,-⟩:=gZ B.1;obtain⟨a,c,e,g,k⟩:=gZ x.1;have X:=Z (U.1.aB c9.1 w.1.1);go_wp2;have m:=bC wr t (I i) (.bool h) (.slice (S (H p 0)) d d) (.slice (S (H f 0)) b b);refine aO (bO Y _ _ _ t 61 _ (0,0) _ Y (bP x.1 (I i) (.bool h) (.slice (S (H p 0)) d d) (.slice (S (H f 0)) b b)) Y underlying61 tZ) Y ⟨_,_,_,_,D,Y,Sl.past (ZN X.1 HPN.1 mL) iA m x.1 J id,?_,a1.1.keep m (λb a=>a▸b1.1.1)⟩;have Q:=a0.1;rw[a4.1] at Q;exact(Q.aJ CR.aJ m (λa a6 W=>by subst W;exact(aW Q.row a6).2.ne ⟨_,_,x.1⟩ J Y) (λb a W b3 a6=>by subst a6;exact b3.ne ⟨_,_,x.1⟩ (λb2=>by subst b2;unfold fS at W;revert W;decide) Y)).base v.1.size
def Qb(g:TypeId)(e:ζ)(q c:E)(f:TypeId)(a b:ε):Prop:=Fr (λd=>e.ownBlock=S d) a b/\(∀d,e.ownBlock=S d->fE g a d)/\iW q c (c+1) f a b
def Jn(q c:E)(d:TypeId)(a b:ε):Prop:=bT q a b/\fE d a q/\iW q c (c+1) d a b
def zf(f:ζ)(q c:E)(e:TypeId)(a b:ε):Prop:=Fr (λd=>f.ownBlock=S d\/d=q) a b/\iW q c (c+1) e a b
theorem zf.of{q b:E}(a:Fr j W V):zf x q b t W V:=⟨a.mono (λ_ _ b=>b.elim),iW.apart a id⟩
theorem zf.trans{q a:E}(b:zf x q a t W V)(c:zf x q a t V U):zf x q a t W U:=⟨b.1.tr c.1,b.2.trans c.2⟩
theorem zf.app{d c:TypeId}{q a:E}(b:Qb d x q a c W V):zf x q a c W V:=⟨b.1.mono (λ_ _ a=>.inl a),b.2.2⟩
theorem zf.sto{q a:E}(b:Jn q a t W V):zf x q a t W V:=⟨b.1.mono (λ_ _ a=>.inr a),b.2.2⟩
theorem zf.ma{i c:TypeId}{q b e f:E}{a:E->ε->ε->Prop}(g:a e=Qb i x q b c)(h:a f=Jn q b c):∀i∈[e,f],∀d e,a i d e->zf x q b c d e:=λe a b c d=>by
 simp only[rB] at a;rcases a with rfl|rfl
 .exact .app (g▸d)
 exact .sto (h▸d)
theorem zf.obj{e a:TypeId}{q d b:E}{c:θ ζ}(f:zf x q d e W V)(d:W.heap[b]? =S (.cells c a f1))(g:b≠q){e:TypeId}(i:W.ownsRow m e n1 x n2 Y1)(h:e≠a):V.heap[b]? =S (.cells c a f1):=
 f.1.aB d (λa=>a.elim (λa=>(aW i a).2.ne ⟨_,_,d⟩ h Y) g)
section
variable {α:Type} {C:ε->L ζ->α->Prop} {T:TypeId->Prop} {te t:TypeId} {n m B q c:E} {xs:L α}
def qx(C:ε->L ζ->α->Prop)(B:E)(te:TypeId)(n m:E)(xs:L α)(f:ζ)(e:ε):Prop:=∃a b d,f=.slice a m b/\cC B te n C e (.slice a m b) xs d
theorem qx.fr(g:dU T C){d:ζ}{b a:ε}(e:qx C B te n m xs d b)(f:Fr j b a):qx C B te n m xs d a:=by
 obtain⟨b,d,a,e,h⟩:=e;exact⟨b,d,a,e,h.fr g f⟩
theorem qx.sto(l:dU T C)(i:te≠t)(k:¬T t){f:ζ}{d b:ε}(h:qx C B te n m xs f d)(a:Jn q c t d b):qx C B te n m xs f b:=by
 obtain⟨d,f,b,h,e⟩:=h;exact⟨d,f,b,h,e.aJ l a.1 (λb o g=>by subst g;exact(aW e.row o).2.ne a.2.1 i Y) (λd b p o g=>by subst g;exact o.ne a.2.1 (λa=>k (a▸p)) Y)⟩
def Bv(C:ε->L ζ->α->Prop)(B:E)(te:TypeId)(n m:E)(xs:L α)(q c:E)(t:TypeId)(d:θ ζ)(b:ζ)(a:ε):Prop:=qx C B te n m xs b a/\aY a q (d.setIfInBounds c b) t
theorem Bv.fr(h:dU T C){d:θ ζ}{g:ζ}{b a:ε}(f:Bv C B te n m xs q c t d g b)(e:Fr j b a):Bv C B te n m xs q c t d g a:=⟨f.1.fr h e,e.hs f.2⟩
theorem zi(l:dU T C)(i:te≠t)(k:¬T t){d a:ε}{p b:ζ}{e:θ ζ}(h:zf p q c t d a)(p:aY d q e t)(d:c<e.size)(s:qx C B te n m xs b a):
  (∃d,a.cell? (H q c)=S d)/\(∀d,a.frozen? (H q d)=δ)/\Jn q c t a (a.setCell (H q c) b)/\Bv C B te n m xs q c t e b (a.setCell (H q c) b):=by
 obtain⟨h,u,d,o⟩:=h.2 _ p;have a:Jn q c t a (a.setCell (H q c) b):=⟨rF.aK _ _,⟨_,_,d⟩,iW.set _ eG O⟩;refine⟨⟨_,(aj d c).trans (ju O)⟩,λf=>aG d f,a,s.sto l i k a,?_⟩;have r:=aD d c b;rwa[show h.setIfInBounds c b=e.setIfInBounds c b from by
  apply kF;intro g;by_cases f:c=g
  .subst f
   rw[nQ,nQ,u]
  rw[ew f,ew f];exact o g O] at r
theorem Qn{a d:ε}{b:ζ}{e:L (L ζ)}{g:L α}(f:cC B te n C a b g e)(e:mV B b a d){g:θ ζ}(h:aY a q g t)(g:te≠t):Qb te b q c t a d:=
 ⟨e.1,λb a=>(aW f.row a).2,iW.apart e.1 (λa=>(aW f.row a).2.ne ⟨_,_,h⟩ g Y)⟩
end
theorem gL{id:E}(f c i:L E)(e:E->ε->ε->Prop)(b:ε->ε->Prop)(a:L (L E))(d:L bG)(Rd:L (L E))
  (l:Gv r1.toArray a=γ)(m:ddB a.length a f c=γ)(t:i.all (λg=>c.all (λq=>decide (g=q)||(a.getD q []).contains g))=γ)(o:yR a 0 Rd=γ)(p:d.map bG.reads=Rd)(n:∀h(a1 g:Act) W,a1.defers=g.defers->Q (.panic h) a1 W->Q (.panic h) g W)
  (r:∀W g,Fr j W g->b W g)(w:∀a1 g h,b a1 g->b g h->b a1 h)(s:∀h∈c,∀a1 g,e h a1 g->b a1 g)
  (u:kZ (λ_ g=>g.Fy (Fr j)) 0 d)
  (v:∀g∈c,kZ (λh k=>g≠h->g ∉ a.getD h []->h ∉ f->k.Fy (e g)) 0 d)
  (h:∀k,kA prog r1.toArray Q f (λg=>if g∈c then e g else Fr j) (λg=>if g∈i then Fr j W else b W) (b W) a (λg=>(d.getD g .w0).at) k 0 r1 a1):(Code.region id r1.toArray γ).wp prog Q a1 W:=
 rgG Jh f c i e b a d Rd l m t o p n r w s u v h
theorem abj:¬fS 146:=by unfold fS;decide
theorem Cf:¬fS 34:=by unfold fS;decide
theorem Hd:(prog.info? 34).map (·.size)=S 5:=kR
def acf(a:ε)(q:E)(b c d e f:ζ):ε:=((((a.setCell (H q 0) b).setCell (H q 1) c).setCell (H q 2) d).setCell (H q 3) e).setCell (H q 4) f
theorem xQ{q:E}(f:aY W q #[x,v1,v2,v3,v4] t)(a b c d e:ζ):(acf W q a b c d e).heap[q]? =S (.cells #[a,b,c,d,e] t (0,0)):=aD (aD (aD (aD (aD f 0 a) 1 b) 2 c) 3 d) 4 e
theorem AW(a:ε)(q:E)(b c d e f:ζ):bT q a (acf a q b c d e f):=((((rF.aK _ _).aK _ _).aK _ _).aK _ _).aK _ _
def cev(a:T)(e:κ)(b c d:ζ):ζ:=.agg #[I a,.bool e,b,c,d]
theorem Kr(t:T)(i:L Nd)(U:ζ)(z:ε)(e9:Sl 146 4 NC z U i)(v:i.length<=1000000000000)(e8:Su i):
  aQ 31 #[I t,U] z λd U=>∃a b,d=.returned (cev t δ aV aV (.slice a i.length b))/\Sl 146 4 NC U (.slice a i.length b) i/\Fr j z U:=by
 obtain⟨f7,f8,g1,g0,rfl,b0,e4,b3⟩:=e9;obtain⟨x,U⟩:=M i.length;rw[<-U] at b0 v |-;have⟨HN,HI⟩:=bD U Hd;unfold maxLen at e4;clear U
 delta aQ;go_in
 go_upto_region 2 with fail;refine cT (λP U=> ?_);obtain⟨y,b0⟩:=M z.heap.size;obtain⟨m,e4⟩:=M (y+1);rw[<-b0];try rw[show y+1=m by omega]
 have d2:=lq U;have d7:=uV U b0;have d8:N (aY P m #[I t,.bool δ,aV,aV,aV] 34):=Z (by rw[U];exact bM sO);have a1:N (z.heap.size<=y/\z.heap.size<=m/\y≠m):=Z O;clear U b0 e4;go_wp2_with fail;go_loopg [7,12] x (λgk s7 s12 wr=>∃(c:E)(a:ι Addr)(b:E)(b6:L (L ζ)),c+gk=x/\s12=I c/\aY wr m #[I t,.bool δ,aV,aV,.slice a c b] 34/\cC P.heap.size 146 4 NC wr (.slice a c b) (i.take c) b6/\bT m P wr)
 .exact⟨0,η,0,[],du,Y,d8.1,qG,rF⟩
 case round=>
  obtain⟨c,a,b,b6,F,rfl,c8,b7,a0⟩:=hrel;have⟨b5,b9⟩:=bD F c8;have z:c<=x:=O;have c0:=(d2.keep a0 (λk d=>d▸a1.1.2.1));clear F c8;by_cases f0:c<x
  .obtain⟨o,K⟩:=gE i c fU
   (obtain rfl:=b3.addr K;obtain⟨z,a6,a7,a8,c5,c7⟩:=(b3.f c0).nd K;have e2:=e8 o (bQ K);have d6:=Z K;obtain⟨⟨X,V,W⟩,A⟩:=o;obtain⟨p,R⟩:=M A.length;obtain⟨e0,e1,rfl,-,-,b0⟩:=c7.oH R;have b4:=Z R;have z:p<=71:=by rw[R];exact e2);have d4:N ((i.take c).length=c):=Z (by rw[cV];have:=HN.1;omega);have d5:=Z (bJ d6.1);have⟨z,U⟩:=dy c x;simp only at a6 a7 a8;clear K c7 R;go_upto_region 5 with fail;refine cT (λK U=> ?_);obtain⟨b3,w⟩:=M wr.heap.size;rw[<-w];have z:=cY U;have R:=yY U w;have b8:=(b7.f z);have a5:=Z (z.hs b9.1);have d3:=(b0.f z);have b1:=(a0.step z);have f1:=λe(f:Fr j K e)=>xW (f.hs a5.1);have f2:=λe(f:Fr j K e)=>bx (R.1 _ f);have f3:=λe(f:Fr j K e)=>dh (R.1 _ f);have f4:=λe(f:Fr j K e)=>iU (R.1 _ f);have f5:=λe(f:Fr j K e)=>iT (R.1 _ f);clear U w z b0 a6 a7 a8 c5;refine gL [8] [9,11] [0,1,2,3,4,5,6,7,9] (λix=>if ix=9 then Qb 146 (ζ.slice a c b) m 4 34 else Jn m 4 34) (zf (ζ.slice a c b) m 4 34) [[],[0],[],[2],[],[4],[4,5],[2,3,4,5,6],[2,3,4,5,6,7],[0,1,2,3,4,5,6,7,8],[],[0,1,2,3,4,5,6,7,9,10]] [.eq 0 (aP m 4),.eq 1 (.slice a c b),.eq 2 (aP b3 0),.eq 3 (.agg #[I X,I V,I W]),.eq 4 (aP b3 3),.eq 5 (.slice e0 p e1),.w1 6 (λo e=>∃a b,o=.slice a p b/\Sl 3 1 CI e (.slice a p b) A),.w1 7 (λo e=>∃a b,o=.agg #[I X,I V,I W,.slice a p b]/\Sl 3 1 CI e (.slice a p b) A),.w1 8 (λo e=>∃B a b,o=.slice (S (H B 0)) 1 1/\aY e B #[I X,I V,I W,.slice a p b] 146/\Sl 3 1 CI e (.slice a p b) A),.w1 9 (qx NC P.heap.size 146 4 (c+1) (i.take (c+1))),.eq 10 (aP m 4),.w1 9 (Bv NC P.heap.size 146 4 (c+1) (i.take (c+1)) m 4 34 #[I t,.bool δ,aV,aV,.slice a c b])] [[0],[1],[2],[3],[4],[5],[6],[7],[8],[9],[10],[9]] kR kR kR kR Y (λ_ _ _ _ d l=>⟨d.symm.trans l.1,l.2⟩) (λ_ _ f=>zf.of f) (λ_ _ _ l k=>l.trans k) ?hma ?hstab ?hstabM (λm=> ?_)
   case hma=>
    exact zf.ma fX fX
   case hstab=>refine⟨?_,?_,?_,?_,?_,?_,?_,?_,?_,?_,?_,?_,trivial⟩<;>first|exact Lu|exact λ_ _ _ k f=>qx.fr NC.aJ k f|exact λ_ _ _ k f=>Bv.fr NC.aJ k f|exact λ_ _ _ ⟨a,b,d,l⟩ f=>⟨a,b,d,l.f f⟩|exact λ_ _ _ ⟨B,a,b,d,m,l⟩ f=>⟨B,a,b,d,f.hs m,l.f f⟩
   case hstabM=>
    intro c F;simp only[rB] at F;rcases F with rfl|rfl;all_goals(refine⟨?_,?_,?_,?_,?_,?_,?_,?_,?_,?_,?_,?_,trivial⟩<;>first|exact wZ|exact λ_ _ _ _ _ _ k u=>qx.sto NC.aJ J Cf k u|exact λ_ _ _ _ _ _ ⟨a,b,d,l⟩ u=>⟨a,b,d,l.aJ iA u.1 (λd0 k G s C=>s.ne (u.2.1 k C) (λa9=>by subst a9;exact G.elim (λn=>by cases n) (λn=>n)) Y)⟩|exact λ_ _ _ _ _ _ ⟨a,b,d,l⟩ u=>⟨a,b,d,l.aJ iA u.1 (λd0 k G s C=>by subst C;exact s.ne u.2.1 (λa9=>by subst a9;exact G.elim (λn=>by cases n) (λn=>n)) Y)⟩)
   refine⟨?_,?_,?_,?_,?_,?_,?_,?_,?_,?_,?_,?_,?_⟩;all_goals first|exact Ca|skip
   .refine IG ?_
    intro e h Q g;go_simp;go_at_call 52;refine(sW _ A e (d3.f h) (oB b4.1)).mono ?_;rintro d p ⟨l,m,rfl,c9,f⟩;obtain⟨f6,f9,rfl,-,-⟩:=c9.shape b4.1.symm;exact g _ _ f ⟨_,_,Y,c9.read⟩
   .refine VN 6 ?_
    intro e h Q g l;obtain⟨c1,c3,f,e5⟩:=l;simp only[f] at g;go_simp;exact g _ _ rF ⟨_,_,Y,e5⟩
   .refine VN 7 ?_
    intro e h Q g D;obtain⟨c1,c3,f,e6⟩:=D;simp only[f] at g;go_simp;exact g _ _ cZ ⟨_,_,_,Y,bM Y,e6.f cZ⟩
   .intro e h r Q g
    have c6:=r 1 J;have D:=r 7 J;have f:=r 8 J;simp only[rX,ξ] at h c6 D f r g |-;obtain⟨B,c1,c3,e3,v,e7⟩:=f;have a3:=(b8.f h);rw[aS (by first|rfl|go_simp)];refine pM fX (.tmp 17) (.tmp 24) fX sC c d4.1 c6 a3 NC.aJ abj (⟨⟨X,V,W⟩,A⟩:Nd) e3 Y (eF.block v oC) (λd9 D=>⟨_,Y,e7.aJ iA D.1 (λd0 k G s d=>s.ne (aW a3.row d).2 (λC=>by subst C;exact G.elim (λn=>by cases n) (λn=>n)) Y)⟩) O mL (bX b1.size h.size) ?_;intro c2 c4 d9 a2 f l m;exact g _ _ (Qn a3 f (h.hs a5.1) J) ⟨_,_,_,Y,by rw[d5.1];exact a2⟩
   .intro e h r Q g
    have l:=r 9 J;simp only[rX,ξ] at h l r g |-;(try simp only[r] at g);obtain⟨⟨f,n⟩,p,m,v⟩:=zi NC.aJ J Cf h a5.1 sI l;obtain⟨c2,c4,n,f,-⟩:=l;rw[f] at m v;simp only[f] at g;go_simp;exact g undef _ m v
   refine re1 11 ?_;intro e h g;obtain⟨⟨c2,c4,n,f,a2⟩,w⟩:=g;have e:=Z w;have g:=(b1.trans h.1 (λ_ _ o=>o) (λk s d=>d.elim (λd=>absurd (aW b8.row d).1 (lN s)) (λd=>d)));rw[f] at e;clear h w f f1 f2 f3 f4 f5;go_wp2;go_roundg (gk-1)
   .exact⟨c+1,_,_,_,oB b5.1,by go_num,e.1,a2,g⟩
   have:=b5.1;omega
  have d1:N (i.take c=i):=Z (dq fU);obtain rfl:c=x:=O;have a4:=Z (a0.aB d7.1 a1.1.2.2);obtain⟨e,f,g,h,i,-⟩:=Va b9.1;obtain⟨a6,a7,a8,c5,e,f⟩:=Va a4.1;clear f0;go_wp2;have b2:=AW wr y (I t) (.bool δ) aV aV (.slice a c b);refine aO (bO Y _ _ _ y 34 _ (0,0) _ Y (xQ a4.1 (I t) (.bool δ) aV aV (.slice a c b)) Y underlying34 tZ) Y ⟨a,b,Y,?_,c0.keep b2 (λc d=>d▸a1.1.1)⟩;have a:=b7.read;rw[d1.1] at a;exact a.past NC.aJ b2 a4.1 J Cf
theorem Hk(p m a b f)(u:Sl 3 1 CI f p a)(r:Sl 3 1 CI f m b):aQ 300 #[p,m] f (BR (a==b) f):=by
 obtain⟨D,F,K,G,rfl,v,w,n⟩:=u;obtain⟨z,A,C,B,rfl,s,t,l⟩:=r;unfold maxLen at w t;generalize p:a.length=c at v |-;generalize m:b.length=o at s |-;have⟨HN,HM⟩:=bD p m;by_cases x:c=o
 .subst x
  delta aQ;go_in
  go_wp2;go_loopg [5,13] c (λgk s5 m wr=>∃d:E,d+gk=c/\m=I d/\a.take d=b.take d/\Fr j f wr)
  .exact⟨0,du,Y,Y,rF⟩
  case round=>
   obtain⟨d,HK,rfl,y,e⟩:=hrel;have HT:=Z y;have f:d<=c:=O;by_cases f:d<c
   .obtain⟨i,g⟩:=gE a d fU
    obtain⟨k,h⟩:=gE b d VG;obtain rfl:=n.addr g;obtain rfl:=l.addr h;have f:=(n.f e).int g;have f:=(l.f e).int h;have⟨f,g⟩:=bD g h;have⟨h,l⟩:=dy d c;by_cases q:i=k
    .have h:(i !=k)=δ:=by simp[q]
     go_wp2;go_quiet (fail);go_wp2;go_roundg (gk-1)
     .exact⟨d+1,O,by go_num,by rw[bJ f.1,bJ g.1,HT.1,q],(e.drewN nq)⟩
     omega
    have d:(i !=k)=γ:=sU q;have d:=Z q;go_wp2;go_quiet (fail);(go_wp2;go_ret;refine BR.of ?_ (e.drewN nq);have:a≠b:=λh=>by have:=f.1;rw[h,g.1] at this;exact d.1 (cI this).symm);exact(rR.2 this).symm
   have d:N (a=b):=Z (by have:=HT.1;rwa[dq fU,dq VG] at this);go_wp2;go_ret;exact BR.of (by rw[d.1];simp) e
 have c:((c:T) !=(o:T))=γ:=sO;have a:N (a≠b):=Z (λa=>by have:=HN.1;have:=HM.1;rw[a] at*;omega)
 delta aQ;go_in
 go_wp2;go_ret;exact BR.me (rR.2 a.1).symm
theorem JU(b:Hs)(k:T)(x:ζ)(d:ε)(C:eJ d x b)(D:b.length<=1000000):
  aQ 87 #[x,I k] d λg e=>∃c a f,g=.returned c/\cC d.heap.size 3 1 CI e c a f/\(∀c∈a,0<=c/\c<(b.length:T))/\a.length<=b.length/\Fr j d e:=by
 obtain⟨a4,rfl,F⟩:=C;obtain⟨P,U,a3,V,rfl,-,a0,s⟩:=F;obtain⟨c,a⟩:=M b.length;rw[<-a] at D |-;have HM:=Z a;clear a
 delta aQ;go_in
 go_wp2_with fail;refine cT (λx e=> ?_);obtain⟨d,a⟩:=M d.heap.size;rw[<-a];have n:=cY e;clear e a;go_loopg [5,6,7,11] c (λgk s5 s6 s7 s11 wr=>∃(d:E)(e:L T)(f:ι Addr)(a g:E)(h:L (L ζ)),d+gk=c/\s11=I d/\s5=.slice f a g/\e.length=a/\a<=d/\cC x.heap.size 3 1 CI wr (.slice f a g) e h/\(∀a∈e,0<=a/\a<(c:T))/\Fr j x wr)
 .exact⟨0,[],η,0,0,[],du,Y,Y,Y,eG,qG,sI,rF⟩
 case round=>
  obtain⟨a,m,z,l,B,u,a1,rfl,rfl,i,a2,t,h,o⟩:=hrel;have p:=(n.step o);have d:a<=c:=O;by_cases d:a<c
  .obtain⟨⟨d,K,b⟩,w⟩:∃d,b[a]? =S d:=⟨_,cF VG⟩
   obtain rfl:=s.addr w;obtain⟨x,w,b,d,s,SW,G⟩:=(s.f p).tn w;obtain⟨R,X,rfl,-,-⟩:=SW.slice;obtain⟨Q,W,rfl,-,-⟩:=G.slice;have⟨b,c⟩:=dy a c;go_wp2_with fail;refine aZ.nm (λc b=> ?_);have g:=cY b;clear b;refine sg (dC _ _ k c (SW.f g)) ?_;rintro b c ⟨rfl,rfl⟩;obtain⟨A,b⟩:=M (K.contains k);rw[<-b];have f:=(o.step g);have v:=(t.f g);clear b;cases A
   .go_wp2
    go_roundg (gk-1)
    .exact⟨a+1,m,z,l,B,u,O,by go_num,Y,i,O,v,h,f⟩
    omega
   go_wp2_with (at_builtin;refine stop ?_);refine aZ.go (bH Y (.tmp 20) (.tmp 22) Y oG l i Y (v.f cZ) iA id (a:T) Y Y (eF.one _ _ _ Y) (λ_ _=>Y) O mL (by have:=f.size;simp;omega) ?_);intro b c k y r d g;go_wp2;go_roundg (gk-1)
   .exact⟨a+1,m++[(a:T)],b,l+1,c,_,O,by go_num,Y,by simp[i],O,y,λb a=>by rcases cB.1 a with e|e;exact h b e;simp at e;subst e;omega,((f.alloc _).keep r.1 (λb a=>r.2 b a))⟩
   omega
  go_wp2;go_ret;exact⟨_,m,u,Y,t.base n.size,h,O,p⟩
section
open Go.RowKit Go.Shelf
attribute [local go_sem] mB
def VS(e d:E)(b:ι Addr)(c:E)(f:L T)(a:ε):Prop:=aY a e #[.slice b d c] 30/\Sl 3 1 CI a (.slice b d c) f
def iv(a:T):ζ:=I a
theorem Ja(d a:E)(n:ι Addr)(o:E)(b:L T)(t:a=b.length):Itr (VS d a n o b) 141 #[aP d 0] iv b []:=by
 intro y x v z t A g w h;refine nH.2 ?_;have n:t.cell? (H d 0)=S (.slice n a o):=aj (g _ _ _ h).1 0;obtain⟨n,o⟩:=M (γ:κ);have n:a<=9223372036854775807:=by obtain⟨f,i,c,k,e⟩:=(g _ _ _ h).2.slice;simp only[cM,maxLen] at c e;omega
 show aQ 141 #[.func (.yield x) #[] #[],aP d 0] t _;go_enter func141,ntmps141;go_wp2_with fail;go_loopg [4,7] a (λgk s4 s7 wr=>∃(c:E)(d:L T)(e:L E),c+gk=a/\s7=I c/\d++b.drop c=b/\v d e wr)
 .exact⟨0,[],_,du,Y,Y,h⟩
 case round=>
  obtain⟨c,e,f,B,rfl,s,i⟩:=hrel;have d:c<=a:=O;by_cases d:c<a
  .obtain⟨u,l⟩:=gE b c O
   have m:(e++u::b.drop (c+1)=b):=(by have:=s;rwa[gF l] at this);obtain⟨d,g,n,h,p,-,-,r⟩:=(g _ _ _ i).2;simp only[cM] at p;obtain⟨rfl,-,-⟩:=p;obtain rfl:=r.addr l;have d:=r.int l;have⟨a,d⟩:=dy c a;obtain⟨l,n,g,h,a,d⟩:=w e _ _ f wr m.symm i;unfold iv at a;go_upto_region 3 with fail;refine(gS (n:=y)).1 ?_;gi_wp2;refine⟨λa=>by simp[Fence.wide] at a,d.mono ?_⟩;rintro a d (⟨rfl,k,C⟩|⟨rfl,k⟩)
   case' inr=>
    gi_wp2;go_wp2;refine aO (io Y _ _ _) Y ?_;exact⟨⟨_,Y⟩,.inr k⟩
   gi_wp2;go_wp2;go_roundg (gk-1)
   .exact⟨c+1,e++[u],f,O,by go_num,by have:=m;rw[dm];exact this,k⟩
   omega
  have k:(e=b):=(by
   have:=s;rw[mq O] at this;simpa using this)
  go_wp2;go_end0
  exact⟨⟨_,Y⟩,.inl ⟨f,k▸i⟩⟩
theorem xg(b:ι Addr)(d c:E)(a:ε):aQ 86 #[.slice b d c] a λf e=>f=.returned (.func (.func 141) #[] #[aP a.heap.size 0])/\e=a.alloc (.cells #[.slice b d c] 30):=by
 delta aQ;go_in
 go_wp2;go_ret;exact⟨Y,Y⟩
theorem UQ(e h:E)(r:ι Addr)(s:E)(g:L T)(B:h=g.length)(i:ε)(x:VS e h r s g i)(l:h<=1000000000000):
  aQ 182 #[aV,.func (.func 141) #[] #[aP e 0]] i λd b=>∃a c,d=.returned a/\cC i.heap.size 3 1 CI b a g c/\Fr j i b:=by
 refine fC func182 Y ?_;simp only[ntmps182,ko,bW,fq,E.reduceAdd,E.reduceSub,lL,lz,lE,lF,eW,im];go_wp2_with fail;refine cT (λy b=> ?_);obtain⟨l,a⟩:=M i.heap.size;rw[<-a];have o:=dL b a;have k:=cY b;have z:VS e h r s g y:=⟨k.hs x.1,x.2.f k⟩;have p:=(ba o.1);have x:(e≠l):=(oB (ba x.1));have C:i.heap.size<=l:=O;clear b a;refine vQ (xs:=g) (enc:=iv) (bs0:=[]) (Ja e h r s g B) Y Y (λa b=>by simp[go_sem]) sI
  (λc b a=>Rg y l c b a) (λd b a=>False)
  (λc b n a m f d i=>f.kept p d i) (λm b a i f d=>f)
  (λc b a f=>⟨f.fr.aB z.1 (λi=>x i),z.2.past iA f.fr o.1 J id⟩)
  ⟨⟨η,0,[],o.1,qG,λf u=>by simp[ζ.ownBlock] at u⟩,rF,sI⟩
  (λc f b m a=>∃i,m={tmps:=#[aV,.func (.func 141) #[] #[aP e 0],aP l 0,undef,aV,iv f,.func (.func 141) #[] #[aP e 0],i,undef,undef,undef,undef,undef],defers:=[]}/\Rg y l c b a)
  ?hGb ?assign ?body ?done ?stop
 case hGb=>
  rintro c f b m a n ⟨l,e,i⟩ d;exact⟨l,e,i.kept p d (λi e=>.inl e)⟩
 case assign=>
  rintro n c f o b a i l HI e;simp only[iv] at*;gi_wp2;exact e _ _ (nZ.refl _ _) ⟨_,Y,HI⟩
 case body=>
  rintro e c f i b m a F ⟨l,rfl,w⟩;have D:c.length<h:=by
   have:=B;rw[F] at this;simp at this;omega
  simp only[iv] at*;obtain⟨h,i,e,t,n,A⟩:=w.row;obtain⟨G,v⟩:∃e,c.length=e:=⟨_,Y⟩;rw[v] at D t n A;have c:=Z v;have e:=bx t;clear v;gi_wp2_with (gi_at_builtin;refine stop ?_);refine aZ.go (lY Y (.tmp 8) (.tmp 10) Y oG G c.1 Y (n.fr da (tC.alloc _)) da id (f:T) Y Y (eF.one _ _ _ Y) (λ_ _=>Y) O mL ?p6 ?p7)
  case p6=>have:=w.fr.size;simp;omega
  case p7=>
   intro l m o h e i;obtain⟨e,h,c⟩:=w.push c.1 p (tC.alloc _) t (n.fr da (tC.alloc _)) A h e i;have i:=aG c 0;have c:=bx c;gi_wp2;exact⟨e,h⟩
 case done=>
  rintro c b a e D t F;obtain⟨e,h,w,i,v,A⟩:=t.row;have i:=bx i;go_wp2;refine jJ (v:=.slice e g.length h) [c] _ sI (λc n=>by rw[cX] at n;subst n;exact F) (λc d=>by simp[results,results182,go_sem]) (λc d=>⟨_,w,Y,?_,?_⟩)
  .refine(v.aJ da d (λc u n=> ?_) (λ_ _ f=>f.elim)).base k.size
   rw[cX] at n;subst n;exact A _ u D
  exact(k.keep t.fr (λe c=>by have:=C;omega)).keep d (λd c=>by rw[cX] at c;have:=k.size;omega)
 case stop=>
  rintro d e b a f g c;exact c.elim
theorem wY(c d:E)(g:ι Addr)(h:E)(b:L T)(i:d=b.length)(a:ε)(k:VS c d g h b a)(o:d<=1000000000000):
  aQ 85 #[.func (.func 141) #[] #[aP c 0]] a λm f=>∃e l,m=.returned e/\cC a.heap.size 3 1 CI f e (b.mergeSort (λe m=>decide (e<=m))) l/\Fr j a f:=by
 have⟨HN,l⟩:=bD i k;clear i k;have i:aQ 139 #[.func (.func 141) #[] #[aP c 0]] a λm f=>∃e k,m=.returned e/\cC a.heap.size 3 1 CI f e b k/\Fr j a f:=by
  delta aQ;go_in
  go_wp2_with fail;refine sg (UQ c d g h b HN.1 a l.1 o) ?_;rintro d g ⟨a,c,rfl,e,k⟩;have f:=Z e;obtain⟨m,n,rfl,-,-⟩:=e.shape HN.1.symm;clear e;go_wp2;go_ret;exact⟨_,_,Y,f.1,k⟩
 delta aQ;go_in
 go_wp2_with fail;refine aZ.go (i.mono ?_);rintro c p ⟨a,k,rfl,e,m⟩;have f:=Z e;obtain⟨s,t,rfl,-,-⟩:=e.shape HN.1.symm;clear e;go_wp2_with fail;refine sg (UY _ _ b k p f.1 fU) ?_;rintro a c ⟨⟨b,rfl⟩,⟨r,e⟩,n⟩;go_wp2;go_ret;exact⟨_,_,Y,e,(m.keep n (λb a=>(aW f.1.row a).1))⟩
end
abbrev Rw:=T×L T
def CW(d:ε)(c:L ζ)(a:Rw):Prop:=∃b,c=[I a.1,b]/\Sl 3 1 CI d b a.2
theorem CW.aJ:dU fS CW:=by
 rintro g i f h x a d ⟨e,b,c⟩;exact⟨e,b,c.aJ iA a (λc b a=>d c b (a.resolve_right id))⟩
instance:SC CW:=⟨_,CW.aJ⟩
theorem fF.rwk{c:L Rw}(e:fF 230 2 CW W A m q c){a:Rw}(f:c[n1]? =S a):
  ∃b,W.cell? (H m (q+n1*2))=S (I a.1)/\W.cell? (H m (q+n1*2+1))=S b/\Sl 3 1 CI W b a.2:=by
 obtain⟨h,-,⟨g,rfl,d⟩,b⟩:=e.2 n1 a f;exact⟨g,b 0 _ Y,b 1 _ Y,d⟩
def RwB(c:E)(a:Rw):Prop:=(0<=a.1/\a.1<16)/\∀b∈a.2,0<=b/\b<(c:T)
def SiR(b:Hs)(e:L Rw)(f:ε)(d:Ending)(c:ε):Prop:=(∃a,d=.returned (.bool a)/\(a=γ->bm b=γ/\∀a∈e,RwB b.length a))/\Fr j f c
theorem Dv(f:Hs)(h:L Rw)(x a5:ζ)(l:ε)(v:eJ l x f)(c2:Sl 230 2 CW l a5 h)(b9:∀e∈h,e.2.length<=1000000000000):aQ 261 #[x,a5] l (SiR f h l):=by
 have P:=v;have b2:=Z b9;obtain⟨d9,rfl,c3⟩:=v;obtain⟨c9,d4,rfl,-,-⟩:=c3.slice;obtain⟨d0,d1,d8,d5,rfl,b7,b8,G⟩:=c2;obtain⟨i,v⟩:=M h.length;rw[<-v] at b7 |-;have HN:=Z v;unfold maxLen at b8;clear v
 delta aQ;go_in
 go_wp2_with fail;refine aZ.nm (λa6 x=> ?_);obtain⟨a5,v⟩:=M l.heap.size;rw[<-v];have o:=cY x;have b4:=yY x v;clear x v;refine sg (dV f _ a6 (P.fr o)) ?_;rintro a l ⟨rfl,D⟩;obtain⟨t,g⟩:=M (bm f);rw[<-g];have K:=Z g;clear g;cases t
 .go_wp2
  go_ret;exact⟨⟨_,Y,λa=>by cases a⟩,o.step D⟩
 go_wp2_with fail;go_loopg [5,6,7,11] 16 (λgk s5 s6 s7 s11 wr=>∃d c:E,d+gk=16/\s11=I d/\s5=I c/\c<=i/\(∀e∈h.take c,RwB f.length e)/\Fr j a6 wr)
 .exact⟨0,0,Y,Y,Y,nG,sI,D⟩
 case round=>
  obtain⟨d,c,d6,rfl,rfl,c1,u,p⟩:=hrel;have r:=(o.step p);have l:=bx (b4.1 _ p);have l:d<=16:=O;by_cases l:d<16
  .go_wp2_with fail
   refine sg (JU f d _ wr (P.fr r) (oB (bK K.1.symm))) ?_;rintro a a7 ⟨o,C,l,rfl,Q,c5,d7,a1⟩;have F:=(p.step a1);have m:=(r.step a1);obtain⟨a9,z⟩:=M C.length;obtain⟨c7,d2,rfl,-,-⟩:=Q.shape z.symm;have l:=Z z;clear z;by_cases c4:a9=0
   .subst c4
    go_wp2;go_roundg (gk-1)
    .exact⟨d+1,c,O,by go_num,Y,c1,u,F⟩
    omega
   have l:((a9:T)==0)=δ:=sO;by_cases c0:c=i
   .subst c0
    go_wp2;all_goals(go_ret;exact⟨⟨_,Y,λa=>by cases a⟩,m⟩)
   have l:((c:T)==(i:T))=δ:=sO;obtain⟨⟨A,k⟩,b⟩:∃e,h[c]? =S e:=⟨_,cF fU⟩;have b3:=Z b;obtain rfl:=G.addr b;obtain⟨l,X,a0,a4⟩:=(G.f m).rwk b;obtain⟨B,w⟩:=M k.length;obtain⟨V,W,rfl,-,-,SR⟩:=a4.oH w;have HRN:=Z w;have RB:=(b2.1 _ (bQ b));simp only at X a0;have⟨l,o⟩:=dy c i;clear b a4 w;by_cases n:A=(d:T)
   case neg=>
    have b5:(A !=(d:T))=γ:=sU n;go_wp2;all_goals(go_ret;exact⟨⟨_,Y,λa=>by cases a⟩,m⟩)
   have b5:(A !=(d:T))=δ:=sU n;have U:=Z n;clear n;go_wp2_with fail;refine sg (xg _ _ _ a7) ?_;rintro a a8 ⟨rfl,y⟩;obtain⟨n,l⟩:=M a7.heap.size;rw[<-l];have a2:=cY y;have o:VS n B V W k a8:=⟨by rw[y];exact bM l,SR.f a2⟩;clear y l X a0;go_wp2_with fail;refine sg (wY n B V W k HRN.1 a8 o (by have l:k.length<=1000000000000:=RB;have:=HRN.1;omega)) ?_;rintro a c6 ⟨n,l,rfl,R,b6⟩;have s:=(a2.step b6);obtain⟨c8,d3,rfl,-,-⟩:=R.shape (m:=B) (by rw[vv];exact HRN.1.symm);go_wp2_with fail;refine sg (Hk _ _ C _ c6 (Q.read.f s) R.read) ?_;rintro a l ⟨rfl,a3⟩;obtain⟨t,g⟩:=M (C==k.mergeSort (λk l=>decide (k<=l)));rw[<-g];have b1:=Z g;clear g;cases t
   .go_wp2
    go_ret;exact⟨⟨_,Y,λa=>by cases a⟩,(m.step (s.step a3))⟩
   have b0:(∀e∈h.take (c+1),RwB f.length e):=(by
    rw[bJ b3.1];intro e b;rcases cB.1 b with b|b
    .exact u e b
    simp at b;subst b;refine⟨⟨by rw[U.1];omega,by rw[U.1];exact O⟩,λe b=>c5 e ?_⟩;rw[ef.1 b1.1.symm];exact L.mem_mergeSort.2 b)
   have b:(i:T)<=9223372036854775807:=O;go_wp2;go_roundg (gk-1)
   .exact⟨d+1,c+1,O,by go_num,by go_num,O,b0,(F.step (s.step a3))⟩
   omega
  go_wp2;go_ret;refine⟨⟨_,Y,λa=>⟨K.1.symm,?_⟩⟩,r⟩
  have:=u;rwa[dq (by have:=HN.1;simp at a;omega)] at this
section
open Go.RowKit Go.Sort
def VA:L T->E->T->T
 |[],_,_=> -1
 |a::d,b,c=>if c=a then(b:T) else VA d (b+1) c
def cpI(a b:T):T:=if a<b then -1 else if b<a then 1 else 0
theorem abK(a b:T):cpI a b<0↔a<b:=by
 unfold cpI;split
 .simp_all
 split<;>simp_all
def cfI(a:L T)(b c:T):T:=cpI (VA a 0 b) (VA a 0 c)
theorem adD(a:L T):SWO (ltOf (cfI a)):=by
 have a:∀b c,ltOf (cfI a) b c=decide (VA a 0 b<VA a 0 c):=λa b=>by simp[ltOf,cfI,abK]
 refine⟨λb=> ?_,λd e f b c=> ?_,λd e f b c=> ?_⟩<;>simp only[a,cS,decide_eq_false_iff_not] at* <;>omega
theorem Tq(b:L T)(e:T)(k:ζ)(f:ε)(o:Sl 3 1 CI f k b):aQ 91 #[k,I e] f λc a=>c=.returned (I (VA b 0 e))/\a=f:=by
 obtain⟨r,s,v,t,rfl,m,n,i⟩:=o;obtain⟨d,a⟩:=M b.length;rw[<-a] at m |-;have HN:=Z a;unfold maxLen at n;obtain⟨k,c⟩:=M (VA b 0 e);rw[<-c];have l:=Z c;clear a c
 delta aQ;go_in
 go_wp2_with fail;go_loopg [5,8] d (λgk s5 s8 wr=>∃a:E,a+gk=d/\s8=I a/\VA (b.drop a) a e=k/\wr=f)
 .exact⟨0,du,Y,l.1.symm,Y⟩
 case round=>
  obtain⟨c,u,rfl,a,rfl⟩:=hrel;have f:c<=d:=O;by_cases f:c<d
  .obtain⟨p,h⟩:=gE b c fU
   obtain rfl:=i.addr h;have b:=i.int h;have⟨b,d⟩:=dy c d;rw[gF h] at a;unfold VA at a;by_cases g:e=p
   .rw[aS g] at a
    subst g a;go_wp2;go_ret;exact⟨Y,Y⟩
   rw[aR g] at a;go_wp2;go_roundg (gk-1)
   .exact⟨c+1,O,by go_num,a,Y⟩
   omega
  rw[mq fU] at a;unfold VA at a;subst a;go_wp2;go_ret;exact⟨Y,Y⟩
theorem NH(a b:T)(c:ε):aQ 90 #[I a,I b] c λe d=>e=.returned (I (cpI a b))/\d=c:=by
 have d:∀e:T,aQ 144 #[I e] c λf e=>f=.returned (.bool δ)/\e=c:=λc=>by
  delta aQ;go_in
  go_wp2;go_ret;exact⟨sI,Y⟩
 unfold cpI;by_cases e:a<b
 .rw[aS e]
  delta aQ;go_in
  go_wp2_with (go_at_call 144;refine(d _).mono ?_;rintro c f ⟨rfl,rfl⟩);go_ret;exact⟨Y,Y⟩
 rw[aR e];by_cases f:b<a
 .rw[aS f]
  delta aQ;go_in
  go_wp2_with (go_at_call 144;refine(d _).mono ?_;rintro a b ⟨rfl,rfl⟩);go_ret;exact⟨Y,Y⟩
 rw[aR f]
 delta aQ;go_in
 go_wp2_with (go_at_call 144;refine(d _).mono ?_;rintro a b ⟨rfl,rfl⟩);go_ret;exact⟨Y,Y⟩
theorem abX(c:L T)(e f:T)(d:E)(b:ζ)(a:ε)(h:aY a d #[b] 30)(i:Sl 3 1 CI a b c):aQ 89 #[I e,I f,aP d 0] a λg d=>g=.returned (I (cfI c e f))/\∃e,d=a.drewN e:=by
 have d:=bx h;have a:∀d,Sl 3 1 CI (a.drewN d) b c:=λa=>i.f (rF.drewN a);unfold cfI
 delta aQ;go_in
 go_wp2_with fail;go_quiet ((first|(go_at_call 91;exact Calls.quiet_of_same (Tq _ _ _ _ (a _)))|(go_at_call 90;exact Calls.quiet_of_same (NH _ _ _))));go_wp2;go_ret;exact⟨Y,_,Y⟩
theorem Nk(g e:E)(m h:ζ)(f a:L T)(w:L (L ζ))(k b:ε)(hw:k.heap.size<=g)(v:Fr j k b)(G:aY k e #[m] 30)(K:Sl 3 1 CI k m f)(o:cC g 3 1 CI b h a w)(D:a.length<4611686018427387904)(y:0<a.length):
  aQ 88 #[h,.func (.func 89) #[] #[aP e 0]] b λd c=>d=.returned (.tuple #[])/\(∃d i,d.Perm a/\cC g 3 1 CI c h d i)/\Fr (λd=>h.ownBlock=S d) b c:=by
 have z:=xB o;subst z;have h:=o.row;rw[nS] at h;rcases h.2 with⟨rfl,n⟩|⟨i,x,V,rfl,A,l,F,B,P,u⟩
 .simp at n
  subst n;simp at y
 rw[gA] at u;have p:∀(k:E)(d:θ Obj)(h:θ T),bT i b (sortWorld (ζ.int .i64) b i 0 k h d):=λk d h=>(gJ (grownBy_sortedI _)).mono (λn _ c=>by simpa using c.symm);have C:CmpLays1 prog 89 #[aP e 0] (ζ.int .i64) (cfI f) i 0 a.toArray.size b:=λk d h _ R U=>by
  have h:=p k d h;have c:=v.keep h (λh r=>by subst r;omega);refine(abX f R U e m _ (c.hs G) (K.f c)).mono ?_;rintro h c ⟨rfl,r,rfl⟩;exact⟨Y,r,#[],by rw[grow_empty]⟩
 refine(Tryz.slices_SortFunc (ζ.int .i64) (λ_=>Y) (cfI f) (adD f) 89 #[aP e 0] i 0 x a.toArray b (by intro e c;simp[go_sem]) C (holds_of_blockI l u) (ba l) D).mono ?_;rintro f e ⟨rfl,c,Q,d,t,-,rfl⟩;have s:c.toList.Perm a:=by
  have e:=t.2.2;have f:c.extract 0 a.toArray.size=c:=by rw[<-t.1];exact θ.extract_size
  rw[f] at e;simpa using e
 have r:c.toList.length=a.length:=s.length_eq;refine⟨Y,⟨c.toList,_,s,xV r.symm (ownsRow_sortedI (w:=b) (base:=g) (n:=Q) (os:=d) (ss:=a) (ts:=c.toList) r A l F B P)⟩,?_⟩;exact(p _ _ _).mono (λb _ a=>by simpa[ζ.ownBlock] using a.symm)
end
theorem acr:dK prog 31 230 2 32:=dK.of (z:=.agg #[aI,aV]) underlying31 kR Y J
theorem OY(g c a4 a5 h)(a2:eJ h a4 g)(m:Sl 3 1 CI h a5 c)(a1:c.length<=1000000000000):
  aQ 53 #[a4,a5] h λe d=>∃b a,e=.returned b/\Sl 230 2 CW d b a/\a.length<=16/\(∀b∈a,b.2.length<=32)/\Fr j h d:=by
 have t:=a2;obtain⟨e9,rfl,e⟩:=a2;obtain⟨e1,e4,rfl,-,d0⟩:=e.slice;obtain⟨x,y,rfl,c7,c8⟩:=m.slice;obtain⟨a,d⟩:=M c.length;obtain⟨p,b⟩:=M g.length;rw[<-d] at c7 m a1 |-;rw[<-b] at t |-;have⟨HN,u⟩:=bD d b;unfold maxLen at c8 d0;clear e d b
 delta aQ;go_in
 go_wp2_with fail;refine aZ.nm (λD b=> ?_);obtain⟨h,d⟩:=M h.heap.size;obtain⟨a3,e⟩:=M (h+1);rw[<-d];try rw[<-e]
 have K:=lq b;have b6:=uV b d;have b8:N (aY D a3 #[.slice x a y] 30):=Z (by rw[b];exact bM (by rw[fL];omega));clear b d e;refine sg (xg _ _ _ D) ?_;rintro h a6 ⟨rfl,e⟩;obtain⟨h,d⟩:=M D.heap.size;rw[<-d];have b:=cY e;have D:VS h a x y c a6:=⟨by rw[e];exact bM d,m.f (K.step b)⟩;have b0:=(K.step b);have⟨b7,b9⟩:=bD (b.hs b6.1) (b.hs b8.1);clear e d b;go_wp2_with fail;refine sg (wY h a x y c HN.1 a6 D a1) ?_;rintro x d4 ⟨y,h,rfl,d,b⟩;obtain⟨a8,e⟩:=M (c.mergeSort (λf h=>decide (f<=h)));rw[<-e] at d;have U:N (a=a8.length):=Z (by rw[e,vv];exact HN.1);obtain⟨d9,e2,rfl,e5,c9⟩:=d.shape U.1.symm;unfold maxLen at c9;have c2:=d.read;have P:=(b0.step b);have⟨V,c0⟩:=bD (b.hs b7.1) (b.hs b9.1);have f:=bx V.1;clear e d b;go_wp2_with fail;clear f;refine sg (dV g _ d4 (t.fr P)) ?_;rintro h a7 ⟨rfl,b⟩;have c3:=(c2.f b);have d:=(P.step b);have⟨W,X⟩:=bD (b.hs V.1) (b.hs c0.1);have e:=bx W.1;have f:=bx X.1;clear b;have A:Sl 230 2 CW a7 aV []:=dJ;cases b:bm g
 .clear b
  go_wp2;go_ret;exact⟨_,[],Y,A,sI,sI,d⟩
 have h:p<=32:=by rw[u.1];exact bK b
 clear b;by_cases d2:a=p
 case neg=>
  have b:¬(a:T)=(p:T):=O;go_wp2;go_ret;exact⟨_,[],Y,A,sI,sI,d⟩
 subst d2;go_wp2_with fail;clear e f;go_loopg [6,7,27] a (λgk s6 s7 s27 wr=>∃b:E,b+gk=a/\s27=I b/\wr=a7)
 .exact⟨0,du,Y,Y⟩
 case round=>
  obtain⟨f,b,rfl,rfl⟩:=hrel;have HK:=Z b;have h:f<=a:=O;clear b;by_cases h:f<a
  .obtain⟨k,e⟩:=gE a8 f (oB U.1)
   obtain⟨h,l,o,n,i,-,-,b⟩:=c3;simp only[cM] at i;obtain⟨rfl,-,rfl⟩:=i;obtain rfl:=b.addr e;have h:=b.int e;have⟨a,h⟩:=dy f a;clear b e;by_cases b:(f:T)=k
   .subst b
    go_wp2;go_roundg (gk-1)
    .exact⟨f+1,oB HK.1,by go_num,Y⟩
    have:=HK.1;omega
   go_wp2;go_ret;exact⟨_,[],Y,A,sI,sI,d⟩
  go_wp2_with fail;obtain⟨F,d3⟩:=M wr;subst d3;go_loopg [9,10,36,8] 16 (λgk s9 s10 s36 s8 wr=>∃(b:E)(e:L Rw)(f:ι Addr)(a h:E)(i:L (L ζ)),b+gk=16/\s36=I b/\s8=.slice f a h/\e.length=a/\a<=b/\cC F.heap.size 230 2 CW wr (.slice f a h) e i/\(∀a∈e,a.2.length<=32)/\Fr j F wr)
  .exact⟨0,[],η,0,0,[],Y,Y,Y,Y,eG,qG,sI,rF⟩
  case round=>
   obtain⟨b,C,c5,B,c6,b3,n,rfl,rfl,o,e8,v,l,e⟩:=hrel;have⟨i,k,w⟩:=dt n o l;have a:b<=16:=O;clear n o l;by_cases a:b<16
   .have a:=bx (e.hs W.1)
    have f:(0:T)<=(b:T):=jD;have f:(b:T)<16:=O;go_wp2_with fail;clear a;have a:=JU g (b:T) _ wr (t.fr (d.step e)) (oB u.1);refine aZ.go (a.mono ?_);rintro a d5 ⟨f,G,b4,rfl,l,o,Q,s⟩;have R:G.length<=32:=(oB u.1);obtain⟨z,n⟩:=M G.length;obtain⟨e0,e3,rfl,e6,e7⟩:=l.shape n.symm;have HM:=Z n;have r:=(e.step s);have c1:=(v.f s);have a9:=e.size;clear o Q n;by_cases d1:z=0
    .subst d1
     go_wp2;go_roundg (gk-1)
     .exact⟨b+1,C,c5,B,c6,b3,oB i.1,by go_num,Y,k.1,O,c1,w.1,r⟩
     have:=i.1;omega
    have a:¬(z:T)=0:=O;go_wp2_with fail;refine sg (Nk wr.heap.size a3 _ _ c G b4 F d5 e.size r X.1 (m.f d) l (oB R) VG) ?_;rintro a d6 ⟨rfl,⟨o,d8,a0,Q⟩,n⟩;have g:=(r.keep n (λc a=>by have:=(aW l.row a).1;have:=a9;omega));have m:=Q.read;have b2:N (o.length=z/\o.length<=32):=Z (by have:=a0.length_eq;have:=R;have:=HM.1;omega);have l:=(v.f (s.keep n (λc a=>(aW l.row a).1)));clear n Q a0;go_wp2_with (at_builtin;refine stop ?_);refine aZ.go (AM (λa f=> ?_));obtain⟨a,c⟩:=M d6.heap.size;(try rw[<-c]);have a:=cY f;have h:=dL f c;have Q:=(g.step a);have c4:=(m.f a);have a0:=(l.f a);clear f c a;refine bH Y (.tmp 48) (.tmp 52) Y acr B k.1 Y a0 CW.aJ (by unfold fS;decide) ((b:T),o) Y Y (eF.block h.1 oC) (λa b1=>⟨_,Y,c4.aJ iA b1.1 (λg f b5 c a=>c.ne (aW a0.row a).2 (λn=>by subst n;exact b5.elim (λd7=>by cases d7) (λa=>a)) Y)⟩) O mL Q.size ?_;intro c f g b5 a l m;have b1:=(Q.keep a.1 (λh g=>a.2 h g));clear a l m;go_wp2;go_roundg (gk-1)
    .exact⟨b+1,C++[((b:T),o)],c,B+1,f,_,oB i.1,by go_num,Y,by simp[k.1],O,b5,λb a=>by rcases cB.1 a with n|n;exact w.1 b n;simp at n;subst n;exact b2.1.2,b1⟩
    have:=i.1;omega
   go_wp2;go_ret;exact⟨_,C,Y,v.read,oB k.1,w.1,d.step e⟩
structure Gt(W:ε)(v:ζ):Prop where
 ex:∃eY yes vo vr vt os rows tr,v=cev eY yes vo vr vt/\Sl 3 1 CI W vo os/\Sl 230 2 CW W vr rows/\(∀r∈rows,r.2.length<=1000000000000)/\Sl 146 4 NC W vt tr/\tr.length<=fV
theorem Gt.fr(g:Gt W x)(a:Fr j W V):Gt V x:=by
 obtain⟨h,p,m,n,o,i,k,l,rfl,b,c,d,e,f⟩:=g.ex;exact⟨h,p,m,n,o,i,k,l,Y,b.f a,c.f a,d,e.f a,f⟩
theorem DS(y:Hs)(h:T)(i:L T)(F G:ζ)(e:ε)(A:eJ e F y)(B:Sl 3 1 CI e G i)(R:i.length<=1000000000000):
  aQ 30 #[F,I h,G] e λc a=>∃b,c=.returned b/\Gt a b/\Fr j e a:=by
 have K:=A;obtain⟨W,rfl,V⟩:=A;obtain⟨A,n⟩:=M e.heap.size;obtain⟨a,o⟩:=M (A+1);obtain⟨b,p⟩:=M (a+1);by_cases z:h=0
 .subst z
  delta aQ;go_in
  go_wp2_with fail;refine aZ.nm (λg c=> ?_);rw[<-n];try rw[<-o]
  try rw[<-p]
  have v:=Ol c;have P:(aY g a #[aI,.bool δ,aV,aV,aV] 34):=(by rw[c];exact aC (bM (by rw[fL];omega)) _);have Q:(aY g b #[aI,.bool γ,aV,aV,aV] 34):=(by rw[c];exact bM (by rw[fL,fL];omega));have s:(e.heap.size<=a/\e.heap.size<=b/\a≠b):=O;clear c n o p;refine sg (sW _ i g (B.f v) O) ?_;rintro F U ⟨G,A,rfl,D,u⟩;obtain⟨l,m,C,-,-⟩:=D.shape Y;obtain⟨r,d⟩:=M i.length;rw[<-d] at C;subst C;clear d;have k:=(u.hs Q);have A:=iU k;have A:=λd=>aG k d;go_upto_region 5 with fail;refine cT (λf d=> ?_);have A:(aY f b #[aI,.bool γ,.slice l r m,aV,aV] 34):=(by rw[d];exact aD k 2 (.slice l r m));have t:(aY f a #[aI,.bool δ,aV,aV,aV] 34):=(by rw[d];exact bi (u.hs P) _ s.2.2 _);have x:bT b U f:=(by rw[d];exact rF.aK _ _);clear d;obtain⟨A,C,F,G,P,-⟩:=Va A;obtain⟨A,C,F,G,P,Q⟩:=Va t;go_wp2;have w:=AW f a aI (.bool γ) (.slice l r m) aV aV;refine aO (bO Y _ _ _ a 34 _ (0,0) _ Y (xQ t aI (.bool γ) (.slice l r m) aV aV) Y underlying34 (by rw[Hd];rfl)) Y ⟨_,Y,⟨_,_,_,_,_,i,[],[],Y,?_,?_,sI,dJ,by simp[fV]⟩,((v.step u).keep x (λm l=>l▸s.2.1)).keep w (λm l=>l▸s.1)⟩
  .exact(D.read.past iA x k J id).past iA w t J id
  exact dJ
 have z:=Z z
 delta aQ;go_in
 go_wp2_with fail;refine aZ.nm (λg c=> ?_);rw[<-n];try rw[<-o]
 try rw[<-p]
 have r:=Ol c;have w:(aY g a #[aI,.bool δ,aV,aV,aV] 34):=(by rw[c];exact aC (bM (by rw[fL];omega)) _);have x:(aY g b #[I h,.bool γ,aV,aV,aV] 34):=(by rw[c];exact bM (by rw[fL,fL];omega));have s:(e.heap.size<=a/\e.heap.size<=b/\a≠b):=O;clear c n o p;refine sg (OY y i _ _ g (K.fr r) (B.f r) R) ?_;rintro e D ⟨g,v,rfl,u,-,C,o⟩;obtain⟨k,l,t,-,-⟩:=u.slice;obtain⟨m,c⟩:=M v.length;rw[<-c] at t;subst t;clear c;have c:=(o.hs x);have e:=iT c;have e:=λe=>aG c e;go_upto_region 5 with fail;refine cT (λf d=> ?_);have e:(aY f b #[I h,.bool γ,aV,.slice k m l,aV] 34):=(by rw[d];exact aD c 3 (.slice k m l));have n:(aY f a #[aI,.bool δ,aV,aV,aV] 34):=(by rw[d];exact bi (o.hs w) _ s.2.2 _);have p:bT b D f:=(by rw[d];exact rF.aK _ _);clear d;obtain⟨b,e,g,i,t,-⟩:=Va e;obtain⟨b,e,g,i,t,w⟩:=Va n;go_wp2;have d:=AW f a (I h) (.bool γ) aV (.slice k m l) aV;refine aO (bO Y _ _ _ a 34 _ (0,0) _ Y (xQ n (I h) (.bool γ) aV (.slice k m l) aV) Y underlying34 (by rw[Hd];rfl)) Y ⟨_,Y,⟨_,_,_,_,_,[],v,[],Y,?_,?_,λb a=>by have:=C b a;omega,dJ,by simp[fV]⟩,((r.step o).keep p (λb a=>a▸s.2.1)).keep d (λb a=>a▸s.1)⟩
 .exact dJ
 exact(u.past CW.aJ p c J Cf).past CW.aJ d n J Cf
def SrR(a:Hs)(c:L T)(f:ε)(e:Ending)(d:ε):Prop:=(∃b,e=.returned (.bool b)/\(b=γ->bm a=γ/\c.length=a.length/\∀b∈c,0<=b/\b<(a.length:T)))/\Fr j f d
theorem uP(d:Hs)(f:L T)(A B:ζ)(b:ε)(x:eJ b A d)(z:Sl 3 1 CI b B f):aQ 258 #[A,B] b (SrR d f b):=by
 have u:=x;have v:=z;obtain⟨a7,rfl,V⟩:=x;obtain⟨X,a1,rfl,-,R⟩:=V.slice;obtain⟨a0,bo,a6,a2,rfl,-,a4,s⟩:=z;obtain⟨a,e⟩:=M f.length;rw[<-e] at v |-;have HN:=Z e;have v:a<=maxLen:=by have:=v.slice;obtain⟨g,h,c,i,k⟩:=this;simp only[cM] at c;omega
 obtain⟨o,c⟩:=M d.length;rw[<-c] at u |-;have HM:=Z c;unfold maxLen at v R;clear e c
 delta aQ;go_in
 go_wp2_with fail;refine aZ.nm (λv e=> ?_);obtain⟨x,c⟩:=M b.heap.size;rw[<-c];have p:=cY e;have K:=dL e c;clear e c;refine sg (dV d _ v (u.fr p)) ?_;rintro u W ⟨rfl,w⟩;have g:=(p.step w);have p:=bx (w.hs K.1);obtain⟨P,c⟩:=M (bm d);rw[<-c];have t:=Z c;clear c;cases P
 .go_wp2
  go_ret;exact⟨⟨_,Y,λc=>by cases c⟩,g⟩
 have d:o<=32:=gX (bK t.1.symm) HM.1;by_cases U:a=o
 case neg=>
  have d:((a:T) !=(o:T))=γ:=sO;go_wp2;go_ret;exact⟨⟨_,Y,λc=>by cases c⟩,g⟩
 subst U;go_wp2_with fail;refine cT (λC e=> ?_);obtain⟨k,c⟩:=M W.heap.size;rw[<-c];have D:AA C k 443 32 IsB:=(AA.of (by rw[e];exact bM c) Y (by intro d h;simp at h;subst h;exact⟨_,Y⟩));have F:=(g.step (cY e));have G:b.heap.size<=k:=(oB g.size);clear e c;go_loopg [7,21] a (λgk s7 s21 wr=>∃b:E,b+gk=a/\s21=I b/\(∀c∈f.take b,0<=c/\c<(a:T))/\AA wr k 443 32 IsB/\bT k C wr)
 .exact⟨0,du,Y,sI,D,rF⟩
 case round=>
  obtain⟨e,a5,rfl,y,m,r⟩:=hrel;have c:=(F.keep r (λd b=>b▸G));have b:e<=a:=O;by_cases b:e<a
  .obtain⟨l,n⟩:=gE f e fU
   obtain rfl:=s.addr n;have b:=(c.aF (s.int n) id);have⟨b,d⟩:=dy e a;by_cases b:l<0
   .go_wp2
    all_goals(go_ret;exact⟨⟨_,Y,λh=>by cases h⟩,c⟩)
   by_cases b:(a:T)<=l
   .go_wp2
    all_goals(go_ret;exact⟨⟨_,Y,λh=>by cases h⟩,c⟩)
   obtain⟨i,rfl⟩:∃b:E,l=(b:T):=⟨l.toNat,O⟩;have a:i<a:=O;have a:(0:T)<=(i:T):=jD;have a:(i:T)<32:=O;obtain⟨a8,a3,Q,rfl⟩:=m.get (show i<32 by omega);have a:=m.free;cases Q
   .go_wp2
    go_roundg (gk-1)
    .exact⟨e+1,O,by go_num,by rw[bJ n];intro b a;rcases cB.1 a with h|h;exact y b h;simp at h;subst h;omega,m.set _ ⟨_,Y⟩,r.tr (rF.aK _ _)⟩
    omega
   go_wp2;all_goals(go_ret;exact⟨⟨_,Y,λh=>by cases h⟩,c⟩)
  go_wp2;go_ret;exact⟨⟨_,Y,λ_=>⟨t.1.symm,HN.1.symm.trans HM.1,by have:=y;rw[dq fU] at this;rwa[HM.1] at this⟩⟩,c⟩
theorem Ic(e:ε)(a b:Tk):(binOp .neq 203 (.agg #[I a.k,I a.f]) (.agg #[I b.k,I b.f])).run prog e=.ok (.bool (!(a==b))) e:=by
 rw[run_neq_struct];have e:=underlying203;have c:=underlying3;rw[run_equalIn_agg (d:=9999) _ _ _ _ (by simp only[Program.fieldsOf,e]) Lj];rw[<-Zy];simp only[Program.fieldsOf,e];cases d:(a.k==b.k)
 .simp[Op.eqFields,go_sem,c,d]
 cases f:(a.f==b.f)
 .simp[Op.eqFields,go_sem,c,d,f]
 simp[Op.eqFields,go_sem,c,d,f]
theorem IV(n h:ζ)(e f:L Tk)(d:ε)(u:Sl 203 2 CK d n e)(r:Sl 203 2 CK d h f):aQ 260 #[n,h] d (BA d):=by
 obtain⟨D,F,P,G,rfl,v,w,i⟩:=u;obtain⟨z,A,C,B,rfl,s,t,g⟩:=r;unfold maxLen at w t;obtain⟨a,c⟩:=M e.length;obtain⟨m,b⟩:=M f.length;rw[<-c] at v |-;rw[<-b] at s |-;have⟨HN,HM⟩:=bD c b;clear c b;by_cases x:a=m
 .subst x
  delta aQ;go_in
  go_wp2_with fail;go_loopg [5,13] a (λgk s5 h wr=>∃b:E,b+gk=a/\h=I b/\Fr j d wr)
  .exact⟨0,du,Y,rF⟩
  case round=>
   obtain⟨c,K,rfl,b⟩:=hrel;by_cases d:c<a
   .obtain⟨o,k⟩:=gE e c fU
    obtain⟨p,l⟩:=gE f c VG;obtain rfl:=i.addr k;obtain rfl:=g.addr l;obtain⟨d,e⟩:=(i.f b).tk k;obtain⟨d,e⟩:=(g.f b).tk l;have⟨d,e⟩:=dy c a;have d:=CA;have y:=λd=>Ic d o p;cases q:(o==p)<;>rw[q] at y<;>clear q
    .go_wp2_with fail
     go_quiet (fail);go_wp2;go_ret;exact⟨⟨_,Y⟩,(b.drewN nq)⟩
    go_wp2_with fail;go_quiet (fail);go_wp2;go_roundg (gk-1)
    .exact⟨c+1,O,by go_num,(b.drewN nq)⟩
    omega
   go_wp2;go_ret;exact⟨⟨_,Y⟩,b⟩
 have a:((a:T) !=(m:T))=γ:=sO
 delta aQ;go_in
 go_wp2;go_ret;exact BA.me
theorem aaC{P:Program}
  (g:o2.guard=η)(d f:Operand)(s:o2.op=Op.call {callee:=Callee.builtin Builtin.append,args:=#[d,f],argTypes:=#[t,t]})
  {b:TypeId}(i:dK P t b m q)(v:a1.eval d=x)(u:W.ownsRow n1 b m x n2 Y1){c:L ζ}(y:a1.eval f=.slice A n3 n4)(r:c.length=n3*m)(w:eF W A c)(o:(n2+n3)*q<=140737488355328)(l:n2+n3<=maxLen)(p:n1<=W.heap.size)
  (n:∀a e,e.ownsRow n1 b m a (n2+n3) (Y1++c)->W.grownBy e x.ownBlock->(a.ownBlock=x.ownBlock\/∀h,a.ownBlock=S h->W.heap.size<=h)->K1 (a1.put o2.dst a) e):Oper.wp P o2 a1 W K1 Q:=by
 have k:=jl (ops:=#[]) (E:=True) g d f s i v u y r w o l p n (Q:=Q);rwa[aS (by simp[Region.wanted,g])] at k
structure RR(B:E)(W:ε)(qo n M:E)(cs:θ ζ):Prop where
 hq:aY W qo cs 75
 sz:cs.size=n
 row:∀(i:E)(v:ζ),cs[i]? =S v->∃m xs,m<=M/\W.ownsRow B 203 2 v m xs/\∀u∈xs,Nl u
 ap:∀(i j:E)(v v':ζ)(g:E),i≠j->cs[i]? =S v->cs[j]? =S v'->v.ownBlock=S g->¬v'.ownBlock=S g
theorem RR.mono{b:θ ζ}(a:RR m W q n1 n2 b)(c:n2<=n3):RR m W q n1 n3 b:=
 ⟨a.hq,a.sz,λc d b=>by obtain⟨c,d,e,b⟩:=a.row c d b;exact⟨c,d,O,b⟩,a.ap⟩
theorem RR.fr{b:θ ζ}{S:E->Prop}(a:RR m W q n1 n2 b)(c:Fr S W V)(e:¬S q)(f:∀d,fE 203 W d->¬S d):RR m V q n1 n2 b:=
 ⟨c.aB a.hq e,a.sz,λd e b=>by obtain⟨g,h,d,b,e⟩:=a.row d e b;exact⟨g,h,d,c.owns b (λd c=>f d (aW b c).2),e⟩,a.ap⟩
theorem RR.put{l w M c m:E}{d:θ ζ}(b:RR q W l w M d)(s:d[c]? =S v1)(A:Fr (λk=>v1.ownBlock=S k\/k=l) W V)(C:m<=M+1)(D:V.ownsRow q 203 2 v2 m Y1)(G:∀u∈Y1,Nl u)
  (v:v2.ownBlock=v1.ownBlock\/∀k,v2.ownBlock=S k->W.heap.size<=k)(F:aY V l (d.setIfInBounds c v2) 75):RR q V l w (M+1) (d.setIfInBounds c v2):=by
 have r:∀{i:E}{u:ζ},(d.setIfInBounds c v2)[i]? =S u->(i=c/\u=v2)\/(i≠c/\d[i]? =S u):=λ{i u} a=>by
  by_cases e:c=i
  .subst e
   rw[nQ] at a;split at a
   .cases a;exact .inl ⟨Y,Y⟩
   cases a
  rw[ew e] at a;exact .inr ⟨λx=>e x.symm,a⟩
 refine⟨F,by simp[b.sz],λi u a=> ?_,λi t u p f h a B g e=> ?_⟩
 .rcases r a with⟨rfl,rfl⟩|⟨K,a⟩
  .exact⟨m,Y1,C,D,G⟩
  obtain⟨d,l,w,n,y⟩:=b.row i u a;exact⟨d,l,O,A.owns n (λk o d=>d.elim (λd=>b.ap i c u v1 k K a s o d) (λz=>by subst z;exact(aW n o).2.ne ⟨_,_,b.hq⟩ J Y)),y⟩
 rcases r a with⟨rfl,rfl⟩|⟨z,n⟩<;>rcases r B with⟨rfl,rfl⟩|⟨y,o⟩
 .exact h Y
 .rcases v with a|a
  .exact b.ap _ t v1 p f h s o (a▸g) e
  obtain⟨d,w,l,c,r⟩:=b.row t p o;obtain⟨-,d,l,c⟩:=aW c e
  have:=ba c
  have:=a f g;omega
 .rcases v with a|a
  .exact b.ap i _ u v1 f h n s g (a▸e)
  obtain⟨d,s,l,c,r⟩:=b.row i u n;obtain⟨-,d,l,c⟩:=aW c g
  have:=ba c
  have:=a f e;omega
 exact b.ap i t u p f h n o g e
theorem RR.zero(d:aY W q (madeCells #[aV] n1) 75):RR m W q n1 0 (madeCells #[aV] n1):=by
 have c:∀{b:E}{a:ζ},(madeCells #[aV] n1)[b]? =S a->a=aV:=λ{e f} a=>by
  rcases dP e n1 with b|b
  .rw[Ux _ _ b] at a;cases a;rfl
  rw[kC (by rw[ns];exact b)] at a;cases a
 exact⟨d,ns _ _,λd e b=>by rw[c b];exact⟨0,[],eG,iL _ _ _ _,sI⟩,λf g h d e _ b _ a=>by rw[c b] at a;cases a⟩
def CKr(d:ε)(b:L ζ)(c:L Tk):Prop:=∃a,b=[a]/\Sl 203 2 CK d a c
theorem CKr.aJ:dU (λa=>a=203) CKr:=by
 rintro g i f h x a d ⟨e,b,c⟩;exact⟨e,b,c.aJ CKs a (λc b a=>d c b (a.resolve_right id))⟩
instance:SC CKr:=⟨_,CKr.aJ⟩
def acs:ι ζ->T
 |some (.int _ a)=>a
 |_=>0
theorem XB(d:W.ownsRow m 203 2 x q Y1)(k:∀a∈Y1,Nl a):∃a:L Tk,Sl 203 2 CK W x a:=by
 have w:Y1.length=q*2:=d.1;refine⟨(L.range q).map (λb=>⟨acs Y1[b*2]?,acs Y1[b*2+1]?⟩),?_⟩;rcases d.2 with⟨rfl,rfl⟩|⟨e,n,u,rfl,v,p,r,o,y,z⟩
 .exact dJ
 refine⟨_,e,0,n,sI,sU r,o,.inr ⟨Y,_,_,p⟩,λb a c=> ?_⟩;have n:b<q:=by have:=(cj.1 c).1;simpa using this
 simp only[fN,L.getElem?_range n,rM,fZ] at c;obtain⟨s,f⟩:∃a,Y1[b*2]? =S a:=⟨_,cF O⟩;obtain⟨t,g⟩:∃a,Y1[b*2+1]? =S a:=⟨_,cF O⟩;obtain⟨A,rfl⟩:=k s (bQ f);obtain⟨B,rfl⟩:=k t (bQ g);rw[f,g] at c;subst c;refine⟨_,Y,Y,λl b a=> ?_⟩;have h:=d.cells (g:=e) Y _ _ f;have i:=d.cells (g:=e) Y _ _ g;rw[eV] at h i
 match l,a with
 |0,a=>simp[fv] at a;subst a;exact h
 |1,a=>simp[fv] at a;subst a;exact i
 |l+2,a=>simp[fv] at a
theorem RR.read{d:θ ζ}(e:RR q W n1 n2 n3 d)(l:n2<=maxLen):∃a:L (L Tk),a.length=n2/\Sl 75 1 CKr W (.slice (S (H n1 0)) n2 n2) a:=by
 have k:∀a:E,∃c:L Tk,∀b:ζ,d[a]? =S b->Sl 203 2 CK W b c:=λa=>by
  cases c:d[a]? with
  |none=>exact⟨[],λf b=>by cases b⟩
  |some b=>
   obtain⟨m,i,-,b,f⟩:=e.row a b c;obtain⟨b,g⟩:=XB b f;exact⟨b,λb h=>by cases h;exact g⟩
 refine⟨(L.range n2).map (λa=>(k a).choose),sI,_,n1,0,n2,sI,sI,l,.inr ⟨Y,_,_,e.hq⟩,λa b c=> ?_⟩;have g:a<n2:=by have:=(cj.1 c).1;simpa using this
 simp only[fN,L.getElem?_range g,rM,fZ] at c;subst c;obtain⟨f,h⟩:∃b,d[a]? =S b:=⟨_,ju (by rw[e.sz];exact g)⟩;refine⟨[f],Y,⟨f,Y,(k a).choose_spec f h⟩,λi c b=> ?_⟩
 match i,b with
 |0,b=>simp at b;subst b;simpa using (aj e.hq a).trans h
 |i+1,b=>simp at b
def PlR(e:Hs)(f:ε)(d:Ending)(a:ε):Prop:=∃c b,d=.returned c/\Sl 75 1 CKr a c b/\b.length<=e.length/\Fr j f a
theorem aaz:(prog.info? 75).map (λa=>(a.zero,a.size,a.bytes))=S (S aV,1,24):=kR
theorem Qa(c:∀a∈Y1,Nl a)(a b:T):∀d∈Y1++[ζ.int .i64 a,I b],Nl d:=λb a=>by
 rcases cB.1 a with a|a
 .exact c b a
 simp at a;rcases a with rfl|rfl<;>exact⟨_,Y⟩
theorem Tp(k:Hs)(b9:L T)(g d0:ζ)(A:ε)(c9:eJ A g k)(p:Sl 3 1 CI A d0 b9):aQ 259 #[g,d0] A (PlR k A):=by
 have⟨e1,e2⟩:=bD c9 p;obtain⟨l6,rfl,j3⟩:=c9;obtain⟨h5,e6,g2,e8,rfl,-,i5,f3⟩:=j3;obtain⟨k9,bo,k1,l2,rfl,-,i6,f2⟩:=p;obtain⟨f,d0⟩:=M b9.length;rw[<-d0] at e2 |-;have HN:=Z d0;obtain⟨U,c9⟩:=M k.length;rw[<-c9] at e1 |-;have HM:=Z c9;unfold maxLen at i5 i6;clear d0 c9
 delta aQ;go_in
 go_wp2_with fail;refine aZ.nm (λi5 d0=> ?_);obtain⟨c0,c9⟩:=M A.heap.size;rw[<-c9];have c4:=cY d0;have h2:=dL d0 c9;clear d0 c9;refine sg (uP k b9 _ _ i5 (e1.1.fr c4) (e2.1.f c4)) ?_;rintro b F ⟨⟨w,rfl,n⟩,x⟩;have c5:=(c4.step x);have e3:=(x.hs h2.1);cases w
 .go_wp2
  go_ret;exact⟨_,[],Y,dJ,nG,c5⟩
 have RT:=(n Y);have c4:f<=32:=by have:=bK RT.1;have:=RT.2.1;have:=HN.1;omega
 have c3:N (U=f):=Z (by have:=RT.2.1;have:=HN.1;have:=HM.1;omega);obtain⟨g0,R,f9,c4,c9⟩:=lV aaz;have d0:∀c:ε,(Instr.makeSlice 403 (I f) (I f)).run prog c=.ok (.slice (S (H c.heap.size 0)) f f) (c.alloc (.cells (madeCells #[aV] f) 75)):=λc=>by
  have:=run_make (P:=prog) (w:=c) 403 75 g0 aV underlying403 R f9 .i64 .i64 f f O O (by rw[c9];omega) O;simpa[c4,ζ.cells] using this
 go_wp2_with fail;refine cT (λg5 b8=> ?_);obtain⟨s,d2⟩:=M F.heap.size;obtain⟨i,j2⟩:=M (s+1);rw[<-d2];try rw[show s+1=i by omega]
 have g8:(AA g5 s 444 16 Nl):=(AA.of (by rw[b8];exact aC (bM d2) _) Y (by intro g f7;simp at f7;subst f7;exact⟨_,Y⟩));have f0:=lq b8;have h3:(RR F.heap.size g5 i f 0 (madeCells #[aV] f)):=(RR.zero (by rw[b8];exact bM sO));have C:N (A.heap.size<=s/\A.heap.size<=i/\c0≠s/\c0≠i/\s≠i/\F.heap.size<=s/\F.heap.size<=i/\A.heap.size<=F.heap.size):=Z (gX c5.size (ba e3));clear b8 d2 j2;go_loopg [8,10,12,22] f (λgk s8 s10 s12 s22 wr=>∃(d:E)(m:θ ζ),d+gk=f/\s22=I d/\AA wr s 444 16 Nl/\RR F.heap.size wr i f (20*d) m/\aY wr c0 #[.slice h5 U e8] 54/\Fr j A wr)
 .exact⟨0,_,du,Y,g8,h3,(f0.hs e3),(c5.step f0)⟩
 case round=>
  obtain⟨d,m,a2,rfl,G,c8,D,a9⟩:=hrel;have⟨a6,W,V,t⟩:=gB G c8 D a9;have b8:d<=f:=O;clear D;by_cases b8:d<f
  .obtain⟨a4,d4⟩:=gE b9 d fU
   obtain rfl:=f2.addr d4;have b8:wr.cell? (H bo (k1+d))=S (I a4):=t.1.aF (f2.int d4) id;obtain⟨b8,b9⟩:=RT.2.2 a4 (bQ d4);have⟨e5,e4⟩:=bD (λe v=>jO RT.1 b8 b9 (k:=e) v) (λe v=>js RT.1 b8 b9 (x:=e) v);have b2:=BJ b8 b9;obtain⟨a,rfl⟩:∃a:E,a4=(a:T):=⟨a4.toNat,O⟩;have j0:a<f:=gX HM.1 c3.1;simp only[gu] at b2;obtain⟨⟨l7,g4,d9⟩,f6⟩:∃a4,a4=tx k (a:T):=⟨_,Y⟩;rw[<-f6] at b2 e5 e4;obtain rfl:=f3.addr b2;have⟨a4,b8⟩:=dy d f;have g0:(0:T)<=(a:T):=jD;have a4:(a:T)<(U:T):=oB c3.1;have a4:(a:T)<(f:T):=O;obtain⟨b8,a4,e7,a0,b4,k4,k3⟩:=f3.tn b2;obtain⟨h6,h7,k2,h8,rfl,f8,i8,i3⟩:=k4;obtain⟨l0,l1,l5,l3,rfl,-,i7,f4⟩:=k3;have c6:=Z i3;have h9:=bx V.1;obtain⟨b1,b8⟩:=M g4.length;obtain⟨a3,b2⟩:=M d9.length;simp only at a0 b4;simp only at f8;rw[<-b8] at a0 f8;rw[<-b2] at b4;have⟨h1,HNR⟩:=bD b8 b2;have c7:N (a3<=16):=Z (by
    have a4:=rQ RT.1 (t:=(a:T)) O VG;rw[<-f6] at a4;simp only[tR,bA] at a4
    have:=nK k _ d9 (-1) O a4.1.2;omega)
   unfold maxLen at i8 i7;have h0:=Z a0;replace e7:=t.1.aF e7 id;replace a0:=t.1.aF a0 id;replace b4:=t.1.aF b4 id;clear b8 b2;go_wp2_with fail;obtain⟨i1,rfl⟩:=M gk;obtain⟨a4,j4⟩:=M wr;subst j4;go_loopg [10,33] a3 (λgk s10 s33 wr=>∃(r:E)(m:θ ζ),r+gk=a3/\s33=I r/\AA wr s 444 16 Nl/\RR F.heap.size wr i f (20*d+r) m/\aY wr c0 #[.slice (S (H e6 g2)) U e8] 54/\Fr j A wr)
   .exact⟨0,m,du,Y,a6.1,W.1,V.1,t.1⟩
   case round=>
    obtain⟨r,m,l4,rfl,G,c8,D,a9⟩:=hrel;have⟨a6,W,V,t⟩:=gB G c8 D a9;have A:r<=a3:=O;clear D;by_cases A:r<a3
    .obtain⟨e,v⟩:=gE d9 r Sh
     obtain rfl:=(f4).addr v;obtain⟨g1,j8,-⟩:=e4.1 e (bQ v);obtain⟨g6,A⟩:=e;obtain⟨z,rfl⟩:∃a:E,g6=(a:T):=⟨g6.toNat,by simp only at g1;omega⟩;simp only at g1 j8;obtain⟨e9,A⟩:=(f4.f t.1).tk v;simp only at e9 A;have⟨j9,k0⟩:=dy r a3;go_upto_region 11 with fail;refine cT (λa5 d6=> ?_);obtain⟨g3,d1⟩:=M wr.heap.size;rw[<-d1];have b5:=cY d6;have e0:=(a6.1.fr b5 id);have Q:=(W.1.fr b5 id (λ_ _ e=>e));obtain⟨A,d5⟩:∃g,m[a]? =S g:=⟨_,ju (by rw[W.1.sz];exact j0)⟩;obtain⟨l,a4,a3,b0,j6⟩:=Q.row a A d5;obtain⟨X,a1,rfl,-,-⟩:=bB b0;have A:l<=1000:=oB c7.1;obtain⟨k6,j7,y,rfl⟩:=e0.get (i:=z) O;have A:=λc(x:Fr j a5 c)=>bx ((yY d6 d1).1 _ x);have A:∀c,Fr j a5 c->c.cell? (H s z)=S (I y):=λc x=>x.aF j7 id;have A:∀c,Fr j a5 c->c.cell? (H i a)=S (.slice X l a1):=λc x=>x.aF ((aj Q.hq a).trans d5) id;clear d6 d1;refine gL [14] [15,17] [2,3,4,5,6,7,8,9,10,11,12,13,15] (λix=>if ix=15 then λh w=>Fr (λd=>(ζ.slice X l a1).ownBlock=S d) h w/\iW i a (a+1) 75 h w else λh w=>bT i h w/\fE 75 h i/\iW i a (a+1) 75 h w) (λh w=>Fr (λd=>(ζ.slice X l a1).ownBlock=S d\/d=i) h w/\iW i a (a+1) 75 h w) [[],[],[],[],[2,3],[2,3,4],[],[6],[],[8],[8,9],[8,9,10],[8,9,10,11],[6,7,8,9,10,11,12],[6,7,8,9,10,11,12,13],[2,3,4,5,6,7,8,9,10,11,12,13,14],[0,1],[0,1,2,3,4,5,6,7,8,9,10,11,12,13,15,16]] [.eq 0 (.slice (S (H i 0)) f f),.eq 1 (I a),.eq 2 (.slice (S (H i 0)) f f),.eq 3 (I a),.eq 4 (aP i a),.eq 5 (.slice X l a1),.eq 6 (aP g3 0),.eq 7 (I z),.eq 8 (aP g3 0),.eq 9 (I z),.eq 10 (aP s z),.eq 11 (I y),.w1 12 (λg c=>∃y,g=I y),.w1 13 (λg c=>∃y,g=.agg #[I z,I y]),.w1 14 (λg c=>∃y c2,g=.slice (S (H c2 0)) 1 1/\aY c c2 #[I z,I y] 203),.w1 15 (λg c=>∃h u B,g=.slice h (l+1) u/\c.ownsRow F.heap.size 203 2 g (l+1) B/\(∀A∈B,Nl A)/\(g.ownBlock=(ζ.slice X l a1).ownBlock\/∀d,g.ownBlock=S d->a5.heap.size<=d)),.eq 16 (aP i a),.w1 15 (λg c=>∃h u B,g=.slice h (l+1) u/\c.ownsRow F.heap.size 203 2 g (l+1) B/\(∀A∈B,Nl A)/\(g.ownBlock=(ζ.slice X l a1).ownBlock\/∀d,g.ownBlock=S d->a5.heap.size<=d)/\aY c i (m.setIfInBounds a g) 75)] [[0],[1],[2],[3],[4],[5],[6],[7],[8],[9],[10],[11],[12],[13],[14],[15],[16],[15]] kR kR kR kR Y (λ_ _ _ _ b k=>⟨b.symm.trans k.1,k.2⟩) (λ_ _ x=>⟨x.mono (λ_ _ e=>e.elim),iW.apart x id⟩) (λ_ _ _ k d=>⟨k.1.tr d.1,k.2.trans d.2⟩) ?hma ?hstab ?hstabM (λx=> ?_)
     case hma=>
      intro a R h w b6;simp only[rB] at R;rcases R with rfl|rfl
      .exact⟨b6.1.mono (λ_ _ e=>.inl e),b6.2⟩
      exact⟨b6.1.mono (λ_ _ e=>.inr e),b6.2.2⟩
     case hstab=>exact Il
     case hstabM=>
      intro a R;simp only[rB] at R;rcases R with rfl|rfl;all_goals(refine⟨?_,?_,?_,?_,?_,?_,?_,?_,?_,?_,?_,?_,?_,?_,?_,?_,?_,?_,trivial⟩<;>first|exact wZ|exact λ_ _ _ _ _ _ ⟨h,u,B,b,p,k⟩ U=>⟨h,u,B,b,U.1.owns p (λd a2 b=>by subst b;exact(aW p a2).2.ne U.2.1 J Y),k⟩)
     refine⟨?_,?_,?_,?_,?_,?_,?_,?_,?_,?_,?_,?_,?_,?_,?_,?_,?_,?_,?_⟩;all_goals first|exact Ca|skip
     .refine IG ?_
      intro c n b3 o;go_simp;exact o _ _ rF ⟨_,Y⟩
     .refine VN 12 ?_
      intro c n b3 o w;obtain⟨y,b⟩:=w;simp only[b] at o;go_simp;exact o _ _ rF ⟨_,Y⟩
     .refine VN 13 ?_
      intro c n b3 o w;obtain⟨y,b⟩:=w;simp only[b] at o;go_simp;exact o _ _ cZ ⟨_,_,Y,bM Y⟩
     .refine rc2 5 14 ?_
      intro c n a8 b3 o i0 w;obtain⟨g7,c2,b,i2⟩:=w;rw[aS (by first|rfl|go_simp)];refine aaC fX (.tmp 42) (.tmp 51) fX XF i0 (n.owns b0 (λ_ _ e=>e)) b Y (eF.block i2 oC) O mL (by have:=n.size;have:=ba Q.hq;have:=C.1;omega) ?_;intro w x p f5 i4;obtain⟨k7,k8,rfl,-,-⟩:=bB p;exact o _ _ ⟨gJ f5,iW.apart (gJ f5) (λb=>(aW b0 b).2.ne ⟨_,_,Q.hq⟩ J Y)⟩ ⟨_,_,_,Y,p,Qa j6 _ _,i4.imp id (λk d a2=>bX n.size (k d a2))⟩
     .intro c n a8 b3 o
      have x:=a8 1 J;have w:=a8 15 J;simp only[rX,ξ] at n x w a8 o |-;(try simp only[a8] at o);obtain⟨h,u,B,b,p,d7,b7⟩:=w;obtain⟨c1,d8,K,i9⟩:=n.2 _ Q.hq;have f9:c1.size=f:=d8.trans Q.sz;obtain⟨w,f⟩:∃g,c1[a]? =S g:=⟨_,ju O⟩;have g:=(aj K a).trans f;have g7:=λa=>aG K a;rw[b] at p b7;simp only[b] at o;go_simp;have f1:bT i c (c.setCell (H i a) (.slice h (l+1) u)):=rF.aK _ _;refine o undef _ ⟨f1,⟨_,_,K⟩,iW.set _ eG O⟩ ⟨h,u,B,Y,f1.owns p (λd a2 b=>by subst b;exact(aW p a2).2.ne ⟨_,_,K⟩ J Y),d7,b7,?_⟩;have d3:=aD K a (.slice h (l+1) u);rwa[show c1.setIfInBounds a (.slice h (l+1) u)=m.setIfInBounds a (.slice h (l+1) u) from by
       apply kF;intro r;by_cases b:a=r
       .subst b
        rw[nQ,nQ,d8]
       rw[ew b,ew b];exact i9 r O] at d3
     refine re1 17 ?_;intro c n f;obtain⟨h,u,B,b,p,d7,b7,K⟩:=f;have RP:=Z (Q.put d5 n.1 (M:=20*d+r) (m:=l+1) O p d7 b7 K);rw[b] at RP;have g:∀{q:E}{m:θ ζ}{f:TypeId},aY a5 q m f->f≠203->q≠i->aY c q m f:=λk c D=>n.1.aB k (λe=>e.elim (λe=>(aW b0 e).2.ne ⟨_,_,k⟩ (dX c) Y) (λe=>D e));have c:=(g (b5.hs V.1) J C.1.2.2.2.1);have f:=c7.1;clear K;go_wp2;go_roundg (gk-1)
     .exact⟨r+1,_,O,by go_num,(by obtain⟨m,f,h⟩:=e0;exact⟨m,g f J C.1.2.2.2.2.1,h⟩),RP.1,c,((t.1.step b5).keep n.1 (λa e=>e.elim (λe=>by have:=(aW b0 e).1;have:=C.1;omega) (λe=>by subst e;exact C.1.2.1)))⟩
     omega
    have h9:=bx V.1;have a0:wr.cell? (H e6 (g2+a*3+1))=S (.slice h6 b1 h8):=t.1.aF h0.1 id;go_wp2_with fail;obtain⟨k5,j5⟩:=M wr;subst j5;go_loopg [12,62] b1 (λgk s12 s62 wr=>∃P:E,P+gk=b1/\s62=I P/\AA wr s 444 16 Nl/\bT s k5 wr)
    .exact⟨0,du,Y,a6.1,rF⟩
    case round=>
     obtain⟨P,j1,rfl,G,a9⟩:=hrel;have a7:=Z a9;by_cases c:P<b1
     .obtain⟨e,v⟩:=gE g4 P (oB h1.1)
      obtain rfl:=c6.1.addr v;obtain⟨c,f⟩:=e5.1 e (bQ v);obtain⟨z,rfl⟩:∃a:E,e=(a:T):=⟨e.toNat,O⟩;have e9:wr.cell? (H h7 (k2+P))=S (I z):=a7.1.aF (t.1.aF (c6.1.int v) id) (λb=>by have:=vL _ _ (c6.1.int v);simp only at b this;have:=C.1;omega);have⟨j9,k0⟩:=dy P b1;obtain⟨y,d8,k6,rfl⟩:=G.get (i:=z) O;have g7:=G.free;go_wp2;go_roundg (gk-1)
      .exact⟨P+1,O,by go_num,G.set _ ⟨_,Y⟩,a7.1.tr (rF.aK _ _)⟩
      omega
     have g9:=G;have h4:=Z ((W.1.mono (show 20*d+r<=20*(d+1) by have:=c7.1;omega)).fr a7.1 (λb=>C.1.2.2.2.2.1 b.symm) (λq D b=>by subst b;exact D.ne a6.1.uQ J Y));have e:=(a7.1.aB V.1 (λb=>C.1.2.2.1 b));have c:=(t.1.keep a7.1 (λa b=>b▸C.1.1));go_wp2;go_roundg (i1-1)
     .exact⟨d+1,m,O,by go_num,g9,h4.1,e,c⟩
     omega
  go_wp2;go_ret;obtain⟨a,j1,d3⟩:=W.1.read (by simp[maxLen];omega);exact⟨_,a,Y,d3,gX HM.1 c3.1,t.1⟩
theorem MS{a:Hs}(d:bm a=γ)(b:0<=i1)(c:i1<(a.length:T)):0<=(tx a i1).s/\(tx a i1).s<8:=by
 have:=rQ d b c;simp only[tR,bA,cS] at this;exact this.2
theorem Fh(a:Hs)(i:L T)(U V:ζ)(f:ε)(K:eJ f U a)(P:Sl 3 1 CI f V i):aQ 210 #[U,V] f (BA f):=by
 have w:=K;have x:=P;obtain⟨c9,rfl,b1⟩:=K;obtain⟨b6,b9,c7,c1,rfl,-,a8,p⟩:=b1;obtain⟨b7,bo,c8,c2,rfl,-,a9,D⟩:=P;obtain⟨e,c⟩:=M i.length;rw[<-c] at x |-;have HN:=Z c;obtain⟨h,b⟩:=M a.length;rw[<-b] at w |-;have HM:=Z b;unfold maxLen at a8 a9;clear c b
 delta aQ;go_in
 go_wp2_with fail;refine aZ.nm (λW d=> ?_);obtain⟨K,b⟩:=M f.heap.size;rw[<-b];have c:=cY d;have y:=yY d b;clear d b;refine sg (uP a i _ _ W (w.fr c) (x.f c)) ?_;rintro K b2 ⟨⟨a5,rfl,b⟩,g⟩;have a3:=Z b;have d:=bx (y.1 _ g);clear b;cases a5
 .go_wp2
  go_ret;exact⟨⟨_,Y⟩,c.step g⟩
 have RT:=Z (a3.1 Y);have K:h<=32:=gX (bK RT.1.1) HM.1;have a1:N (h=e):=Z (by have:=RT.1.2.1;have:=HN.1;have:=HM.1;omega);go_wp2_with fail;clear d;refine sg (Tp a i _ _ b2 (w.fr (c.step g)) (x.f (c.step g))) ?_;rintro w b3 ⟨x,R,rfl,Q,c4,a7⟩;have m:=(g.step a7);have HS:=Q;obtain⟨b5,b8,c6,c0,rfl,-,-,C⟩:=Q;obtain⟨l,b⟩:=M R.length;rw[<-b];have a4:=Z b;have g:l<=h:=oB HM.1;clear b;go_wp2_with fail;go_loopg [5,6,19] l (λgk s5 s6 s19 wr=>∃b:E,b+gk=l/\s19=I b/\Fr j b3 wr)
 .exact⟨0,du,Y,rF⟩
 case round=>
  obtain⟨b,b0,rfl,d⟩:=hrel;have HK:=Z b0;have o:=(c.step (m.step d));have c:=bx (y.1 _ (m.step d));by_cases c:b<l
  .obtain⟨A,s⟩:=gE R b (oB a4.1)
   obtain rfl:=C.addr s;obtain⟨X,-,⟨z,rfl,k⟩,v⟩:=(C.f d).2 b A s;have u:=v 0 z Y;obtain⟨c,r⟩:=gE a b VG;obtain rfl:=p.addr r;obtain⟨r,g,-,-,c,-,SR⟩:=(p.f o).tn r;obtain⟨F,a0,rfl,-,-⟩:=k.slice;obtain⟨B,G,rfl,-,-⟩:=SR.slice;have⟨c,g⟩:=dy b l;have c:(b:T)<(h:T):=O;rw[gA,fI] at u;go_wp2_with fail;refine sg (IV _ _ _ _ wr k SR) ?_;rintro c g ⟨⟨t,rfl⟩,n⟩;cases t
   .go_wp2
    go_ret;exact⟨⟨_,Y⟩,(o.step n)⟩
   go_wp2;go_roundg (gk-1)
   .exact⟨b+1,oB HK.1,by go_num,(d.step n)⟩
   have:=HK.1;omega
  go_wp2_with fail;refine cT (λX r=> ?_);obtain⟨k,n⟩:=M wr.heap.size;rw[<-n];have G:=cY r;have a0:AA X k 406 8 Nl:=(AA.of (by rw[r];exact bM n) Y (by intro b s;simp at s;subst s;exact⟨_,Y⟩));have a2:=(m.step (d.step G));have F:(f.heap.size<=k/\W.heap.size<=k):=(gX o.size ((m.step d).size));clear r n;go_loopg [9,10,36] e (λgk s9 s10 s36 wr=>∃b:E,b+gk=e/\s36=I b/\AA wr k 406 8 Nl/\bT k X wr)
  .exact⟨0,du,Y,a0,rF⟩
  case round=>
   obtain⟨s,c3,rfl,t,u⟩:=hrel;have n:=((o.step G).keep u (λc b=>b▸F.1));have b:=bx (y.1 _ (a2.keep u (λc b=>b▸F.2)));by_cases b:s<e
   .obtain⟨B,z⟩:=gE i s fU
    obtain rfl:=D.addr z;have b:=n.aF (D.int z) id;obtain⟨b,c⟩:=RT.1.2.2 B (bQ z);obtain⟨s0,s1⟩:=MS RT.1.1 b c;have v:=BJ b c;obtain⟨r,rfl⟩:∃b:E,B=(b:T):=⟨B.toNat,O⟩;simp only[gu] at v;obtain⟨c,b,a6,-,-,-,-⟩:=(p.f n).tn v;obtain rfl:=p.addr v;obtain⟨A,a⟩:∃b:E,(tx a (r:T)).s=(b:T):=⟨(tx a (r:T)).s.toNat,O⟩;rw[a] at a6;have s8:(A:T)<8:=O;have s00:(0:T)<=(A:T):=jD;have⟨a,b⟩:=dy s e;have a:(r:T)<(h:T):=oB HM.1;obtain⟨d0,c5,b4,rfl⟩:=t.get (i:=A) O;have a:=t.free;have a:e<=32:=oB a1.1;by_cases a:(r:T)<b4
    .go_wp2
     all_goals(go_ret;exact⟨⟨_,Y⟩,n⟩)
    go_wp2;go_roundg (gk-1)
    .exact⟨s+1,O,by go_num,t.set _ ⟨_,Y⟩,u.tr (rF.aK _ _)⟩
    omega
   go_wp2;go_ret;exact⟨⟨_,Y⟩,n⟩
structure SM(W:ε)(qm:E)(sv:ζ)(P:E->E->T):Prop where
 ex:∃cs:θ ζ,aY W qm cs 411/\cs.size=513/\cs[0]? =S sv/\∀k t:E,k<16->t<32->cs[1+k*32+t]? =S (I (P k t))
theorem SM.fr{P:E->E->T}{S:E->Prop}(a:SM W m x P)(d:Fr S W V)(e:¬S m):SM V m x P:=by
 obtain⟨c,a,b⟩:=a.ex;exact⟨c,d.aB a e,b⟩
theorem SM.get{P:E->E->T}(a:SM W m x P){k t:E}(c:k<16)(d:t<32):W.cell? (H m (1+k*32+t))=S (I (P k t)):=by
 obtain⟨e,a,-,-,b⟩:=a.ex;exact(aj a _).trans (b k t c d)
theorem SM.h0{P:E->E->T}(a:SM W m x P):W.cell? (H m 0)=S x:=by
 obtain⟨c,a,-,b,-⟩:=a.ex;exact(aj a _).trans b
def QG(P:E->E->T)(a:E)(b:T)(c:E):κ:=decide (0<P a c)&&(decide (b<0)||(decide (0<P a b.toNat)&&decide (P a b.toNat<P a c)))
theorem zl(P:E->E->T)(l:E)(m:ζ)(a:E)(c:T)(b:E)(h:ε)(f:SM h l m P)(k:a<16)(m:c<32)(m:b<32):
  aQ 325 #[aP l 0,I a,I c,I b] h (BR (QG P a c b) h):=by
 have h:=f.get k m;have l:(0:T)<=(a:T):=jD;have l:(a:T)<16:=O;have l:(0:T)<=(b:T):=jD;have l:(b:T)<32:=O;obtain⟨i,d⟩:=M (P a b);rw[<-d] at h;by_cases g:c<0
 .have e:N (QG P a c b=decide (0<i)):=Z (by unfold QG;rw[d];simp[g])
  clear d f
  delta aQ;go_in
  go_wp2;all_goals(go_ret;exact BR.me (by rw[e.1];simp_all))
 obtain⟨e,rfl⟩:∃h:E,c=(h:T):=⟨c.toNat,O⟩;have k:=f.get k (show e<32 by omega);have c:(0:T)<=(e:T):=jD;obtain⟨h,c⟩:=M (P a e);rw[<-c] at k;have a:N (QG P a e b=(decide (0<i)&&(decide (0<h)&&decide (h<i)))):=Z (by unfold QG;rw[gu,<-d,<-c,bV g];rfl);clear d c f g
 delta aQ;go_in
 go_wp2;all_goals(go_ret;exact BR.me (by rw[a.1,dS];simp only[bA,eN,cS,kv,κ.true_eq,false_iff,ll,false_or,or_false] at*;omega))
theorem Qk(c:T)(q:E)(b:Tk)(a:ε)(d:aY a q #[I c] 3):aQ 323 #[mC b,aP q 0] a (BR (b.f==c) a):=by
 have a:=λa=>bx (aC d a);unfold mC
 delta aQ;go_in
 go_wp2;go_ret;exact BR.of Y cZ
section
variable {P:E->E->T} {qm p3 p4 p5:E} {sv:ζ} {W:ε}
theorem Ti(b c:E)(a:T)(e:SM W qm sv P)(l:0<=a/\a<16)(l:b<32)(i:c<32)(f:aY W p3 #[aP qm 0] 407)(g:aY W p4 #[I b] 3)(h:aY W p5 #[I c] 3):
  aQ 324 #[I a,aP p3 0,aP p4 0,aP p5 0] W (BR (QG P a.toNat (b:T) c) W):=by
 obtain⟨k,rfl⟩:∃d:E,a=(d:T):=⟨a.toNat,O⟩;have a:=bx f;have a:=bx g;have a:=bx h;rw[gu]
 delta aQ;go_in
 go_wp2_with fail;refine sg (zl P qm sv k (b:T) c W e O O i) ?_;rintro b a ⟨rfl,d⟩;go_wp2;go_ret;exact BR.of Y d
theorem Nx(b:E)(a:Tk)(f:SM W qm sv P)(i:0<=a.k/\a.k<16)(c:a.f<32)(k:b<32)(g:aY W p3 #[aP qm 0] 407)(h:aY W p5 #[I b] 3):
  aQ 326 #[mC a,aP p3 0,aP p5 0] W (BR (QG P a.k.toNat a.f b) W):=by
 obtain⟨d,m⟩:=a;simp only at i c;obtain⟨l,rfl⟩:∃a:E,d=(a:T):=⟨d.toNat,O⟩;have a:=λa=>bx (aC g a);have a:=λa=>bx (aC h a);simp only[gu];unfold mC
 delta aQ;go_in
 go_wp2_with fail;refine sg (zl P qm sv l m b _ ((λa=>f.fr ((Fr.refl j W).alloc a) id) _) O c k) ?_;rintro b a ⟨rfl,e⟩;go_wp2;go_ret;exact BR.of Y (cZ.step e)
end
theorem MA(c:Hs)(P:E->E->T)(n:E)(e:ζ)(b g:E)(a:ε)(l:SM a n e P)(G:eJ a (.agg #[e]) c)(d:bm c=γ)(t:b<c.length)(R:g<c.length):
  aQ 302 #[aP n 0,I b,I g] a (BA a):=by
 have y:=Z d;have p:=(bK d);have z:=Z (And.intro t R);obtain⟨x,k,K⟩:=G;obtain rfl:e=x:=sU k;obtain⟨U,s,v,C,rfl,-,F,o⟩:=K;obtain⟨u,e⟩:=M c.length;rw[<-e] at l;have HN:=Z e;unfold maxLen at F;clear k e d;by_cases Q:b=g
 .subst Q
  delta aQ;go_in
  go_wp2;go_ret;exact⟨⟨_,Y⟩,cZ.alloc _⟩
 have e:((b:T) !=(g:T))=γ:=sO;obtain⟨w,m⟩:=gE c b t;obtain rfl:=o.addr m;have r:=Z (λf d=>js y.1 (t:=(b:T)) O O (x:=f) d);rw[iJ m] at r;obtain⟨e,c,-,-,B,-,SR⟩:=o.tn m;obtain⟨A,D,rfl,-,-⟩:=SR.slice;have c:(0:T)<=(b:T):=jD;have c:(b:T)<(u:T):=oB HN.1;have m:∀e c,((a.alloc e).alloc c).cell? (H s (v+b*3+2))=S (.slice A w.r.length D):=λe c=>(((Fr.refl j a).alloc e).alloc c).aF B id;have b:∀e c,((a.alloc e).alloc c).cell? (H n 0)=S (.slice (S (H s v)) u C):=λe c=>(((Fr.refl j a).alloc e).alloc c).aF l.h0 id
 delta aQ;go_in
 go_wp2_with fail;refine aZ.nm (λn b=> ?_);obtain⟨e,c⟩:=M a.heap.size;obtain⟨m,t⟩:=M (e+1);rw[<-c];try rw[show e+1=m by omega]
 have i:=lq b;have o:=uV b c;have s:(aY n m #[I g] 3):=(by rw[b];exact bM sO);clear b c t;refine sg (lS 326 #[aP e 0,aP m 0] _ w.r (λf=>QG P f.k.toNat f.f g) n (λb a=>by simp[go_sem]) (SR.f i) (λb f a d h=> ?_)) ?_
 .obtain⟨a,b,c⟩:=r.1 f (bQ d)
  exact Nx g f ((l.fr i id).fr h id) ⟨a,b⟩ (oB p) (gX p z.1) (h.hs o.1) (h.hs s)
 rintro k a ⟨rfl,h⟩;go_wp2;go_ret;exact⟨⟨_,Y⟩,(i.step h)⟩
theorem Er(m:Hs)(P:E->E->T)(r:E)(A:ζ)(a b:E)(i:ε)(y:SM i r A P)(a4:eJ i (.agg #[A]) m)(k:bm m=γ)(l:a<m.length)(n:b<m.length):
  aQ 301 #[aP r 0,I a,I b] i (BA i):=by
 have W:=Z k;have K:=(bK k);have F:=Z (And.intro l n);obtain⟨V,p,a5⟩:=a4;obtain rfl:A=V:=sU p;obtain⟨b4,e,f,a1,rfl,-,a3,t⟩:=a5;obtain⟨z,d⟩:=M m.length;rw[<-d] at y;have HN:=Z d;unfold maxLen at a3;obtain⟨h,c⟩:=gE m a l;obtain⟨g,o⟩:∃s,m[b]? =S s:=⟨_,cF n⟩;obtain rfl:=t.addr c;have Q:=Z (λs m=>jO W.1 (t:=(a:T)) O O (k:=s) m);rw[iJ c] at Q;obtain⟨A,m,D,G,-,SW,-⟩:=t.tn c;obtain⟨t,m,R,-,U,-,SR⟩:=t.tn o;obtain⟨v,x,rfl,-,-⟩:=SW.slice;obtain⟨u,w,rfl,-,-⟩:=SR.slice;have m:(0:T)<=(a:T):=jD;have m:(a:T)<(z:T):=oB HN.1;have m:(0:T)<=(b:T):=jD;have m:(b:T)<(z:T):=oB HN.1;clear c o p d k l n
 delta aQ;go_in
 go_upto_region 1 with fail;refine cT (λm c=> ?_);obtain⟨o,l⟩:=M i.heap.size;obtain⟨k,t⟩:=M (o+1);obtain⟨p,A⟩:=M (k+1);rw[<-l];try rw[show o+1+1=p by omega]
 try rw[show o+1=k by omega]
 have d:=Ol c;have B:=qa2 c l;have s:N (∀n,Fr j m n->aY n k #[I a] 3):=Fr.all (by rw[c];exact aC (bM sO) _);have C:N (∀n,Fr j m n->aY n p #[I b] 3):=Fr.all (by rw[c];exact bM sO);have i:N (i.cell? (H e (f+a*3))=S (I h.s)/\i.cell? (H e (f+b*3))=S (I g.s)/\i.cell? (H e (f+a*3+1))=S (.slice v h.w.length x)/\i.cell? (H e (f+b*3+2))=S (.slice u g.r.length w)):=Z ⟨D,R,G,U⟩;clear c l t A D R G U;have e:∀c,Fr j m c->(∀l:aX c,l.w.cell? (H o 0)=S (aP r 0))/\(∀l:aX c,l.w.cell? (H k 0)=S (I a))/\(∀l:aX c,l.w.cell? (H p 0)=S (I b))/\(∀l:aX c,l.w.cell? (H r 0)=S (.slice (S (H e f)) z a1))/\
   (∀l:aX c,l.w.cell? (H e (f+a*3))=S (I h.s))/\(∀l:aX c,l.w.cell? (H e (f+b*3))=S (I g.s))/\(∀l:aX c,l.w.cell? (H e (f+a*3+1))=S (.slice v h.w.length x))/\(∀l:aX c,l.w.cell? (H e (f+b*3+2))=S (.slice u g.r.length w)):=λe c=>
  ⟨λe=>aj (B.1 _ (c.step e.fr)) 0,λe=>aj (s.1 _ (c.step e.fr)) 0,λe=>aj (C.1 _ (c.step e.fr)) 0,λe=>(d.step (c.step e.fr)).aF y.h0 id,λe=>(d.step (c.step e.fr)).aF i.1.1 id,λe=>(d.step (c.step e.fr)).aF i.1.2.1 id,λe=>(d.step (c.step e.fr)).aF i.1.2.2.1 id,λe=>(d.step (c.step e.fr)).aF i.1.2.2.2 id⟩
 have G:=Z e;obtain⟨a0,a2,a6,a7,a8,a9,b0,b1⟩:=e m rF;clear e;obtain⟨U,e⟩:=M (decide (a<b));have l:=e.symm;clear e;obtain⟨X,e⟩:=M (h.s==g.s);have D:=e.symm;clear e;cases U<;>cases X
 all_goals refine bj kR kR ?_
 all_goals repeat(go_big_quiet_step (fail))
 all_goals refine wpQuiet_nil ?_
 all_goals intro R hw
 all_goals have n:=Z (bI hw)
 all_goals clear hw l D a0 a2 a6 a7 a8 a9 b0 b1
 case true.true=>
  go_wp2;go_ret;exact⟨⟨_,Y⟩,d.step n.1⟩
 all_goals
  obtain⟨m,r,t,z,A,D,U,V⟩:=G.1 R n.1;have e:∀e:aX R,aQ 322 #[.slice u g.r.length w,.func (.func 323) #[] #[aP k 0]] e.w λi f=>i=.returned (.bool (g.r.any (λi=>i.f==(a:T))))/\Fr j e.w f:=λe=>
   lS 323 #[aP k 0] _ g.r (λf=>f.f==(a:T)) e.w (λf i=>by simp[go_sem]) (SR.f (d.step (n.1.step e.fr))) (λu i f l c=>Qk (a:T) k i f (s.1 _ (n.1.step (e.fr.step c))))
  obtain⟨a0,g⟩:=M (g.r.any (λf=>f.f==(a:T)));rw[<-g] at e;have f:=Z e;clear g e;go_wp2_with fail;refine bj kR kR ?_;repeat(go_big_quiet_step ((first|(go_at_call 322;exact aX.call _ (f.1 _)))))
  refine wpQuiet_nil ?_;intro g hw;have l:=(n.1.step (bI hw));clear hw m r t z A D U V f;obtain⟨a6,a7,a8,a9,b0,b1,b2,b3⟩:=G.1 g l;have c:∀e:aX g,aQ 202 #[.slice v h.w.length x,.func (.func 324) #[] #[aP o 0,aP k 0,aP p 0]] e.w λg f=>g=.returned (.bool (h.w.any (λg=>QG P g.toNat (a:T) b)))/\Fr j e.w f:=λe=>
   ux 324 _ _ h.w (λf=>QG P f.toNat (a:T) b) e.w (λf g=>by simp[go_sem]) (SW.f (d.step (l.step e.fr))) (λk f i g c=>Ti a b f ((y.fr d id).fr (l.step (e.fr.step c)) id) (Q.1 f (bQ g)) (gX K F.1) (gX K F.1) (B.1 _ (l.step (e.fr.step c))) (s.1 _ (l.step (e.fr.step c))) (C.1 _ (l.step (e.fr.step c))))
  obtain⟨b,a⟩:=M (h.w.any (λe=>QG P e.toNat (a:T) b));rw[<-a] at c;have D:=Z c;clear a c;cases a0
  all_goals
   go_wp2_with fail;refine bj kR kR ?_;(repeat(go_big_quiet_step ((first|(go_at_call 202;exact aX.call _ (D.1 _))))));refine wpQuiet_nil ?_;intro a hw;have a2:=(l.step (bI hw));clear hw a6 a7 a8 a9 b0 b1 b2 b3 D;go_wp2;go_ret;exact⟨⟨_,Y⟩,d.step a2⟩
def NxR(g:E)(c:ε)(f:Ending)(a:ε):Prop:=∃b d e,f=.returned b/\cC c.heap.size 3 1 CI a b d e/\(∀b∈d,0<=b/\b<(g:T))/\Fr j c a
theorem Oa(e:Hs)(P:E->E->T)(m:E)(v:ζ)(w:E)(d:ε)(f:SM d m v P)(V:eJ d (.agg #[v]) e)(t:bm e=γ)(b3:w<e.length):
  aQ 263 #[aP m 0,I w] d (NxR e.length d):=by
 have p:=V;obtain⟨a1,a8,b2⟩:=V;obtain rfl:v=a1:=sU a8;obtain⟨b4,b5,rfl,-,-⟩:=b2.slice;obtain⟨a,b⟩:=M e.length;rw[<-b] at f p |-;have HN:=Z b;have v:a<=32:=oB (bK t);have v:=f.h0;clear b
 delta aQ;go_in
 go_wp2_with fail;go_loopg [5,6,7,14] a (λgk s5 s6 s7 s14 wr=>∃(c:E)(g:L T)(h:ι Addr)(b i:E)(k:L (L ζ)),c+gk=a/\s14=I c/\s5=.slice h b i/\g.length=b/\b<=c*33/\cC d.heap.size 3 1 CI wr (.slice h b i) g k/\(∀b∈g,0<=b/\b<(a:T))/\Fr j d wr)
 .exact⟨0,[],η,0,0,[],du,Y,Y,Y,nG,qG,sI,rF⟩
 case round=>
  obtain⟨c,W,a4,u,a7,C,b7,rfl,rfl,b1,b8,A,b0,g⟩:=hrel;have⟨HL,r⟩:=bD b1 b0;by_cases v:c<a
  .have v:(0:T)<=(c:T):=jD
   have v:(c:T)<(a:T):=O;go_wp2_with fail;refine sg (Er e P m _ w c wr (f.fr g id) (p.fr g) t b3 fU) ?_;rintro v w ⟨⟨a6,rfl⟩,U⟩;have o:=(g.step U);have G:=(A.f U);cases a6
   .go_wp2
    go_roundg (gk-1)
    .exact⟨c+1,W,a4,u,a7,C,O,by go_num,Y,HL.1,O,G,r.1,o⟩
    omega
   go_wp2_with (at_builtin;refine stop ?_);refine aZ.go (bH Y (.tmp 22) (.tmp 24) Y oG u HL.1 Y (G.f cZ) iA id (c:T) Y Y (eF.one _ _ _ Y) (λ_ _=>Y) O mL (by have:=o.size;simp;omega) ?_);intro X a0 U a3 v w G;have y:=((o.alloc _).keep v.1 (λh b=>v.2 h b));have o:=y.aF f.h0 id;go_wp2_with fail;obtain⟨a9,rfl⟩:=M gk;go_loopg [5,7,32] a (λgk s5 s7 s32 wr=>∃(h:E)(i:L T)(k:ι Addr)(b l:E)(n:L (L ζ)),h+gk=a/\s32=I h/\s5=.slice k b l/\i.length=b/\b<=c*33+1+h/\cC d.heap.size 3 1 CI wr (.slice k b l) i n/\(∀b∈i,0<=b/\b<(a:T))/\Fr j d wr)
   .exact⟨0,_,X,u+1,a0,_,du,Y,Y,(by simp[HL.1]),O,a3,(λh d=>by rcases cB.1 d with b|b;exact r.1 h b;simp at b;subst b;omega),y⟩
   case round=>
    obtain⟨b,x,K,l,Q,D,b6,rfl,rfl,i,b9,B,s,h⟩:=hrel;have d:b<=a:=O;by_cases d:b<a
    .have d:(0:T)<=(b:T):=jD
     have a:(b:T)<(a:T):=O;go_wp2_with fail;refine sg (MA e P m _ c b wr (f.fr h id) (p.fr h) t fU fU) ?_;rintro a d ⟨⟨a5,rfl⟩,R⟩;have n:=(h.step R);have F:=(B.f R);cases a5
     .go_wp2
      go_roundg (gk-1)
      .exact⟨b+1,x,K,l,Q,D,O,by go_num,Y,i,O,F,s,n⟩
      omega
     go_wp2_with (at_builtin;refine stop ?_);refine aZ.go (bH Y (.tmp 39) (.tmp 41) Y oG l i Y (F.f cZ) iA id (b:T) Y Y (eF.one _ _ _ Y) (λ_ _=>Y) O mL (by have:=n.size;simp;omega) ?_);intro a d m a2 z e f;go_wp2;go_roundg (gk-1)
     .exact⟨b+1,x++[(b:T)],a,l+1,d,_,O,by go_num,Y,by simp[i],O,a2,λb a=>by rcases cB.1 a with k|k;exact s b k;simp at k;subst k;omega,((n.alloc _).keep z.1 (λb a=>z.2 b a))⟩
     omega
    go_wp2;go_roundg (a9-1)
    .exact⟨c+1,x,K,l,Q,D,O,by go_num,Y,i,O,B,s,h⟩
    omega
  go_wp2;go_ret;exact⟨_,W,C,Y,A,r.1,g⟩
def zc(a:L T):E:=a.countP (λa=>decide (a<=0))
theorem Qi:∀(b:L T)(d:E)(c:T),0<c->zc (b.set d c)<=zc b
 |[],c,b,h=>by simp
 |a::r,0,b,h=>by
  simp only[zc,L.set_cons_zero,L.countP_cons];have:decide (b<=0)=δ:=sU h;simp[this]
 |a::r,c+1,b,h=>by
  have:=Qi r c b h;simp only[zc,sM,L.countP_cons] at this |-;omega
theorem ZS:∀(b:L T)(e:E)(d c:T),b[e]? =S c->c<=0->0<d->zc (b.set e d)<zc b
 |[],d,c,b,hx,_,h=>by simp at hx
 |a::r,0,b,c,hx,hu,h=>by
  simp at hx;subst hx;simp only[zc,L.set_cons_zero,L.countP_cons];have b:decide (b<=0)=δ:=sU h;have c:decide (a<=0)=γ:=sU hu;simp[b,c]
 |a::r,d+1,c,b,hx,hu,h=>by
  have:=ZS r d c b (sU hx) hu h;simp only[zc,sM,L.countP_cons] at this |-;omega
structure FB(w0 W:ε)(n p1 p2 p3 qm qa:E)(st:L T):Prop where
 fr:Fr j w0 W
 b1:aY W p1 #[.slice (S (H qa 0)) n n] 30
 b2:aY W p2 #[aP qm 0] 407
 b3:aY W p3 #[.func (.func 262) #[] #[aP p1 0,aP p2 0,aP p3 0]] 234
 sa:aY W qa (st.map iv).toArray 3
 len:st.length=n
 qn:w0.heap.size<=qa
section
variable {w0 W W':ε} {n p1 p2 p3 qm qa:E} {st:L T}
theorem FB.step(a:FB w0 W n p1 p2 p3 qm qa st)(b:Fr j W W'):FB w0 W' n p1 p2 p3 qm qa st:=
 ⟨a.fr.step b,b.hs a.b1,b.hs a.b2,b.hs a.b3,b.hs a.sa,a.len,a.qn⟩
theorem FB.eA(a:FB w0 W n p1 p2 p3 qm qa st)(b:bT qa W W'){c:L T}(i:aY W' qa (c.map iv).toArray 3)(g:c.length=n):FB w0 W' n p1 p2 p3 qm qa c:=by
 have d:∀{e:E}{f:θ ζ}{c:TypeId},aY W e f c->c≠3->e≠qa:=λh f e=>by subst e;exact fE.ne ⟨_,_,h⟩ ⟨_,_,a.sa⟩ f Y
 exact⟨a.fr.keep b (λe c=>c▸a.qn),b.aB a.b1 (d a.b1 J),b.aB a.b2 (d a.b2 J),b.aB a.b3 (d a.b3 J),i,g,a.qn⟩
theorem FB.set(b:FB w0 W n p1 p2 p3 qm qa st)(x:E)(a:T):FB w0 (W.setCell (H qa x) (I a)) n p1 p2 p3 qm qa (st.set x a):=by
 refine b.eA (rF.aK _ _) ?_ (by rw[dN];exact b.len)
 have:=aD b.sa x (I a);rwa[show(st.map iv).toArray.setIfInBounds x (I a)=((st.set x a).map iv).toArray from by rw[L.setIfInBounds_toArray,lU];rfl] at this
end
def FiR(m:ε)(e f g h i c:E)(k:L T)(l:ε)(d:Ending)(b:ε):Prop:=(∃a,d=.returned (.bool a))/\bT c l b/\∃a,zc a<=zc k/\FB m b e f g h i c a
theorem Qu(c:Hs)(P:E->E->T)(h:E)(z:ζ)(i:ε)(f g m a:E)(b4:SM i h z P)(b0:eJ i (.agg #[z]) c)(b3:bm c=γ):∀(k:E)(b:L T)(e:E)(d:ε),zc b<=k->e<c.length->FB i d c.length f g m h a b->
  aQ 262 #[I e,aP f 0,aP g 0,aP m 0] d (FiR i c.length f g m h a b d):=by
 intro k;induction k using E.strongRecOn with
 |ind b b7=>
 intro n b o b5 X k;have⟨t,e⟩:=bD X k;obtain⟨A,W⟩:=gE n b (by rw[k.len];exact X);obtain⟨l,d⟩:=M c.length;rw[<-d] at e t |-;have HN:=Z d;have X:(0:T)<=(b:T):=jD;have X:(b:T)<(l:T):=oB t.1;have X:o.cell? (H f 0)=S (.slice (S (H a 0)) l l):=by have:=aj k.b1 0;rw[<-d] at this;exact this
 have X:o.cell? (H a b)=S (I A):=by rw[aj k.sa];simp[W,iv]
 have k:=bx k.b2;clear d;by_cases k:0<A
 .delta aQ;go_in
  go_wp2;go_ret;exact⟨⟨_,Y⟩,rF,n,eG,e.1⟩
 have k:∀d,o.frozen? (H a d)=δ:=λd=>aG e.1.sa d;have nq:g≠a:=λd=>by subst d;exact fE.ne ⟨_,_,e.1.b2⟩ ⟨_,_,e.1.sa⟩ J Y
 delta aQ;go_in
 go_wp2_with fail;refine aZ.nm (λv d=> ?_);have s:(FB i v l f g m h a (n.set b 1)):=(by rw[d];exact e.1.set b 1);have a2:bT a o v:=(by rw[d];exact rF.aK _ _);clear d;refine sg (Oa c P h z b v (b4.fr s.fr id) (b0.fr s.fr) b3 (gX t.1 HN.1)) ?_;rintro c k ⟨e,C,a4,rfl,a0,b1,Q⟩;obtain⟨p,d⟩:=M C.length;obtain⟨a5,a7,rfl,c0,a9⟩:=a0.shape d.symm;have a3:=Z d;unfold maxLen at a9;clear d;go_wp2_with fail;go_loopg [7,25] p (λgk s7 s25 wr=>∃(d:E)(c:L T),d+gk=p/\s25=I d/\zc c<zc n/\FB i wr l f g m h a c/\bT a o wr/\cC v.heap.size 3 1 CI wr (.slice a5 p a7) C a4)
 .exact⟨0,_,du,Y,(ZS n b 1 A W O O),(s.step Q),(a2.step Q),a0⟩
 case round=>
  obtain⟨u,r,b9,rfl,w,d,G,x⟩:=hrel;obtain⟨c,f,g,e,D,-,-,V⟩:=x.read;simp only[cM] at D;obtain⟨rfl,-,rfl⟩:=D;by_cases c:u<p
  .obtain⟨B,y⟩:=gE C u (oB a3.1)
   obtain rfl:=V.addr y;have c:=V.int y;obtain⟨c,e⟩:=b1 B (bQ y);obtain⟨b8,rfl⟩:∃c:E,B=(c:T):=⟨B.toNat,O⟩;have c:=bx d.b3;have⟨c,e⟩:=dy u p;go_wp2_with fail;have c:=b7 (zc r) (gX w b5) r b8 wr eG O (by rw[<-HN.1];exact d);rw[<-HN.1] at c;refine aZ.go (c.mono ?_);rintro c e ⟨⟨a6,rfl⟩,R,a1,b6,U⟩;have F:=(G.trans R (U:=λc=>c=a) (λ_ _ c=>c) (λ_ _ c=>c));have K:=(E.lt_of_le_of_lt b6 w);cases a6
   .go_wp2
    go_ret;exact⟨⟨_,Y⟩,F,a1,E.le_of_lt K,U⟩
   go_wp2;go_roundg (gk-1)
   .exact⟨u+1,a1,O,by go_num,K,U,F,(x.aJ iA R (λc b2 a8=>by subst a8;have:=(aW x.row b2).1;have:=(ba s.sa);omega) (λ_ _ c=>c.elim))⟩
   omega
  have c:=bx d.b1;obtain⟨e,c⟩:∃c,r[b]? =S c:=⟨_,cF (by rw[d.len];exact t.1)⟩;have c:wr.cell? (H a b)=S (I e):=by rw[aj d.sa];simp[c,iv]
  have c:∀c,wr.frozen? (H a c)=δ:=λc=>aG d.sa c;go_wp2;go_ret;exact⟨⟨_,Y⟩,G.trans ((Fr.refl (λc=>c=a) wr).aK b (I 2)) (λ_ _ a=>a) (λ_ _ a=>a),_,E.le_of_lt (E.lt_of_le_of_lt (Qi r b 2 O) w),d.set b 2⟩
theorem SM.set{P:E->E->T}(g:SM W m x P){k t:E}(d:k<16)(d:t<32)(d:T):∃a,SM (W.setCell (H m (1+k*32+t)) (I d)) m x a:=by
 obtain⟨n,g,h,i,l⟩:=g.ex;refine⟨λa b=>if a=k/\b=t then d else P a b,⟨_,aD g _ _,by simp[h],by rw[ew O];exact i,λa b e f=> ?_⟩⟩
 by_cases c:a=k/\b=t
 .obtain⟨rfl,rfl⟩:=c
  rw[aS ⟨Y,Y⟩,vG O]
 rw[aR c,ew O];exact l a b e f
theorem SM.new(a:aY W m (x::L.replicate 512 aI).toArray 411):SM W m x (λ_ _=>0):=
 ⟨_,a,sI,sI,λa b c d=>by rw[sJ,show 1+a*32+b=(a*32+b)+1 by omega,L.getElem?_cons_succ,L.getElem?_replicate,aS O]⟩
theorem Ft(d:Hs)(o:L Rw)(a3 a4:ζ)(f:ε)(W:eJ f a3 d)(X:Sl 230 2 CW f a4 o)(b8:∀a∈o,a.2.length<=1000000000000):aQ 211 #[a3,a4] f (BA f):=by
 have F:=W;have G:=X;obtain⟨d7,rfl,c1⟩:=W;obtain⟨l,m,rfl,-,d2⟩:=c1.slice;obtain⟨c6,c8,d6,c9,rfl,b6,b7,D⟩:=X;obtain⟨t,a⟩:=M o.length;rw[<-a] at b6 G |-;have HN:=Z a;unfold maxLen at b7;clear a
 delta aQ;go_in
 go_wp2_with fail;refine aZ.nm (λW b=> ?_);obtain⟨a0,a⟩:=M f.heap.size;rw[<-a];have k:=cY b;have x:=yY b a;clear b a;refine sg (Dv d o _ _ W (F.fr k) (G.f k) b8) ?_;rintro G c5 ⟨⟨b2,rfl,b9⟩,e⟩;have G:=bx (x.1 _ e);cases b2
 .go_wp2
  go_ret;exact⟨⟨_,Y⟩,k.step e⟩
 have RT:=(b9 Y);have Q:=(bK RT.1);go_upto_region 4 with fail;refine cT (λG c=> ?_);obtain⟨a,b⟩:=M c5.heap.size;obtain⟨g,h⟩:=M (a+1);rw[<-b];try rw[show a+1=g by omega]
 have a9:SM G a (.slice l d.length m) (λ_ _=>0):=(SM.new (by rw[c];exact aC (bM b) _));have a7:(aY G g #[aP a 0] 407):=(by rw[c,<-b];exact bM (by rw[fL];omega));have R:=lq c;have r:(f.heap.size<=a/\a≠g/\a0≠a):=(by have:=k.size;have:=e.size;have:=ba (x.1 _ e);omega);clear c b h;go_wp2_with fail;go_loopg [7,8,9,22] t (λgk s7 s8 s9 s22 wr=>∃(b:E)(P:E->E->T),b+gk=t/\s22=I b/\SM wr a (.slice l d.length m) P/\aY wr g #[aP a 0] 407/\aY wr a0 #[.slice l d.length m] 54/\Fr j f wr)
 .exact⟨0,_,du,Y,a9,a7,(R.hs (x.1 _ e)),(k.step (e.step R))⟩
 case round=>
  obtain⟨s,P,d4,rfl,w,U,V,i⟩:=hrel;by_cases e:s<t
  .obtain⟨⟨a1,a2⟩,y⟩:∃b,o[s]? =S b:=⟨_,cF fU⟩
   obtain rfl:=D.addr y;obtain⟨⟨c2,c3⟩,rt⟩:=RT.2 _ (bQ y);obtain⟨e,b3,b4,c4⟩:=(D.f i).rwk y;obtain⟨p,c⟩:=M a2.length;obtain⟨c7,d0,rfl,d5,c0,a6⟩:=c4.oH c;obtain⟨e,o,x,k,B,-,-,a8⟩:=a6;simp only[cM] at B;obtain⟨rfl,-,rfl⟩:=B;have HRN:=Z c;simp only at b3 b4 c2 c3;obtain⟨z,rfl⟩:∃b:E,a1=(b:T):=⟨a1.toNat,O⟩;have⟨e,k⟩:=dy s t;have e:(0:T)<=(z:T):=jD;unfold maxLen at c0;clear c;go_wp2_with fail;refine cT (λa5 e=> ?_);obtain⟨k,c⟩:=M wr.heap.size;rw[<-c];have h:=cY e;have b1:=dL e c;have K:=(w.fr h id);have C:=(h.hs U);have u:=(a8.f h);have b0:(k≠a/\a<wr.heap.size):=(by obtain⟨n,k,-⟩:=w.ex;have:=ba k;omega);clear e c;obtain⟨b5,rfl⟩:=M gk;go_loopg [8,9,29] p (λgk s8 s9 s29 wr=>∃(b:E)(P:E->E->T),b+gk=p/\s29=I b/\SM wr a (.slice l d.length m) P/\bT a a5 wr)
   .exact⟨0,P,du,Y,K,rF⟩
   case round=>
    obtain⟨b,P,d3,rfl,MX,c⟩:=hrel;by_cases e:b<p
    .obtain⟨A,n⟩:=gE a2 b vj
     (obtain rfl:=u.addr n;obtain⟨e,k⟩:=rt A (bQ n);have d1:=c.aF (u.int n) (λv=>by simp only at v;subst v;exact(u.uQ n).ne (by obtain⟨k,e,-⟩:=K.ex;exact⟨k,_,e⟩) J Y);have e:=bx (c.aB b1.1 b0.1);have e:=bx (c.aB C (λe=>r.2.1 e.symm));obtain⟨v,rfl⟩:∃b:E,A=(b:T):=⟨A.toNat,O⟩;have e:(0:T)<=(v:T):=jD;have e:(v:T)<32:=oB Q;have⟨e,k⟩:=dy b p;have e:=MX.get (k:=z) (t:=v) O O;have e:∀e,wr.frozen? (H a e)=δ:=λk=>by obtain⟨n,e,-⟩:=MX.ex;exact aG e k);go_wp2_with fail;go_region;refine Xk (λo e=> ?_);obtain⟨k,n⟩:=MX.set (k:=z) (t:=v) O O ((b:T)+1);have m:SM o a (.slice l d.length m) k:=(by rw[e];exact n.fr tC.drew id);have l:bT a a5 o:=(by rw[e];exact(c.tr (rF.aK _ _)).drew);clear e;go_wp2;go_roundg (gk-1)
     .exact⟨b+1,k,O,by go_num,m,l⟩
     omega
    go_wp2;go_roundg (b5-1)
    .exact⟨s+1,P,O,by go_num,MX,(c.aB C (λe=>r.2.1 e.symm)),(c.aB (h.hs V) (λe=>r.2.2 e)),((i.step h).keep c (λb c=>c▸r.1))⟩
    omega
  have e:=bx V;have k:=Q;obtain⟨c,h⟩:=M d.length;rw[<-h] at e k;have HM:=Z h;obtain⟨r,k,l,m,o⟩:=lV Kq;have e:∀e:ε,(Instr.makeSlice 30 (I c) (I c)).run prog e=.ok (.slice (S (H e.heap.size 0)) c c) (e.alloc (.cells (madeCells #[aI] c) 3)):=λe=>by
   have:=run_make (P:=prog) (w:=e) 30 3 r aI underlying30 k l .i64 .i64 c c O O (by rw[o];omega) O;simpa[m,ζ.cells] using this
  clear h;go_wp2_with fail;obtain⟨p,b0⟩:=M wr;subst b0;refine cT (λo e=> ?_);obtain⟨h,k⟩:=M p.heap.size;obtain⟨u,m⟩:=M (h+1);obtain⟨y,n⟩:=M (u+1);rw[<-k];try rw[<-k] at e
  rw[<-m] at e |-;rw[<-n] at e |-;have l:=Ol e;have z:FB p o c u g y a h (L.replicate c 0):=⟨l,by rw[e];exact aC (bM (by rw[fL];omega)) _,l.hs U,by rw[e];exact bM (by rw[fL,fL];omega),by
   rw[e];refine aC (aC ?_ _) _;rw[show((L.replicate c (0:T)).map iv).toArray=madeCells #[aI] c from by
    apply θ.ext';refine lB (λb=> ?_);by_cases l:b<c
    .simp[madeCells,iv,l,E.mod_one]
    simp[madeCells,iv,l]]
   exact bM k,L.length_replicate,gh k.symm⟩
  have K:f.heap.size<=h:=(oB i.size);clear e k m n;go_loopg [12,53] c (λgk s12 s53 wr=>∃(e:E)(f:L T),e+gk=c/\s53=I e/\FB p wr c u g y a h f/\bT h p wr)
  .exact⟨0,_,du,Y,z,z.fr.mono (λ_ _ e=>e.elim)⟩
  case round=>
   obtain⟨n,a1,b3,rfl,A,B⟩:=hrel;by_cases e:n<c
   .have f:(0:T)<=(n:T):=jD
    have c:(n:T)<(c:T):=O;have c:=bx A.b3;go_wp2_with fail;have a:=Qu d P a _ p u g y h w (F.fr i) RT.1 (zc a1) a1 n wr eG (by rw[<-HM.1];exact e) (by rw[<-HM.1];exact A);rw[<-HM.1] at a;refine aZ.go (a.mono ?_);rintro a c ⟨⟨a6,rfl⟩,a8,b1,b4,a2⟩;have C:=(B.trans a8 (U:=λa=>a=h) (λ_ _ a=>a) (λ_ _ a=>a));cases a6
    .go_wp2
     go_ret;exact⟨⟨_,Y⟩,i.keep C (λb a=>a▸K)⟩
    go_wp2;go_roundg (gk-1)
    .exact⟨n+1,b1,O,by go_num,a2,C⟩
    omega
   go_wp2;go_ret;exact⟨⟨_,Y⟩,i.keep B (λb a=>a▸K)⟩
theorem xe(d:Hs)(v g:ζ)(b:ε)(h:eJ b v d)(a:Gt b g):aQ 173 #[v,g] b (BA b):=by
 have e:=h;obtain⟨R,rfl,D⟩:=h;obtain⟨F,Q,U,V,W,o,p,u,rfl,r,s,k,t,HT⟩:=a.ex;obtain⟨x,A,l,-,-⟩:=r.slice;obtain⟨y,B,m,-,-⟩:=s.slice;obtain⟨z,C,n,-,-⟩:=t.slice;obtain⟨G,c⟩:=M o.length;obtain⟨K,f⟩:=M p.length;obtain⟨P,i⟩:=M u.length;rw[<-c] at l;rw[<-f] at m;rw[<-i] at n;subst l m n;have w:=Z k;clear D a k c f i;obtain⟨b,c⟩:=M b.heap.size;obtain⟨h,i⟩:=M (b+1);unfold cev
 delta aQ;go_in
 go_upto_region 1 with fail;refine cT (λb a=> ?_);rw[<-c];try rw[<-i]
 have k:=lq a;have g:=qa1 a c;have h:N (∀f,Fr j b f->aY f h #[I F,.bool Q,.slice x G A,.slice y K B,.slice z P C] 34):=Fr.all (by rw[a];exact bM (by rw[fL];omega));clear a c i;obtain⟨l,m,n,v,x,-⟩:=Va (h.1 b rF);have y:=bx (g.1 b rF);go_quiet (fail);have i:∀a,Fr j b (b.drewN a):=λa=>rF.drewN a;refine Xk (λc f=> ?_);have b:Fr j b c:=by rw[f];exact i _
 have a:=(k.step b);clear l m n v x y f i;obtain⟨h,i,k,l,m,-⟩:=Va (h.1 c b);have g:=bx (g.1 c b);clear b;go_wp2_with (first|(go_at_call 168;refine(zm d _ [] u _ _ _ c (e.fr a) dJ (t.f a) (by have:=HT;simpa using this)).mono ?_;rintro b g ⟨rfl,f⟩)|(go_at_call 210;refine(Fh d o _ _ c (e.fr a) (r.f a)).mono ?_;rintro g h ⟨⟨b,rfl⟩,f⟩)|(go_at_call 211;refine(Ft d p _ _ c (e.fr a) (s.f a) w.1).mono ?_;rintro c d ⟨⟨b,rfl⟩,f⟩));all_goals(go_ret;first|exact⟨⟨_,Y⟩,a⟩|exact⟨⟨_,Y⟩,a.step f⟩)
def wQ(a b:T):ζ:=.iface 181 (.agg #[I a,I b])
theorem tU(c a d):Calls prog 67 #[I c,I a] d λe f=>f=d/\(a=0/\e=.returned (.tuple #[])\/a≠0/\e=.panicked [{v:=wQ c a,recovered:=δ}]):=by
 by_cases b:a=0
 .subst b
  go_in
  go_wp2;all_goals(go_end0;simp)
 have g:(a !=0)=γ:=sU b;go_in
 go_wp2;all_goals exact⟨Y,Y,.inr ⟨b,Y⟩⟩
def acC:ζ:=.iface 263 (.agg #[])
def ady:L PanicEntry:=[{v:=acC,recovered:=δ}]
theorem Ob(a b):Calls prog 80 #[.bool a] b λc d=>d=b/\(a=γ/\c=.returned (.tuple #[])\/a=δ/\c=.panicked ady):=by
 cases a
 .go_in
  go_wp2;all_goals exact⟨Y,Y,.inr ⟨trivial,Y⟩⟩
 go_in
 go_wp2;all_goals(go_end0;simp)
def Ar(a:T):ζ:=if a=0 then .nilIface else .iface 29 (I a)
theorem tF(a b):Calls prog 22 #[I a] b λd c=>d=.returned (Ar a)/\c=b:=by
 go_in
 go_wp2;all_goals(go_ret;exact⟨by simp_all [Ar],Y⟩)
structure RQ(w0:ε)(q:E)(L:List T)(w:ε):Prop where
 row:∃a m c b o,aY w q #[.slice a m c] 213/\m=L.length/\m<=c/\c<=maxLen/\fF 3 1 CI w0 a b o L
 lo:w0.heap.size<=q
 fr:Fr j w0 w
abbrev onQ(q:E)(a:E):Prop:=a=q
def Rr(q:E)(b a:ε):Prop:=Fr (onQ q) b a
theorem RQ.keep{b a w':ε}{q:E}(f:RQ b q e a){S:E->Prop}(c:Fr S a w')(d:∀a,S a->b.heap.size<=a/\a≠q):RQ b q e w':=by
 obtain⟨⟨a,l,f,b,m,g,h⟩,i,k⟩:=f;exact⟨⟨a,l,f,b,m,c.aB g (λa=>(d q a).2 Y),h⟩,i,k.trans c (λ_ _ a=>a) (λa c b=>by have:=(d a b).1;omega)⟩
theorem RQ.j{b a w':ε}{q:E}(d:RQ b q e a)(c:Fr Go.Proofs.YtecdpehmhpleeaaGreatDoor.j a w'):RQ b q e w':=d.keep c (λ_ a=>a.elim)
theorem RQ.lt{q:E}(a:RQ W q e V):q<V.heap.size:=by obtain⟨⟨b,f,d,c,g,a,-⟩,-,-⟩:=a;exact ba a
theorem vy(b):aQ 80 #[.bool γ] b λc a=>c=.returned (.tuple #[])/\a=b:=(Ob γ b).mono (by rintro d c ⟨b,⟨-,a⟩|⟨a,-⟩⟩;exact⟨a,b⟩;cases a)
theorem cR{q:E}(c:RQ W q (i1::e) V):
  aQ 113 #[aP q 0] V λr b=>r=.returned (I i1)/\RQ W q e b/\Rr q V b:=by
 obtain⟨⟨b,z,l,f,i,d,t,k,s,g⟩,u,p⟩:=c;obtain rfl:=g.addr (k:=0) (x:=i1) Y;have b:=(g.fr da p).int (k:=0) (x:=i1) Y;rw[fI] at b;have b:=bx d;have b:=aG d 0;obtain⟨a,h⟩:=M e.length;have y:z=a+1:=by rw[t,h];rfl
 subst y;unfold maxLen at s;have b:(1:T)<=(l:T):=O;have⟨b,HN⟩:=bD d h;have o:N (∀c b,a<=b->b<=l->(a=0\/c=S (H f (i+1)))->RQ W q e (V.setCell (H q 0) (.slice c a b))/\Rr q V (V.setCell (H q 0) (.slice c a b))):=Z (by
  intro c b y s x;have s:Fr (onQ q) V (V.setCell (H q 0) (.slice c a b)):=rF.aK 0 _;refine⟨⟨⟨c,a,b,f,i+1,by have:=aD d 0 (.slice c a b);simpa using this,h,y,by unfold maxLen;omega,?_⟩,u,p.trans s (λ_ _ i1=>i1) (λc b i1=>by unfold onQ at i1;omega)⟩,s⟩;by_cases v:a=0
  .have w:e=[]:=fH O
   subst w;exact⟨.inl Y,sI⟩
  obtain rfl:=x.resolve_left v
  have:=g.drop 1 sO;simpa using this)
 clear d t g h
 delta aQ;go_in
 go_wp2_with (go_at_call 80;refine(vy _).mono ?_;rintro r a ⟨rfl,rfl⟩)
 .go_ret
  obtain⟨m,n⟩:=o.1 (S (H f i)) 0 (oB k) O (.inl (oB k));exact⟨Y,m,n⟩
 go_ret;obtain⟨m,n⟩:=o.1 (S (H f (i+1))) (l-1) (oB k) O (.inr Y);exact⟨Y,m,n⟩
theorem QU:(prog.info? 144).map (·.size)=S 3:=kR
theorem Rr.trans{q:E}(a:Rr q W V)(b:Rr q V U):Rr q W U:=Fr.trans a b (λ_ _ a=>a) (λ_ _ a=>a)
theorem Rr.of{q:E}(a:Fr j W V):Rr q W V:=a.mono (λ_ _ a=>a.elim)
theorem Rr.obj{q a:E}{b:Obj}(c:Rr q W V)(d:W.heap[a]? =S b)(e:a≠q):V.heap[a]? =S b:=c.aB d e
theorem RQ.cell{q:E}(c:RQ W q e V):∃a b,V.cell? (H q 0)=S (.slice a e.length b)/\e.length<=9223372036854775807:=by
 obtain⟨⟨a,i,b,g,k,d,rfl,h,f,-⟩,-,-⟩:=c;exact⟨a,b,aj d 0,by unfold maxLen at f;omega⟩
theorem kK{q:E}{a:κ}(d:RQ W q (eB a++e) V):
  aQ 115 #[aP q 0] V λc b=>c=.returned (.bool a)/\RQ W q e b/\Rr q V b:=by
 cases a
 all_goals
  delta aQ;go_in
  go_wp2_with (first|(go_at_call 113;refine(cR d).mono ?_;rintro a d ⟨rfl,b,c⟩)|(go_at_call 80;refine(vy _).mono ?_;rintro a d ⟨rfl,rfl⟩));go_ret;exact⟨Y,b,c⟩
theorem TE{q n c:E}{R:L T}{e:θ ζ}(a:E->ε->Prop)(i:RQ W q ((n:T)::R) V)(m:n<=R.length)(r:∀b V,(callFunc c b).run prog V=.ok (.enter c b) V)
  (k:∀b,RQ W q R b->Rr q V b->a 0 b)(o:∀b d,b<n->a b d->aQ c e d λd f=>d=.returned (.tuple #[])/\a (b+1) f):
  aQ 117 #[aP q 0,.func (.func c) #[] e] V λc b=>c=.returned (.tuple #[])/\a n b:=by
 delta aQ;go_in
 go_wp2_with fail;refine sg (cR i) ?_;rintro c p ⟨rfl,f,l⟩;have g:=(k p f l);obtain⟨f,i,c,e⟩:=f.cell;generalize b:R.length=f at c e m;have c:(0:T)<=(n:T):=jD;have c:(n:T)<=(f:T):=O;have c:n<=9223372036854775807:=O;clear b;go_wp2_with (go_at_call 80;refine(vy _).mono ?_;rintro b c ⟨rfl,rfl⟩);go_loopg [20] n (λgk c wr=>∃b:E,b+gk=n/\c=I b/\a b wr)
 .exact⟨0,du,Y,g⟩
 case round=>
  obtain⟨b,HK,rfl,d⟩:=hrel;have a:b<=n:=O;by_cases a:b<n
  .go_wp2_with fail
   refine(o b wr a d).mono ?_;rintro a c ⟨rfl,h⟩;go_wp2;go_roundg (gk-1)
   .exact⟨b+1,O,by go_num,h⟩
   omega
  obtain rfl:b=n:=O;go_wp2;go_end0
  exact⟨Y,d⟩
theorem wN{q:E}{x:Ch}(g:RQ W q (yV x++e) V):
  aQ 160 #[aP q 0] V λb a=>b=.returned (.agg #[I x.k,I x.a,I x.b])/\RQ W q e a/\Rr q V a:=by
 have g:=g
 delta aQ;go_in
 go_upto_region 1 with fail;refine cT (λo f=> ?_);obtain⟨a,h⟩:=M V.heap.size;rw[<-h];have b:a≠q:=(oB g.lt);have c:V.heap.size<=a:=O;have d:W.heap.size<=a:=(oB g.fr.size);have t:=dL f h;have g:=(g.j (w':=o) (by rw[f];exact cZ));have y:Rr q V o:=(Rr.of (by rw[f];exact cZ));clear f h;go_wp2_with fail;refine sg (cR g) ?_;rintro g p ⟨rfl,G,k⟩;have f:=k.obj t.1 b;have g:=aG f 0;have g:=aj f 0;have z:Rr q V (p.setCell (H a 0) (I x.k)):=((y.trans k).setCell _ (λ(h:a<V.heap.size)=>absurd c O) _);simp at g;go_wp2_with fail;refine sg (cR (G.keep (S:=λg=>g=a) ((Fr.refl _ p).aK 0 (I x.k)) (λg h=>by subst h;exact⟨d,b⟩))) ?_;rintro g r ⟨rfl,K,l⟩;have h:=l.obj (aD f 0 (I x.k)) b;have f:=aG h 1;have C:=aj h 1;have u:=(K.keep (S:=λf=>f=a) ((Fr.refl _ r).aK 1 (I x.a)) (λf i=>by subst i;exact⟨d,b⟩));have A:Rr q V (r.setCell (H a 1) (I x.a)):=((z.trans l).setCell _ (λ(f:a<V.heap.size)=>absurd c O) _);simp at C;go_wp2_with fail;refine sg (cR u) ?_;rintro f s ⟨rfl,P,m⟩;have i:=m.obj (aD h 1 (I x.a)) b;have f:=aG i 2;have D:=aj i 2;have v:=(P.keep (S:=λf=>f=a) ((Fr.refl _ s).aK 2 (I x.b)) (λf n=>by subst n;exact⟨d,b⟩));have k:Rr q V (s.setCell (H a 2) (I x.b)):=((A.trans m).setCell _ (λ(f:a<V.heap.size)=>absurd c O) _);simp at D;go_upto_region 4 with fail;refine cT (λg f=> ?_);have h:aY g a #[I x.k,I x.a,I x.b] 144:=(by rw[f];have:=(aD i 2 (I x.b));simpa using this);have w:RQ W q e g:=(by rw[f];exact v);have B:Rr q V g:=(by rw[f];exact k);clear f;go_wp2_with (first|(refine bU Y 144 (.tmp 2) Y Y h underlying144 Y QU ?_)|(refine aU Y 144 (.tmp 2) (.tmp 12) Y Y Y h Y QU oC ?_;intro f f n));refine aO (gp Y _ _ a 144 _ (0,0) _ Y f underlying144 Y QU) Y ⟨Y,w.keep n (λa F=>by subst F;exact⟨d,b⟩),Fr.trans B n (λ_ _ x=>x) (λb a F=>by subst F;exact absurd c O)⟩
structure RJ{α:Type}(te n tb ci:E)(C:ε->L ζ->α->Prop)(w0 w:ε)(q b1 b2:E)(cs:θ ζ)(R:L T)(done:L α)(v:ζ)(M:L (L ζ))(W:ε):Prop where
 rq:RQ w0 q R W
 p:aY W b1 #[aP q 0] 211
 box:aY W b2 (cs.setIfInBounds ci v) tb
 own:cC w.heap.size te n C W v done M
 fr:Fr (λk=>k=q\/k=b2) w W
 lo:w0.heap.size<=w.heap.size/\w0.heap.size<=b2/\b1≠q/\b2≠q
structure RK{α:Type}(te tb:E)(T:TypeId->Prop)(C:ε->L ζ->α->Prop):Prop where
 st:dU T C
 h1:te≠211
 h2:te≠213
 h3:te≠tb
 h4:tb≠211
 h5:tb≠213
 t1:¬T tb
 t2:¬T te
 t3:¬T 213
section
variable {α:Type} {te n tb ci:E} {C:ε->L ζ->α->Prop} {T:TypeId->Prop} {w0 w W W':ε} {q b1 b2:E} {cs:θ ζ} {R R':L Int} {done:L α} {v:ζ} {M:L (L ζ)}
theorem RQ.uQ(a:RQ w0 q R W):fE 213 W q:=by obtain⟨⟨b,e,d,c,f,a,-⟩,-,-⟩:=a;exact⟨_,_,a⟩
theorem RJ.eA(f:RK te tb T C)(a:RJ te n tb ci C w0 w q b1 b2 cs R done v M W){b c:E}{d:θ ζ}(g:aY W b d c)(d:w.heap.size<=b)(m:¬v.ownBlock=S b)(i:c≠211)(k:c≠tb)(l:¬T c)(d:Fr (λe=>e=q\/e=b) W W')(o:RQ w0 q R' W'):
  RJ te n tb ci C w0 w q b1 b2 cs R' done v M W':=by
 have g:fE c W b:=⟨_,_,g⟩;have b:∀{e h:E}{p:θ ζ},aY W e p h->e≠q->c≠h->¬(e=q\/e=b):=λc e h b=>b.elim e (λb=>g.ne ⟨_,_,c⟩ h b.symm);exact⟨o,d.aB a.p (b a.p a.lo.2.2.1 i),d.aB a.box (b a.box a.lo.2.2.2 k),a.own.aJ f.st d (λe b c=>c.elim (λc=>(aW a.own.row b).2.ne a.rq.uQ f.h2 c) (λc=>m (c▸b))) (λh i c b e=>e.elim (λe=>b.ne a.rq.uQ (λh=>f.t3 (h▸c)) e) (λe=>b.ne g (λb=>l (b▸c)) e)),
  a.fr.trans d (λ_ _ b=>b) (λd c b=>b.elim .inl (λe=>by subst e;omega)),a.lo⟩
theorem RJ.adn(b:RK te tb T C)(a:RJ te n tb ci C w0 w q b1 b2 cs R done v M W)(c:Rr q W W'):cC w.heap.size te n C W' v done M:=
 a.own.aJ b.st c (λe d c=>(aW a.own.row d).2.ne a.rq.uQ b.h2 c) (λg f e d c=>d.ne a.rq.uQ (λa=>b.t3 (a▸e)) c)
theorem RJ.rr(c:RK te tb T C)(a:RJ te n tb ci C w0 w q b1 b2 cs R done v M W)(b:Rr q W W')(d:RQ w0 q R' W'):RJ te n tb ci C w0 w q b1 b2 cs R' done v M W':=
 ⟨d,b.obj a.p a.lo.2.2.1,b.obj a.box a.lo.2.2.2,a.adn c b,a.fr.trans b (λ_ _ b=>b) (λ_ _ b=>.inl b),a.lo⟩
theorem RJ.j(c:RK te tb T C)(b:RJ te n tb ci C w0 w q b1 b2 cs R done v M W)(a:Fr Go.Proofs.YtecdpehmhpleeaaGreatDoor.j W W'):RJ te n tb ci C w0 w q b1 b2 cs R done v M W':=b.rr c (Rr.of a) (b.rq.j a)
theorem RJ.boxed(f:RK te tb T C)(c:RJ te n tb ci C w0 w q b1 b2 cs R done v M W){b a:E}{g:θ ζ}(d:aY W b g a)(e:w.heap.size<=b)(m:¬v.ownBlock=S b)(g:a≠211)(i:a≠213)(k:a≠tb)(l:¬T a)(a:bT b W W'):
  RJ te n tb ci C w0 w q b1 b2 cs R done v M W':=
 c.eA f d e m g k l (a.mono (λ_ _ b=>.inr b)) (c.rq.keep a (λa h=>by subst h;exact⟨bX c.lo.1 e,λa=>fE.ne ⟨_,_,d⟩ c.rq.uQ i a⟩))
theorem RJ.shape(c:RJ te n tb ci C w0 w q b1 b2 cs R done v M W){m:E}(d:done.length=m):∃a b,v=.slice a m b:=by obtain⟨a,b,c,-⟩:=c.own.shape d;exact⟨a,b,c⟩
theorem RJ.olt(b:RJ te n tb ci C w0 w q b1 b2 cs R done v M W){a:E}(c:W.heap.size<=a):¬v.ownBlock=S a:=λa=>by obtain⟨-,b,c,a⟩:=aW b.own.row a;have:=ba a;omega
theorem RJ.push(b:RK te tb T C)(h:RJ te n tb ci C w0 w q b1 b2 cs R done v M W){l c:ε}{f:ι Addr}{g e:E}{o:L (L ζ)}{s:α}(u:done.length=e)(u:ci<cs.size)(u:Fr Go.Proofs.YtecdpehmhpleeaaGreatDoor.j W l)
  (r:cC w.heap.size te n C c (.slice f (e+1) g) (done++[s]) o)(d:mV w.heap.size v l c):
  aY c b2 (cs.setIfInBounds ci v) tb/\RJ te n tb ci C w0 w q b1 b2 cs R (done++[s]) (.slice f (e+1) g) o (c.setCell (H b2 ci) (.slice f (e+1) g)):=by
 have a:=h.j b u;have l:∀{i k:E}{m:θ ζ},aY l i m k->te≠k->¬v.ownBlock=S i:=λk l i=>(aW a.own.row i).2.ne ⟨_,_,k⟩ l Y;have k:=d.1.aB a.box (l a.box b.h3);have p:=d.1.aB a.p (l a.p b.h1);have i:bT b2 c (c.setCell (H b2 ci) (.slice f (e+1) g)):=rF.aK ci _;have m:fE tb c b2:=⟨_,_,k⟩;have c:=a.rq.keep d.1 (λl c=>⟨gX (d.2 l c) h.lo.1,λl=>(aW a.own.row c).2.ne a.rq.uQ b.h2 l⟩);refine⟨k,c.keep i (λc t=>by subst t;exact⟨h.lo.2.1,h.lo.2.2.2⟩),i.aB p (λc=>m.ne ⟨_,_,p⟩ b.h4 c.symm),?_,?_,?_,h.lo⟩
 .have:=aD k ci (.slice f (e+1) g)
  simpa using this
 .exact r.aJ b.st i (λf e c=>(aW r.row e).2.ne m b.h3 c) (λh g f e c=>e.ne m (λe=>b.t1 (e▸f)) c)
 exact Fr.trans (Fr.trans a.fr d.1 (U:=λa=>a=q\/a=b2) (λ_ _ a=>a) (λb c a=>by have:=d.2 b a;omega)) i (λ_ _ a=>a) (λc b a=>.inr a)
theorem Tw(a:α->L Int)(b:∀c,1<=(a c).length):∀c:L α,c.length<=(c.flatMap a).length
 |[]=>eG
 |d::c=>by have:=Tw a b c;have:=b d;simp only[kX,cA,bW];omega
def Zg(te n tb ci:E)(C:ε->L ζ->α->Prop)(w0 w:ε)(q b1 b2:E)(cs:θ ζ)(R:L Int)(done:L α)(a:Ending)(W:ε):Prop:=a=.returned (.tuple #[])/\∃v M,RJ te n tb ci C w0 w q b1 b2 cs R done v M W
theorem nD(g:RK te tb T C){d:E}{e:θ ζ}{a:L α}{c:α->L Int}(i:∀b,1<=(c b).length)(f:RJ te n tb ci C w0 w q b1 b2 cs (eL c a++R) [] v M W)(h:∀b w,(callFunc d b).run prog w=.ok (.enter d b) w)
  (k:∀b R' done v M W,b∈a->done.length<a.length->RJ te n tb ci C w0 w q b1 b2 cs (c b++R') done v M W->aQ d e W (Zg te n tb ci C w0 w q b1 b2 cs R' (done++[b]))):
  aQ 117 #[aP q 0,.func (.func d) #[] e] W (Zg te n tb ci C w0 w q b1 b2 cs R a):=by
 refine(TE (λd W=>∃v M,RJ te n tb ci C w0 w q b1 b2 cs ((a.drop d).flatMap c++R) (a.take d) v M W) (n:=a.length) (R:=a.flatMap c++R) f.rq (by have:=Tw c i a;simp only[cA];omega) h (λc e b=>⟨_,_,f.rr g b e⟩) (λd c e b=> ?_)).mono ?_
 .obtain⟨d,a⟩:=gE a d e
  rw[gF a,kX,dm] at b;rw[bJ a];obtain⟨v,M,b⟩:=b;exact k d _ _ v M c (bQ a) (by rw[cV];omega) b
 rintro a W' ⟨rfl,b⟩;rw[dY eG,dq eG] at b;exact⟨Y,b⟩
theorem RJ.start{a:ε}(c:RQ w0 q R w)(b:Fr Go.Proofs.YtecdpehmhpleeaaGreatDoor.j w a)(d:aY a b1 #[aP q 0] 211)(e:aY a b2 cs tb)(f:cs.setIfInBounds ci aV=cs)(g:b1≠q)(h:b2≠q)(i:w0.heap.size<=b2):
  RJ te n tb ci C w0 w q b1 b2 cs R [] aV [] a:=
 ⟨c.j b,d,by rw[f];exact e,qG,b.mono (λ_ _ a=>a.elim),c.fr.size,i,g,h⟩
theorem RJ.new{W1:ε}(a:RQ w0 q R w)(b:Fr Go.Proofs.YtecdpehmhpleeaaGreatDoor.j w W1)(c:aY W1 b1 #[aP q 0] 211)(d:aY W1 b2 cs tb)(e:cs.setIfInBounds ci aV=cs)(f:w.heap.size<=b1)(f:w.heap.size<=b2):
  RJ te n tb ci C w0 w q b1 b2 cs R [] aV [] W1:=by
 have:=a.lt
 have:=a.fr.size;exact RJ.start a b c d e O O O
theorem RJ.fin(b:RK te tb T C){e:L α}(a:RJ te n tb ci C w0 w q b1 b2 cs R e v M W)(h:w.heap.size<=b2):∃c f d,aY W b2 (cs.setIfInBounds ci (.slice c f d)) tb/\N (∀W',bT b2 W W'->Sl te n C W' (.slice c f d) e/\RQ w0 q R W'/\Rr q w W'):=by
 obtain⟨d,f,rfl⟩:=a.shape Y;refine⟨d,_,f,a.box,Z (λW' c=> ?_)⟩;have d:fE tb W b2:=⟨_,_,a.box⟩;exact⟨(a.own.aJ b.st c (λg f e=>(aW a.own.row f).2.ne d b.h3 e) (λi h g f e=>f.ne d (λd=>b.t1 (d▸g)) e)).read,a.rq.keep c (λb g=>by subst g;exact⟨a.lo.2.1,a.lo.2.2.2⟩),Fr.trans a.fr c (λc b a=>a.elim id (λg=>by subst g;omega)) (λb a g=>by subst g;omega)⟩
end
theorem KI(a)(b:a≠3)(c:a≠211)(d:a≠213):RK 3 a (λ_=>False) CI:=⟨da,J,J,λa=>b a.symm,c,d,λa=>a,λa=>a,λa=>a⟩
theorem Vl{q f a:E}{i done:L T}(b:RJ 3 1 30 0 CI W V q f a #[aV] (i1::i) done x L1 U)(m:done.length<1000000000000):
  aQ 161 #[aP a 0,aP f 0] U (Zg 3 1 30 0 CI W V q f a #[aV] i (done++[i1])):=by
 have e:=(KI 30 J J J);obtain⟨c,g⟩:=M done.length;have HM:=g.symm;obtain⟨k,l,rfl⟩:=b.shape g.symm;have d:=(b.j e ((Fr.refl j U).drew));have h:∀f,Rr q U.drew f->f.cell? (H a 0)=S (.slice k c l):=(λi f=>aj (f.obj d.box d.lo.2.2.2) 0);have f:=bx b.box;have f:=bx b.p;have n:(c+1)*8<=140737488355328:=O;have o:c+1<=maxLen:=mL;clear b g m
 delta aQ;go_in
 go_wp2_with fail;go_region_law (first
  |(go_simp;refine(cR d.rq).mono ?_;rintro f g ⟨rfl,m,b⟩;have f:=h g b;have a:∀f,(g.alloc f).cell? (H a 0)=S (.slice k c l):=(λa=>h _ (b.trans (Rr.of (rF.alloc a))));have a:=Z (d.rr e b m);have d:N (V.heap.size<=g.heap.size):=Z a.1.fr.size;clear m b)
  |(refine tQ Y (.tmp 2) (.tmp 5) Y oG c HM Y (a.1.own.fr da cZ) da id i1 Y Y (eF.one _ _ _ Y) (λ_ _=>Y) n o (by have:=d.1;simp;omega) ?_;intro d f h b c i k;obtain⟨a,d⟩:=RJ.push e a.1 HM J cZ b c;have e:=aj a 0;have e:=aG a 0;have g:=Z d;clear b c a d))
 all_goals(go_wp2;go_end0;exact⟨Y,_,_,g.1⟩)
def RV(h g:E)(c:ε->L ζ->α->Prop)(k i:ε)(q:E)(f:L α)(d:L T)(e:Ending)(a:ε):Prop:=∃b,e=.returned b/\Sl h g c a b f/\RQ k q d a/\Rr q i a
theorem pV{q:E}(f:RQ W q (fh e++p1) V)(b:e.length<1000000000000):aQ 116 #[aP q 0] V (RV 3 1 CI W V q e p1):=by
 rw[Wn] at f
 delta aQ;go_in
 go_upto_region 1 with fail;refine cT (λl a=> ?_);obtain⟨c,b⟩:=M V.heap.size;obtain⟨d,g⟩:=M (c+1);rw[<-b,<-g];have c:=(RJ.new (te:=3) (n:=1) (tb:=30) (ci:=0) (C:=CI) (W1:=l) (b1:=c) (b2:=d) (cs:=#[aV]) f (by rw[a];exact cZ.alloc _) (by rw[a];exact aC (bM b) _) (by rw[a];exact bM sO) Y O O);have k:=bx c.p;have i:V.heap.size<=d:=O;clear a b g;go_wp2_with fail;refine sg (nD (KI 30 J J J) (λa=>by simp[eI]) c (λa V=>by simp[go_sem]) (λl b done h c d g f a=>Vl a O)) ?_;rintro b c ⟨rfl,m,a,g⟩;obtain⟨b,d,c,a,h⟩:=g.fin (KI 30 J J J) i;have f:=bx a;have f:=aG a 0;clear k g;go_wp2;exact aO (v:=.slice b d c) (by have a:=aj (aD a 0 (.slice b d c)) 0;simp at a;simp[results,results116,go_sem,a]) Y ⟨_,Y,h.1 _ (rF.aK 0 _)⟩
theorem Bc{b:θ ζ}{q i:E}{n:TypeId}(d:∀a,Fr j W a->aY a q b n)(k:b[i]? =S x)(g:Sl t m C W x X):
  ∃c a f e h,N (∀b,Fr j W b->b.cell? (H q i)=S (.slice c a f))/\N (a=X.length)/\a<=9223372036854775807/\N (fF t m C W c e h X):=by
 obtain⟨a,c,l,e,rfl,o,f,h⟩:=g;exact⟨a,_,e,c,l,Z (λa b=>(aj (d a b) i).trans k),Z Y,by unfold maxLen at f;omega,Z h⟩
theorem WX(a b):Cc a++b=[a.s]++(fh a.w++([(a.r.length:T)]++(a.r.flatMap Nh++b))):=by simp[Cc,eL]
theorem Ll(a b):Gb a++b=yV a.c++([a.kind,a.i,a.j]++(fh a.cy++b)):=by simp[Gb]
theorem Ld(a b):Hl a++b=yV a.c++(eB a.rt++(mJ a.dn++b)):=by simp[Hl]
theorem CG(a:α->L T)(c:X[m]? =S x1)(b):(X.drop m).flatMap a++b=a x1++((X.drop (m+1)).flatMap a++b):=by rw[gF c];simp
theorem xX(b:α->L T)(c:X.length<=m)(a):(X.drop m).flatMap b++a=a:=by rw[dY c];rfl
theorem DI(e:Sl t m C W x X):∃b a d c f,x=.slice b a d/\N (a=X.length)/\a<=9223372036854775807/\N (fF t m C W b c f X):=by
 obtain⟨a,b,g,c,rfl,h,d,f⟩:=e;exact⟨a,_,c,b,g,Y,Z Y,by unfold maxLen at d;omega,Z f⟩
theorem Yg(a b):Bw a++b=yV a.c++(fh a.cy++b):=by simp[Bw]
def TQ(d:L (E×TypeId))(b e:ε):Prop:=
 Fr (λa=>∃c,(a,c)∈d/\fE c b a) b e/\∀a c,(a,c)∈d->∀d,b.heap[a]? =S (.cells d c (0,0))->∃b,b.size=d.size/\e.heap[a]? =S (.cells b c (0,0))
theorem TQ.of{b:L (E×TypeId)}(a:Fr j W V):TQ b W V:=⟨a.mono (λ_ _ b=>b.elim),λd e _ b c=>⟨b,Y,a.aB c id⟩⟩
theorem Jm{b a:TypeId}(d:fE b W m)(c:fE a W m):b=a:=nV λa=>fE.ne d c a Y
theorem TQ.trans{c:L (E×TypeId)}(a:TQ c W V)(b:TQ c V U):TQ c W U:=by
 refine⟨⟨b.1.os.trans a.1.os,b.1.tape.trans a.1.tape,b.1.output.trans a.1.output,bX a.1.size b.1.size,λc g h=> ?_⟩,λc e d i k=> ?_⟩
 .have f:=a.1.block c g h
  refine(b.1.block c (jd g a.1.size) (λ⟨e,d,U,g,l⟩=>h ⟨e,d,U,g,f▸l⟩)).trans f
 obtain⟨a,s1,f⟩:=a.2 c e d i k;obtain⟨a,s2,b⟩:=b.2 c e d a f;exact⟨a,s2.trans s1,b⟩
theorem TQ.mono{b a:L (E×TypeId)}(c:TQ b W V)(f:∀d∈b,d∈a):TQ a W V:=by
 refine⟨c.1.mono (λe _ ⟨a,d,g⟩=>⟨a,f _ d,g⟩),λe a f f d=> ?_⟩;by_cases g:(e,a)∈b
 .exact c.2 e a g f d
 exact⟨f,Y,c.1.aB d (λ⟨c,a,b⟩=>g (Jm b ⟨_,_,d⟩▸a))⟩
theorem TQ.sl{n:E}{b:TypeId->Prop}{a:L (E×TypeId)}(h:TQ a W V)(e:Sl t n C W x X)(f:dU b C)(d:∀c∈a,t≠c.2/\¬b c.2):Sl t n C V x X:=
 e.aJ f h.1 (λe f g b ⟨h,c,a⟩=>by
  have:=Jm b a;subst this;exact g.elim (λa=>(d _ c).1 a.symm) (λa=>(d _ c).2 a))
theorem TQ.obj{a:L (E×TypeId)}{b:Obj}(e:TQ a W V)(c:W.heap[m]? =S b)(d:∀f∈a,f.1≠m):V.heap[m]? =S b:=e.1.aB c (λ⟨b,a,_⟩=>d _ a Y)
theorem TQ.acw{a:L (E×TypeId)}{b:θ ζ}(e:TQ a W V)(c:W.heap[m]? =S (.cells b t f1))(d:∀f∈a,f.2≠t):V.heap[m]? =S (.cells b t f1):=
 e.1.aB c (λ⟨e,a,b⟩=>d _ a (Jm b ⟨_,_,c⟩))
theorem TQ.keep{a:L (E×TypeId)}(b:Fr j W V)(d:TQ a V U)(c:∀e∈a,W.heap.size<=e.1):Fr j W U:=b.keep d.1 (λb ⟨d,a,_⟩=>c _ a)
theorem TQ.one{d:L (E×TypeId)}{q:E}{e c:θ ζ}(l:(q,t)∈d)(h:W.heap[q]? =S (.cells e t (0,0)))(g:Fr (λb=>b=q) W V)(i:V.heap[q]? =S (.cells c t (0,0)))(m:c.size=e.size):TQ d W V:=by
 refine⟨g.mono (λb _ a=>by subst a;exact⟨t,l,_,_,h⟩),λb e d k a=> ?_⟩;by_cases f:b=q
 .subst f
  rw[h] at a;simp only[fZ,Obj.cells.injEq] at a;obtain⟨rfl,rfl,-⟩:=a;exact⟨c,m,i⟩
 exact⟨k,Y,g.aB a f⟩
theorem aaW{a:θ ζ}(b:a.size=2):∃c d,a=#[c,d]:=by
 match a,b with
 |⟨[a,b]⟩,_=>exact⟨a,b,Y⟩
theorem Hz{a:θ ζ}(b:a.size=4):∃d e f c,a=#[d,e,f,c]:=by
 match a,b with
 |⟨[b,c,d,a]⟩,_=>exact⟨b,c,d,a,Y⟩
theorem zn{d q:E->bG->Prop}(b:∀c a,d c a->q c a):∀(a:L bG)(c:E),kZ d c a->kZ q c a
 |[],_,_=>trivial
 |_::d,c,a=>⟨b _ _ a.1,zn b d (c+1) a.2⟩
theorem gQ{id:E}(c g:L E)(e:E->L (E×TypeId))(d:L (E×TypeId))(a:L (L E))(b:L bG)(Rd:L (L E))
  (k:Gv r1.toArray a=γ)(o:g.all (λf=>c.all (λq=>decide (f=q)||(a.getD q []).contains f))=γ)(m:yR a 0 Rd=γ)(n:b.map bG.reads=Rd)(l:∀h(a1 f:Act) W,a1.defers=f.defers->Q (.panic h) a1 W->Q (.panic h) f W)
  (s:∀f∈c,∀h∈e f,h∈d)(p:kZ (λ_ f=>f.Fy (Fr j)) 0 b)(r:∀f∈c,kZ (λh i=>f≠h->f ∉ a.getD h []->i.Fy (TQ (e f))) 0 b)
  (h:∀i,kA prog r1.toArray Q [] (λf=>if f∈c then TQ (e f) else Fr j) (λf=>if f∈g then Fr j W else TQ d W) (TQ d W) a (λf=>(b.getD f .w0).at) i 0 r1 a1):(Code.region id r1.toArray γ).wp prog Q a1 W:=
 rgG Jh [] c g (λc=>TQ (e c)) (TQ d) a b Rd k (by simp[ddB]) o m n l (λ_ _ a=>TQ.of a) (λ_ _ _ a b=>a.trans b) (λc b _ _ a=>a.mono (s c b)) p (λd c=>zn (λ_ _ b a1 a _=>b a1 a) _ _ (r d c)) h
theorem Jz:dK prog 52 77 3 56:=dK.of (z:=.agg #[aI,aV,aV]) underlying52 kR Y J
theorem acF:¬JQ 77:=by unfold JQ;decide
theorem Td:¬JQ 54:=by unfold JQ;decide
theorem yg(h:Hs)(c9:ζ)(D:ε)(e6:eJ D c9 h)(g3:h.length<=1000)(g4:∀t∈h,t.w.length<=1000/\t.r.length<=1000):
  aQ 45 #[c9] D λb c9=>∃b1,b=.returned b1/\eJ c9 b1 h/\Fr j D c9:=by
 obtain⟨h0,rfl,f1⟩:=e6;obtain⟨K,V⟩:=M h.length;obtain⟨f7,f8,rfl,-,-,SS⟩:=f1.oH V;have c3:=Z V;have c9:K<=1000:=O;have e9:(prog.info? 54).map (·.size)=S 1:=kR;clear V
 delta aQ;go_in
 go_upto_region 2 with fail;refine cT (λP V=> ?_);obtain⟨e6,c9⟩:=M D.heap.size;obtain⟨B,g3⟩:=M (e6+1);obtain⟨o,A⟩:=M (B+1);try rw[show D.heap.size+1+1=o by omega]
 rw[show D.heap.size+1=B by omega,<-c9];try rw[show B+1=o by omega]
 have e8:=Ol V;have f1:N (∀a,Fr j P a->aY a e6 #[.slice f7 K f8] 54):=Fr.all (by rw[V];exact aC (aC (bM c9) _) _);have f2:(aY P B #[aV] 54):=(by rw[V];exact aC (bM sO) _);have f3:(aY P o #[aV] 54):=(by rw[V];exact bM sO);have c4:(D.heap.size<=B/\D.heap.size<=o/\B≠o/\o<P.heap.size):=(by rw[V];simp;omega);have y:=bx (f1.1 _ rF);clear V c9 g3 A;go_wp2_with fail;go_loopg [9] K (λgk s9 wr=>∃(c:E)(e:ι Addr)(f:E)(b2:L (L ζ)),c+gk=K/\s9=I c/\aY wr o #[.slice e c f] 54/\cC P.heap.size 77 3 CT wr (.slice e c f) (h.take c) b2/\bT o P wr)
 .exact⟨0,η,0,[],du,Y,f3,qG,rF⟩
 case round=>
  obtain⟨c,e,f,b2,U,rfl,b7,d4,c2⟩:=hrel;have d7:=Z b7;have V:c<=K:=O;have d8:Fr j D wr:=(e8.keep c2 (λd b=>b▸c4.2.1));clear b7;by_cases D:c<K
  .obtain⟨k,c0⟩:=gE h c (oB c3.1)
   (obtain⟨D,V,e6,c9,d0,-,-,e4⟩:=SS.f d8;simp only[cM] at d0;obtain⟨rfl,-,rfl⟩:=d0;obtain rfl:=e4.addr c0;obtain⟨d0,c9,f9,D,V,g9,g8⟩:=fF.tn e4 c0;obtain⟨g7,g6⟩:=g4 k (bQ c0);obtain⟨b0,X,W⟩:=k;obtain⟨F,b9⟩:=M X.length;obtain⟨C,b8⟩:=M W.length;obtain⟨e0,e2,rfl,-,-,f5⟩:=g9.oH b9;obtain⟨d9,e1,rfl,-,-,f4⟩:=g8.oH b8;have⟨d3,HRN⟩:=bD b9 b8;have D:F<=1000:=by rw[b9];exact g7);(have D:C<=1000:=by rw[b8];exact g6);have⟨D,V⟩:=dy c K;clear b9 b8;go_upto_region 5 with fail;refine cT (λD c9=> ?_);obtain⟨V,b9⟩:=M wr.heap.size;rw[<-b9];have a4:=cY c9;have b8:(aY D V #[I b0,.slice e0 F e2,.slice d9 C e1] 77):=(by rw[c9];exact bM b9);have d1:=(c2.step a4);have d5:=(d4.f a4);have d6:=(a4.hs d7.1);clear c9 b9;have b9:=λa(s:Fr j D a)=>bx (s.hs d6);have b9:=λa(s:Fr j D a)=>bx (s.hs b8);have b9:=λa(s:Fr j D a)=>dh (s.hs b8);have b9:=λa(s:Fr j D a)=>iU (s.hs b8);refine gL [11] [12,14] [0,1,2,3,4,5,6,7,8,9,10,12] (λix=>if ix=12 then λa c6=>Fr (λd=>(ζ.slice e c f).ownBlock=S d) a c6/\∀d,(ζ.slice e c f).ownBlock=S d->fE 77 a d else TQ [(o,54)]) (Fr (λd=>d=o\/(ζ.slice e c f).ownBlock=S d)) [[],[0],[],[2],[],[4],[4,5],[],[7],[7,8],[2,3,4,5,6,7,8,9],[2,3,4,5,6,7,8,9,10],[0,1,2,3,4,5,6,7,8,9,10,11],[],[0,1,2,3,4,5,6,7,8,9,10,12,13]] [.eq 0 (aP o 0),.eq 1 (.slice e c f),.eq 2 (aP V 0),.eq 3 (I b0),.eq 4 (aP V 1),.eq 5 (.slice e0 F e2),.w1 6 (λk a=>∃e f,k=.slice e F f/\Sl 3 1 CI a (.slice e F f) X),.eq 7 (aP V 2),.eq 8 (.slice d9 C e1),.w1 9 (λk a=>∃e f,k=.slice e C f/\Sl 203 2 CK a (.slice e C f) W),.w1 10 (λk a=>∃G y u w,k=.agg #[I b0,.slice G F y,.slice u C w]/\Sl 3 1 CI a (.slice G F y) X/\Sl 203 2 CK a (.slice u C w) W),.w1 11 (λk a=>∃c1 G y u w,k=.slice (S (H c1 0)) 1 1/\aY a c1 #[I b0,.slice G F y,.slice u C w] 77/\Sl 3 1 CI a (.slice G F y) X/\Sl 203 2 CK a (.slice u C w) W),.w1 12 (λk a=>∃v x a2,k=.slice v (c+1) x/\cC P.heap.size 77 3 CT a (.slice v (c+1) x) (h.take (c+1)) a2/\∃Q,Q.size=1/\aY a o Q 54),.eq 13 (aP o 0),.w1 12 (λk a=>∃v x a2,k=.slice v (c+1) x/\cC P.heap.size 77 3 CT a (.slice v (c+1) x) (h.take (c+1)) a2/\aY a o #[.slice v (c+1) x] 54)] [[0],[1],[2],[3],[4],[5],[6],[7],[8],[9],[10],[11],[12],[13],[12]] kR kR kR kR Y (λ_ _ _ _ b h=>⟨b.symm.trans h.1,h.2⟩) (λ_ _ s=>s.mono (λ_ _ k=>k.elim)) (λ_ _ _ h d=>h.tr d) ?hma ?hstab ?hstabM (λC=> ?_)
   case hma=>
    intro c U e b4 e3;simp only[rB] at U;rcases U with rfl|rfl
    .exact e3.1.mono (λd _ b=>.inr b)
    exact e3.1.mono (λd _ ⟨t,a7,_⟩=>.inl (sU (cH Prod.fst (cX.1 a7))))
   case hstab=>exact Il
   case hstabM=>
    intro c U;simp only[rB] at U;rcases U with rfl|rfl;all_goals(refine⟨?_,?_,?_,?_,?_,?_,?_,?_,?_,?_,?_,?_,?_,?_,?_,trivial⟩<;>first|exact wZ|exact λ_ _ _ _ _ _ ⟨e,f,b4,c7,b,h,d⟩ l=>⟨e,f,b4,c7,b,h.aJ iA l.1 (λt d n i p=>i.ne (l.2 d p) (λR=>by subst R;exact n.elim (λg=>by cases g) (λg=>g)) Y),d.aJ (Pl.aJ fv (λ_=>False)) l.1 (λt d n i p=>i.ne (l.2 d p) (λR=>by subst R;exact n.elim (λg=>by cases g) (λg=>g)) Y)⟩|exact λ_ _ _ _ _ _ ⟨e,f,b4,c7,b,h,d⟩ l=>⟨e,f,b4,c7,b,l.sl h iA sI,l.sl d (Pl.aJ fv (λ_=>False)) sI⟩|exact λ_ _ _ _ _ _ ⟨e,f,b,h⟩ l=>⟨e,f,b,h.aJ iA l.1 (λt d n i p=>i.ne (l.2 d p) (λR=>by subst R;exact n.elim (λg=>by cases g) (λg=>g)) Y)⟩|exact λ_ _ _ _ _ _ ⟨e,f,b,h⟩ l=>⟨e,f,b,l.sl h iA sI⟩|exact λ_ _ _ _ _ _ ⟨e,f,b,h⟩ l=>⟨e,f,b,h.aJ (Pl.aJ fv (λ_=>False)) l.1 (λt d n i p=>i.ne (l.2 d p) (λR=>by subst R;exact n.elim (λg=>by cases g) (λg=>g)) Y)⟩|exact λ_ _ _ _ _ _ ⟨e,f,b,h⟩ l=>⟨e,f,b,l.sl h (Pl.aJ fv (λ_=>False)) sI⟩|exact λ_ _ _ _ _ _ ⟨e,f,b2,b,a8,Q,g5,b7⟩ l=>⟨e,f,b2,b,a8.aJ CT.aJ l.1 (λd i ⟨t,a7,n⟩=>by
    obtain⟨rfl,rfl⟩:=Prod.mk.inj (cX.1 a7);exact(aW a8.row i).2.ne n J Y) (λt d n i ⟨h,a7,e7⟩=>by
    obtain⟨rfl,rfl⟩:=Prod.mk.inj (cX.1 a7);exact i.ne e7 (λp=>by subst p;exact Td n) Y),(l.2 o 54 sI Q b7).elim (λh k=>⟨h,k.1.trans g5,k.2⟩)⟩)
   refine⟨?_,?_,?_,?_,?_,?_,?_,?_,?_,?_,?_,?_,?_,?_,?_,?_⟩;all_goals first|exact Ca|skip
   .refine IG ?_
    intro a r a1 m;go_simp;go_at_call 52;refine(sW _ X a ((f5.f a4).f r) (oB d3.1)).mono ?_;rintro b c6 ⟨b1,f0,rfl,a9,s⟩;obtain⟨u,w,rfl,-,-⟩:=a9.shape d3.1.symm;exact m _ _ s ⟨_,_,Y,a9.read⟩
   .refine IG ?_
    intro a r a1 m;go_simp;go_at_call 76;refine(YO _ W a ((f4.f a4).f r) vj).mono ?_;rintro b c6 ⟨b1,f0,rfl,a9,s⟩;obtain⟨u,w,rfl,-,-⟩:=a9.shape HRN.1.symm;exact m _ _ s ⟨_,_,Y,a9.read⟩
   .refine rb2 6 9 ?_
    intro a r a1 m l s;obtain⟨G,y,h,a5⟩:=l;obtain⟨u,w,l,a6⟩:=s;simp only[h,l] at m;go_simp;exact m _ _ rF ⟨_,_,_,_,Y,a5,a6⟩
   .refine VN 10 ?_
    intro a r a1 m l;obtain⟨G,y,u,w,h,a5,a6⟩:=l;simp only[h] at m;go_simp;exact m _ _ cZ ⟨_,_,_,_,_,Y,bM Y,a5.f cZ,a6.f cZ⟩
   .intro a r z a1 m
    have b5:=z 1 J;have b6:=z 7 J;have h:=z 11 J;simp only[rX,ξ] at r b5 b6 h z m |-;obtain⟨c1,G,y,u,w,g0,g1,a5,a6⟩:=h;have a3:=(d5.f r);rw[aS (by first|rfl|go_simp)];refine pM fX (.tmp 14) (.tmp 24) fX Jz c (by rw[cV];have:=c3.1;omega) b5 a3 CT.aJ acF (⟨b0,X,W⟩:Tn) g0 Y (eF.block g1 oC) (λf6 b6=>⟨_,_,Y,a5.aJ iA b6.1 (λt d n i b=>i.ne (aW a3.row b).2 (λp=>by subst p;exact n.elim (λg=>by cases g) (λg=>g)) Y),a6.aJ (Pl.aJ fv (λ_=>False)) b6.1 (λt d n i b=>i.ne (aW a3.row b).2 (λp=>by subst p;exact n.elim (λg=>by cases g) (λg=>g)) Y)⟩) O mL (bX d1.size r.size) ?_;intro v x f6 c5 d2 h l;exact m _ _ ⟨d2.1,λd b=>(aW a3.row b).2⟩ ⟨_,_,_,Y,by rw[(bJ c0)];exact c5,_,Y,a3.pI d2 (r.hs d6) J⟩
   .intro a r z a1 m
    have b5:=z 1 J;have h:=z 12 J;simp only[rX,ξ] at r b5 h z m |-;(try simp only[z] at m);obtain⟨v,x,a2,c8,e5,Q,g2,A⟩:=h;obtain⟨g,rfl⟩:∃g,Q=#[g]:=by
     match Q,g2 with
     |⟨[g]⟩,_=>exact⟨g,Y⟩
    simp only[c8] at m;have g:=bx A;have g:=λc=>aG A c;go_simp;have a0:bT o a (a.setCell (H o 0) (.slice v (c+1) x)):=rF.aK _ _;exact m undef _ (TQ.one sI A a0 (aD A 0 _) Y) ⟨_,_,_,Y,e5.aJ CT.aJ a0 (λd i b=>by subst b;exact(aW e5.row i).2.ne ⟨_,_,A⟩ J Y) (λt d n i b=>by subst b;exact i.ne ⟨_,_,A⟩ (λp=>by subst p;exact Td n) Y),aD A 0 _⟩
   refine re1 14 ?_;intro a r g;obtain⟨v,x,a2,c8,c5,a⟩:=g;have g:=Z a;rw[c8];clear a;go_wp2;go_roundg (gk-1)
   .exact⟨c+1,_,_,_,O,by go_num,g.1,c5,(d1.trans r (λ_ _ k=>k) (λd i b=>b.elim (λb=>b) (λb=>absurd (aW d5.row b).1 (lN i))))⟩
   omega
  obtain rfl:c=K:=O;have b3:=(c2.aB f2 c4.2.2.1);have a:=bx d7.1;have f9:=bx b3;have a:=λc=>aG b3 c;go_wp2;have a0:bT B wr (wr.setCell (H B 0) (.slice e c f)):=rF.aK _ _;refine aO (bO Y _ _ _ B 54 _ (0,0) _ Y (aD b3 0 (.slice e c f)) Y underlying54 (by rw[e9];rfl)) Y ⟨_,Y,⟨_,Y,?_⟩,d8.keep a0 (λc b=>b▸c4.1)⟩;have a8:=d4.read;rw[(dq (oB c3.1))] at a8;exact Sl.past a8 CT.aJ a0 b3 J Td
theorem bZ{g:Func}{d h:Tmp}(k:g.results=#[.cell d t,.tmp h])(a:θ ζ)(P:Program)(e:ε)(c:E)(n:TypeId)(b:θ ζ)(i:E×E)(f:TypeDesc)
  (m:a.getD d undef=aP c 0)(l:e.heap[c]? =S (.cells b n i))(i:(match f with|.struct _|.array _ _=>γ|_=>δ)=γ)
  (n:P.underlying t=S f)(f:(P.info? t).map (·.size)=S b.size):
  (results g a).run P e=.ok (.tuple #[.agg b,a.getD h undef]) e:=by
 have a:a[d]?.getD undef=aP c 0:=sU m;simp[results,k,a,asAddr,fQ l i n f,Result.andThen]
theorem cO{m:Func}{g q:Tmp}{h i:TypeId}(p:m.results=#[.cell g h,.cell q i])(a:θ ζ)(P:Program)(b:ε)(e f:E)(s w:TypeId)(c d:θ ζ)(n o:E×E)(k l:TypeDesc)
  (t:a.getD g undef=aP e 0)(r:b.heap[e]? =S (.cells c s n))(n:(match k with|.struct _|.array _ _=>γ|_=>δ)=γ)
  (v:P.underlying h=S k)(s:(P.info? h).map (·.size)=S c.size)
  (u:a.getD q undef=aP f 0)(k:b.heap[f]? =S (.cells d w o))(h:(match l with|.struct _|.array _ _=>γ|_=>δ)=γ)
  (o:P.underlying i=S l)(l:(P.info? i).map (·.size)=S d.size):
  (results m a).run P b=.ok (.tuple #[.agg c,.agg d]) b:=by
 have b:a[g]?.getD undef=aP e 0:=sU t;have a:a[q]?.getD undef=aP f 0:=sU u;simp[results,p,b,a,asAddr,fQ r n v s,fQ k h o l,Result.andThen]
abbrev aaa(a:ε)(q:E)(b c d e f g h:ζ):ε:=((((((a.setCell ⟨q,0,η⟩ b).setCell ⟨q,1,η⟩ c).setCell ⟨q,2,η⟩ d).setCell ⟨q,3,η⟩ e).setCell ⟨q,4,η⟩ f).setCell ⟨q,5,η⟩ g).setCell ⟨q,6,η⟩ h
theorem Dc{q:E}{a b c d e f g:ζ}(h:aY W q #[a,b,c,d,e,f,g] t)(a b c d e f g:ζ):(aaa W q a b c d e f g).heap[q]? =S (.cells #[a,b,c,d,e,f,g] t (0,0)):=
 by
 have a:=aD (aD (aD (aD (aD (aD (aD h 0 a) 1 b) 2 c) 3 d) 4 e) 5 f) 6 g;simp only[rC] at a;exact a
theorem Wi(a:ε)(q:E)(b c d e f g h:ζ):bT q a (aaa a q b c d e f g h):=((((((rF.aK _ _).aK _ _).aK _ _).aK _ _).aK _ _).aK _ _).aK _ _
theorem Dn(u:Hs)(v:T)(h:L Fc)(w:Ch)(P Q:ζ)(b:ε)(G:eJ b P u)(K:Sl 276 7 CF b Q h)(F:h.length<=fV):
  aQ 277 #[P,I v,Q,iP w] b λe c=>∃(a:Fc)(d:κ),a.cy=[]/\e=.returned (.tuple #[Qd a aV,.bool d])/\Fr j b c:=by
 have U:=G;have HL:=K;obtain⟨a7,rfl,-⟩:=G;have d:(prog.info? 276).map (·.size)=S 7:=kR;have HI:=Z d;obtain⟨a3,a4,a6,a5,rfl,-,-,B⟩:=K;obtain⟨a,c⟩:=M h.length;rw[<-c] at HL |-;have HLN:=Z c;have G:a<=1000000000000:=by rw[c];exact F
 obtain⟨f,e,n⟩:=w;unfold iP;simp only;clear d c
 delta aQ;go_in
 go_upto_region 1 with fail;refine cT (λk c=> ?_);obtain⟨w,d⟩:=M b.heap.size;obtain⟨w,y⟩:=M (w+1);obtain⟨i,z⟩:=M (w+1);rw[show b.heap.size+2=i by omega,show b.heap.size+1=w by omega,<-d];have m:=Ol c;have X:=qa2 c d;have t:N (∀g,Fr j k g->aY g w #[I f,I e,I n] 144):=Fr.all (by rw[c];exact aC (bM sO) _);have C:N (∀g,Fr j k g->aY g i #[aI,aI,aI,aI,aI,aI,aV] 276):=Fr.all (by rw[c];exact bM sO);have w:b.heap.size<=i:=O;have A:N (∀g,Fr j k g->∀l o p r s x,Fr j b (aaa g i l o p r s x aV)):=Z (λg b l o p r s x=>(m.step b).keep (Wi _ _ _ _ _ _ _ _ _) (λg b=>b▸w));clear c d y z;go_wp2_with fail;go_loopg [15] a (λgk s15 wr=>∃b,b+gk=a/\s15=I b/\Fr j k wr)
 .exact⟨0,du,Y,rF⟩
 case round=>
  obtain⟨d,HJ,rfl,c⟩:=hrel;obtain⟨D,rfl⟩:=M gk;by_cases b:d<a
  .obtain⟨R,o⟩:=gE h d jE
   obtain rfl:=B.addr o;obtain⟨G,b,p,w,x,y,z,B,-⟩:=(B.f (m.step c)).fc o;have⟨G,K⟩:=dy d a;have g:=aX.cell b;have l:=aX.cell p;have r:=aX.cell (aj (t.1 _ c) 0);have s:=aX.cell (aj (t.1 _ c) 1);clear b p w x y z B o;obtain⟨y,o⟩:=M R.c.k;obtain⟨x,b⟩:=M R.c.a;rw[<-o] at g;rw[<-b] at l;clear o b;go_upto_region 4 with fail;go_cut [37] (λs37 w=>∃b,s37=.bool b/\Fr j k w)
   .by_cases o:y=f
    .have b:(y !=f)=δ:=sU o
     clear o;by_cases p:x=e
     .have b:(x !=e)=δ:=sU p
      clear p;refine bj kR kR ?_;(repeat(go_big_quiet_step (fail)));refine wpQuiet_nil ?_;intro w b;have z:=bI b;clear b g l r s;go_wp2;go_meet;exact⟨_,Y,c.step z⟩
     have b:(x !=e)=γ:=sU p;clear p;refine bj kR kR ?_;(repeat(go_big_quiet_step (fail)));refine wpQuiet_nil ?_;intro w b;have p:=bI b;clear b g l r s;go_wp2;go_meet;exact⟨_,Y,c.step p⟩
    have b:(y !=f)=γ:=sU o;clear o;refine bj kR kR ?_;(repeat(go_big_quiet_step (fail)));refine wpQuiet_nil ?_;intro p b;have o:=bI b;clear b g l r s;go_wp2;go_meet;exact⟨_,Y,c.step o⟩
   obtain⟨w,b⟩:=M wc;rw[<-b] at hcut |-;clear b g l r s;obtain⟨a0,rfl,z⟩:=hcut;cases a0 with
   |true=>
    go_wp2;go_roundg (D-1)
    .exact⟨d+1,O,by go_num,z⟩
    omega
   |false=>
    go_wp2_with fail;go_loopg [40] a (λgk s40 wr=>∃b,b+gk=a/\s40=I b/\Fr j k wr)
    .exact⟨0,du,Y,z⟩
    case round=>
     obtain⟨g,a2,rfl,FI⟩:=hrel;have b:g<=a:=O;by_cases a:g<a
     .obtain⟨p,r,s,-⟩:=mD (t.1 _ FI)
      have l:=λa=>bx (X.1 _ (FI.alloc a));go_wp2_with fail;refine aZ.nm (λt b=> ?_);obtain⟨k,a⟩:=M wr.heap.size;rw[<-a];have k:=cY b;have W:=dL b a;have o:=(FI.step k);clear b a k p r s l;refine sg (pH u v h ⟨⟨f,e,n⟩,2,d,g,[]⟩ _ _ aV t (U.fr (m.step o)) (HL.f (m.step o)) dJ F) ?_;rintro a b ⟨rfl,s⟩;have p:=(o.step s);have r:=s.hs W.1;have l:=C.1 _ p;have V:=Z l;obtain⟨a1,a⟩:=M (oZ u v h ⟨⟨f,e,n⟩,2,d,g,[]⟩);rw[<-a];clear s a;cases a1 with
      |true=>
       obtain⟨a,b,h,k,m,o,s,-⟩:=pc7 r;obtain⟨a,b,h,k,m,o,s,t⟩:=pc7 l;clear l r;go_wp2;exact aO (bZ Y _ _ _ i 276 _ (0,0) _ Y (Dc V.1 _ _ _ _ _ _ _) Y underlying276 tZ) Y ⟨⟨⟨f,e,n⟩,2,d,g,[]⟩,γ,Y,Y,A.1 _ p _ _ _ _ _ _⟩
      |false=>
       clear l r;go_wp2;go_roundg (gk-1)
       .exact⟨g+1,O,by go_num,p⟩
       omega
     go_wp2;go_roundg (D-1)
     .exact⟨d+1,O,by go_num,FI⟩
     omega
  have a:=C.1 _ c;have b:=Z a;obtain⟨d,e,f,g,h,k,l,m⟩:=pc7 a;clear a;go_wp2;exact aO (bZ Y _ _ _ i 276 _ (0,0) _ Y (Dc b.1 _ _ _ _ _ _ _) Y underlying276 tZ) Y ⟨⟨⟨0,0,0⟩,0,0,0,[]⟩,δ,Y,Y,A.1 _ c _ _ _ _ _ _⟩
theorem aaB:prog.cellsOf 3=1:=kR
theorem aag:L.range 4=[0,1,2,3]:=J
theorem Aj(h i k l d e f g:T)(n:ε):(binOp .eql 22 (.agg #[I h,I i,I k,I l]) (.agg #[I d,I e,I f,I g])).run prog n=.ok (.bool (h==d&&(i==e&&(k==f&&l==g)))) n:=by
 obtain⟨r,p,-⟩:=lV Kq;have a:=underlying3;have r:=aag;rw[run_eql_struct,run_equalIn_array (d:=9999) (w:=n) _ _ underlying22 p,aaB,r];cases b:(h==d)
 .simp[Op.eqItems,go_sem,a,b]
 cases c:(i==e)
 .simp[Op.eqItems,go_sem,a,b,c]
 cases m:(k==f)
 .simp[Op.eqItems,go_sem,a,b,c,m]
 cases o:(l==g)
 .simp[Op.eqItems,go_sem,a,b,c,m,o]
 simp[Op.eqItems,go_sem,a,b,c,m,o]
theorem VQ:prog.eqGuardType prog.depth 22=δ:=kR
theorem iN(a:T)(b:ε):dr 132 #[I a] b (.bool (decide (0<=a)&&decide (a<4))):=by
 by_cases a:0<=a
 .delta dr aQ;go_in
  go_wp2;go_ret;exact⟨by simp[(cD a)],rF⟩
 have a:=bV a
 delta dr aQ;go_in
 go_wp2;go_ret;exact⟨by simp[a],rF⟩
def ee(a:T):T:=max 0 (min a 2147483647)
theorem dI(a:T):db (ee a):=by unfold ee db uc;omega
theorem abH(a:db i1):ee i1=i1:=by unfold db uc at a;unfold ee;omega
theorem Xf:ee i1=i1↔db i1:=⟨λa=>a▸dI i1,abH⟩
def cpt(c b:E)(a:T):T:=if b<c then ee a else a
theorem jk(a b c d:T)(i:ε):dr 74 #[.agg #[I a,I b,I c,I d]] i (.agg #[I (ee a),I (ee b),I (ee c),I (ee d)]):=by
 have r:(prog.info? 22).map (·.size)=S 4:=kR;have g:∀e:ε,(Instr.index 22 (.agg #[I a,I b,I c,I d]) aI).run prog e=.ok (I a) e:=λ_=>by kernel_rfl
 have g:∀e:ε,(Instr.index 22 (.agg #[I a,I b,I c,I d]) (I 1)).run prog e=.ok (I b) e:=λ_=>by kernel_rfl
 have g:∀e:ε,(Instr.index 22 (.agg #[I a,I b,I c,I d]) (I 2)).run prog e=.ok (I c) e:=λ_=>by kernel_rfl
 have g:∀e:ε,(Instr.index 22 (.agg #[I a,I b,I c,I d]) (I 3)).run prog e=.ok (I d) e:=λ_=>by kernel_rfl
 delta dr aQ;go_in
 go_upto_region 1 with fail;refine cT (λo e=> ?_);obtain⟨g,f⟩:=M i.heap.size;obtain⟨h,k⟩:=M (g+1);rw[show i.heap.size+1=h by omega,<-f];have p:=lq e;have n:=uV e f;have s:(aY o h #[aI,aI,aI,aI] 22):=(by rw[e];exact bM sO);have l:(i.heap.size<=g/\i.heap.size<=h/\g≠h):=O;obtain⟨i,t,u,v,-⟩:=gZ n.1;clear e f k;go_wp2_with fail;go_loopg [6] 4 (λgk s6 wr=>∃e:E,e+gk=4/\s6=I e/\aY wr g #[I (cpt e 0 a),I (cpt e 1 b),I (cpt e 2 c),I (cpt e 3 d)] 22/\bT g o wr)
 .exact⟨0,du,Y,n.1,rF⟩
 case round=>
  obtain⟨f,w,rfl,m,e⟩:=hrel;have k:=Z m;have g:f<=4:=O;obtain⟨g,i,n,o,t⟩:=gZ m;clear m;rcases(show f=0\/f=1\/f=2\/f=3\/f=4 by omega) with rfl|rfl|rfl|rfl|rfl
  .go_wp2
   go_roundg (gk-1)
   .exact⟨1,O,Y,aD k.1 0 _,e.aK 0 _⟩
   omega
  .go_wp2
   go_roundg (gk-1)
   .exact⟨2,O,Y,aD k.1 1 _,e.aK 1 _⟩
   omega
  .go_wp2
   go_roundg (gk-1)
   .exact⟨3,O,Y,aD k.1 2 _,e.aK 2 _⟩
   omega
  .go_wp2
   go_roundg (gk-1)
   .exact⟨4,O,Y,aD k.1 3 _,e.aK 3 _⟩
   omega
  have f:=(e.aB s l.2.2.symm);obtain⟨g,i,k,m,n⟩:=gZ f;go_wp2;exact aO (bO Y _ _ _ h 22 _ (0,0) _ Y (bP f (I (ee a)) (I (ee b)) (I (ee c)) (I (ee d))) Y underlying22 (by rw[r];rfl)) Y ⟨Y,(p.keep e (λb a=>a▸l.1)).keep (bC _ _ _ _ _ _) (λb a=>a▸l.2.1)⟩
def pv(e a b c d s0 s1 s2 s3:T):ζ:=.agg #[I e,I a,I b,I c,I d,I s0,I s1,I s2,I s3]
def vq(e a b c d s0 s1 s2 s3:T):κ:=decide (0<=e)&&decide (e<=2147483647)&&decide (ee a=a/\ee b=b/\ee c=c/\ee d=d)&&decide (ee s0=s0/\ee s1=s1/\ee s2=s2/\ee s3=s3)
theorem vC{e a b c d s0 s1 s2 s3:T}:vq e a b c d s0 s1 s2 s3=γ↔db e/\(db a/\db b/\db c/\db d)/\(db s0/\db s1/\db s2/\db s3):=by
 unfold vq;simp only[bA,cS,Xf];unfold db uc;exact Iff.intro (λ⟨⟨a,b⟩,c⟩=>⟨a,b,c⟩) (λ⟨a,b,c⟩=>⟨⟨a,b⟩,c⟩)
theorem jF(e a b c d s0 s1 s2 s3:T)(m:ε):dr 43 #[pv e a b c d s0 s1 s2 s3] m (.bool (vq e a b c d s0 s1 s2 s3)):=by
 have B:(vq e a b c d s0 s1 s2 s3=(decide (0<=e)&&decide (e<=2147483647)&&decide (ee a=a/\ee b=b/\ee c=c/\ee d=d)&&decide (ee s0=s0/\ee s1=s1/\ee s2=s2/\ee s3=s3))):=Y;unfold pv
 delta dr aQ;go_in
 go_upto_region 1 with fail;refine cT (λC h=> ?_);obtain⟨f,g⟩:=M m.heap.size;rw[<-g];have A:=cY h;have f:=dL h g;clear h g;have n:=aX.cell (aj f.1 0);have o:=aX.cell (aj f.1 1);have p:=aX.cell (aj f.1 2);have r:=aX.cell (aj f.1 3);have s:=aX.cell (aj f.1 4);have t:=aX.cell (aj f.1 5);have u:=aX.cell (aj f.1 6);have w:=aX.cell (aj f.1 7);have x:=aX.cell (aj f.1 8);obtain⟨h,f⟩:=M (ee a==a&&(ee b==b&&(ee c==c&&ee d==d)));obtain⟨i,k⟩:=M (ee s0==s0&&(ee s1==s1&&(ee s2==s2&&ee s3==s3)));have RE:=λg=>Aj (ee a) (ee b) (ee c) (ee d) a b c d g;have RS:=λg=>Aj (ee s0) (ee s1) (ee s2) (ee s3) s0 s1 s2 s3 g;have y:=VQ;have y:(decide (ee a=a/\ee b=b/\ee c=c/\ee d=d)=h):=(by rw[f,dS];simp);have z:(decide (ee s0=s0/\ee s1=s1/\ee s2=s2/\ee s3=s3)=i):=(by rw[k,dS];simp);rw[<-f] at RE;rw[<-k] at RS;have g:N (∀l v,v=(decide (0<=e)&&decide (e<=2147483647)&&h&&i)->Fr j C l->((Ending.returned (.bool v)=.returned (.bool (vq e a b c d s0 s1 s2 s3)))/\Fr j m l)):=Z (λc d b a=>⟨by rw[B,y,z,b],A.step a⟩);clear f k;by_cases k:0<=e
 .have a:=cD k
  by_cases l:e<=2147483647
  .have v:=cD l
   cases h
   .refine bj kR kR ?_
    (repeat(go_big_quiet_step ((go_at_call 74;exact aX.call _ (jk _ _ _ _ _)))));refine wpQuiet_nil ?_;intro b a;have b:=(bI a);clear a;go_wp2;go_ret;exact g.1 _ _ (by simp[*]) b
   cases i
   .refine bj kR kR ?_
    (repeat(go_big_quiet_step ((go_at_call 74;exact aX.call _ (jk _ _ _ _ _)))));refine wpQuiet_nil ?_;intro b a;have b:=(bI a);clear a;go_wp2;go_ret;exact g.1 _ _ (by simp[*]) b
   refine bj kR kR ?_;(repeat(go_big_quiet_step ((go_at_call 74;exact aX.call _ (jk _ _ _ _ _)))));refine wpQuiet_nil ?_;intro b a;have b:=(bI a);clear a n o p r s t u;go_wp2;go_ret;exact g.1 _ _ (by simp[*]) b
  have a:=bV l;clear l;refine bj kR kR ?_;repeat(go_big_quiet_step ((go_at_call 74;exact aX.call _ (jk _ _ _ _ _))))
  refine wpQuiet_nil ?_;intro b a;have b:=(bI a);clear a n o p r s t u w x;go_wp2;go_ret;exact g.1 _ _ (by simp[*]) b
 have a:=bV k;clear k;refine bj kR kR ?_;repeat(go_big_quiet_step ((go_at_call 74;exact aX.call _ (jk _ _ _ _ _))))
 refine wpQuiet_nil ?_;intro b a;have b:=(bI a);clear a n o p r s t u w x;go_wp2;go_ret;exact g.1 _ _ (by simp[*]) b
theorem Fj(a):Calls prog 46 #[] a λc b=>c=.returned (.agg #[I 1,.bool δ,aV,aV])/\Fr j a b:=by
 have b:(prog.info? 61).map (·.size)=S 4:=kR;go_in
 go_wp2;exact aO (gp Y _ _ a.heap.size 61 _ (0,0) _ Y (bM Y) underlying61 Y (by rw[b];rfl)) Y ⟨Y,cZ⟩
abbrev Vv:θ ζ:=#[.slice η 0 0,.int .i64 0,.slice η 0 0,.bool δ,.bool δ,.bool δ,.bool δ,.int .i64 0,.int .i64 0,.int .i64 0,.bool δ,.slice η 0 0,.slice η 0 0,.slice η 0 0,.int .i64 0,.int .i64 0,.int .i64 0,.int .i64 0,.int .i64 0,.int .i64 0,.int .i64 0,.int .i64 0,.int .i64 0,.int .i64 0,.int .i64 0,.int .i64 0,.slice η 0 0,.slice η 0 0]
theorem gy:(prog.info? 66).map (·.size)=S 28:=kR
abbrev nst(g:ζ)(f e a b c d s0 s1 s2 s3:T):θ ζ:=#[g,.int .i64 f,.slice η 0 0,.bool δ,.bool δ,.bool δ,.bool δ,.int .i64 0,.int .i64 0,.int .i64 1,.bool δ,.slice η 0 0,.slice η 0 0,.slice η 0 0,.int .i64 e,.int .i64 a,.int .i64 b,.int .i64 c,.int .i64 d,.int .i64 s0,.int .i64 s1,.int .i64 s2,.int .i64 s3,.int .i64 0,.int .i64 0,.int .i64 0,.slice η 0 0,.slice η 0 0]
def adL(f:Hs)(a g b c d e s0 s1 s2 s3:T)(k:ε)(i:Ending)(h:ε):Prop:=
 Fr j k h/\((i=.returned (.tuple #[.agg Vv,I 1])/\¬(bm f=γ/\(a=0\/a=1)/\vq g b c d e s0 s1 s2 s3=γ))\/
  ((∃k,i=.returned (.tuple #[.agg (nst k a g b c d e s0 s1 s2 s3),aI])/\eJ h (.agg #[k]) f)/\bm f=γ/\(a=0\/a=1)/\vq g b c d e s0 s1 s2 s3=γ))
theorem Cj(d:Hs)(f l g h i k s0 s1 s2 s3:T)(C:ζ)(u:ε)(B:eJ u C d)(Q:bm d=γ->d.length<=1000)(R:bm d=γ->∀a∈d,a.w.length<=1000/\a.r.length<=1000):
  aQ 21 #[C,I f,pv l g h i k s0 s1 s2 s3] u (adL d f l g h i k s0 s1 s2 s3 u):=by
 have y:=B;obtain⟨V,rfl,r⟩:=B;have HI:=Z gy;have x:N (Vv.all (·.oneCell')=γ):=Z oC;obtain⟨a0,a⟩:=M (f !=0);obtain⟨a2,b⟩:=M (f !=1);have⟨z,HL2⟩:=bD a b;have G:=a.symm;have K:=b.symm;clear a b;unfold pv
 delta aQ;go_in
 go_wp2_with fail;refine aZ.nm (λC e=> ?_);obtain⟨B,m⟩:=M u.heap.size;obtain⟨B,o⟩:=M (B+1);obtain⟨c,p⟩:=M (B+1);rw[show u.heap.size+1+1=c by omega,show u.heap.size+1=B by omega,<-m];have n:=Ol e;have F:=qa2 e m;have b:N (∀a,Fr j C a->aY a B #[I l,I g,I h,I i,I k,I s0,I s1,I s2,I s3] 64):=Fr.all (by rw[e];exact aC (bM sO) _);have w:N (∀a,Fr j C a->aY a c Vv 66):=Fr.all (by rw[e];exact bM sO);have v:u.heap.size<=c:=O;clear e m o p r;refine sg (dV d _ C (y.fr n)) ?_;rintro u W ⟨rfl,p⟩;obtain⟨a1,e⟩:=M (bm d);rw[<-e];have r:=Z e;clear e;cases a1
 .go_wp2_with (refine aU Y 66 (.tmp 6) (.tmp 24) Y Y Y (w.1 _ p) Y HI.1 x.1 ?_;intro e t s)
  exact aO (bZ Y _ _ _ c 66 _ (0,0) _ Y t Y underlying66 HI.1) Y ⟨(n.step (p)).keep s (λm e=>e▸v),.inl ⟨Y,λe=>by have:=e.1;rw[<-r.1] at this;cases this⟩⟩
 cases a0
 .have X:N (f=0\/f=1):=Z (by have e:=z.1;have m:=HL2.1;left;simpa using e)
  obtain⟨e,m,o,u,A,B,C,D,P,-⟩:=Vx (b.1 _ p);go_wp2_with fail;clear e m o u A B C D P;refine sg (jF l g h i k s0 s1 s2 s3 W) ?_;rintro u m ⟨rfl,o⟩;have e:=(p.step o);clear o;obtain⟨a3,o⟩:=M (vq l g h i k s0 s1 s2 s3);rw[<-o];have D:=Z o;clear o;cases a3
  .go_wp2_with (refine aU Y 66 (.tmp 6) (.tmp 24) Y Y Y (w.1 _ e) Y HI.1 x.1 ?_;intro o t s)
   exact aO (bZ Y _ _ _ c 66 _ (0,0) _ Y t Y underlying66 HI.1) Y ⟨(n.step (e)).keep s (λu o=>o▸v),.inl ⟨Y,λo=>by have:=o.2.2;rw[<-D.1] at this;cases this⟩⟩
  have a9:=λa(o:Fr j m a)=>bx (F.1 _ (e.step o));have b0:=λa(o:Fr j m a)=>bx (b.1 _ (e.step o));have b1:=λa(o:Fr j m a)=>dh (b.1 _ (e.step o));have b2:=λa(o:Fr j m a)=>iU (b.1 _ (e.step o));have b3:=λa(o:Fr j m a)=>iT (b.1 _ (e.step o));have b4:=λa(o:Fr j m a)=>xW (b.1 _ (e.step o));have b5:=λa(o:Fr j m a)=>BY (b.1 _ (e.step o));have b6:=λa(o:Fr j m a)=>Bl (b.1 _ (e.step o));have b7:=λa(o:Fr j m a)=>Ep (b.1 _ (e.step o));have b8:=λa(o:Fr j m a)=>Tg (b.1 _ (e.step o));clear G K;go_upto_region 3 with fail;refine gQ [6] [0,1,2,3,4,5,6] (λix=>[(c,66)]) ([(c,66)]) [[],[0],[],[],[],[0,1,2,3,4],[0,1,2,3,4,5],[]] [.eq 0 (.agg #[V]),.w1 1 (λo a=>∃m A u,o=.agg #[.slice m A u]/\eJ a (.agg #[.slice m A u]) d),.eq 2 (I f),.eq 3 (.agg #[I l,I g,I h,I i,I k,I s0,I s1,I s2,I s3]),.eq 4 (.agg #[I 1,.bool δ,aV,aV]),.w1 5 (λo a=>∃m A u,o=.agg (nst (.slice m A u) f l g h i k s0 s1 s2 s3)/\eJ a (.agg #[.slice m A u]) d),.w1 5 (λo a=>∃m A u,aY a c (nst (.slice m A u) f l g h i k s0 s1 s2 s3) 66/\eJ a (.agg #[.slice m A u]) d),.eq 7 aI] [[0],[1],[2],[3],[4],[5],[5],[7]] kR kR kR Y (λ_ _ _ _ u m=>⟨u.symm.trans m.1,m.2⟩) sI ?hstab ?hstabM (λm=> ?_)
  case hstab=>refine⟨?_,?_,?_,?_,?_,?_,?_,?_,trivial⟩<;>first|exact Lu|exact λ_ _ _ ⟨m,P,u,A,C⟩ B=>⟨m,P,u,A,eJ.fr C B⟩|exact λ_ _ _ ⟨u,P,A,B,C⟩ m=>⟨u,P,A,m.hs B,eJ.fr C m⟩
  case hstabM=>
   intro m A;simp only[rB] at A;subst A;all_goals(refine⟨?_,?_,?_,?_,?_,?_,?_,?_,trivial⟩<;>first|exact wZ|exact λ_ _ _ _ _ ⟨m,a0,u,A,B⟩ C=>⟨m,a0,u,A,eJ.aJ B C.1 (λu m P a4 ⟨A,a5,a6⟩=>by obtain⟨rfl,rfl⟩:=Prod.mk.inj (cX.1 a5);exact a4.ne a6 (λU=>by subst U;unfold hsT at P;revert P;decide) Y)⟩)
  refine⟨?_,?_,?_,?_,?_,?_,?_,?_,?_⟩;all_goals first|exact Ca|skip
  .refine IG ?_
   intro a m u P;go_simp;go_at_call 45;refine(yg d _ a (y.fr (n.step (e.step m))) (Q r.1.symm) (R r.1.symm)).mono ?_;rintro B u ⟨m,rfl,⟨s9,rfl,U⟩,A⟩;obtain⟨a5,a6,rfl,-,-,a4⟩:=U.oH Y;exact P _ _ A ⟨_,_,_,Y,_,Y,a4⟩
  .refine IG ?_
   intro a u m P;go_simp;go_at_call 46;refine(Fj a).mono ?_;rintro u m ⟨rfl,A⟩;exact P _ _ A Y
  .refine VN 1 ?_
   intro a C B m u;obtain⟨B,P,C,u,A⟩:=u;simp only[u] at m;go_simp;exact m _ _ rF ⟨_,_,_,Y,A⟩
  .intro a B u m P
   have m:=u 5 J;simp only[rX,ξ] at B m u P |-;obtain⟨m,C,u,a6,a7⟩:=m;have A:=B.hs (w.1 _ e);rw[aS (by first|rfl|go_simp)];refine uA 66 (.tmp 6) (.tmp 30) fX (b:=c) fX a6 A Y HI.1 oC ?_;intro B u m;exact P undef _ (TQ.one sI A m u Y) ⟨_,_,_,u,a7.aJ m (λu m U a8 a4=>by subst a4;exact a8.ne ⟨_,_,A⟩ (λa5=>by subst a5;unfold hsT at U;revert U;decide) Y)⟩
  refine re2 6 7 ?_;intro a m u A;obtain⟨B,U,C,u,P⟩:=u;rw[A];have e:=(n.step e);have e:=TQ.keep e m (sU v);clear m a9 b0 b1 b2 b3 b4 b5 b6 b7 b8;go_wp2;exact aO (bZ Y _ _ _ c 66 _ (0,0) _ Y u Y underlying66 HI.1) Y ⟨e,.inr ⟨⟨_,Y,P⟩,r.1.symm,X.1,D.1.symm⟩⟩
 cases a2 with
 |true=>
  go_wp2_with (refine aU Y 66 (.tmp 6) (.tmp 24) Y Y Y (w.1 _ p) Y HI.1 x.1 ?_;intro e t s);exact aO (bZ Y _ _ _ c 66 _ (0,0) _ Y t Y underlying66 HI.1) Y ⟨(n.step (p)).keep s (λm e=>e▸v),.inl ⟨Y,λu=>by have e:=z.1;have m:=HL2.1;have:=u.2.1;simp at e m;omega⟩⟩
 |false=>
  have P:N (f=0\/f=1):=Z (by have e:=z.1;have e:=HL2.1;right;simpa using e);obtain⟨e,m,u,z,A,B,C,D,U,-⟩:=Vx (b.1 _ p);go_wp2_with fail;clear e m u z A B C D U;refine sg (jF l g h i k s0 s1 s2 s3 W) ?_;rintro u m ⟨rfl,A⟩;have e:=(p.step A);clear A;obtain⟨U,p⟩:=M (vq l g h i k s0 s1 s2 s3);rw[<-p];have D:=Z p;clear p;cases U
  .go_wp2_with (refine aU Y 66 (.tmp 6) (.tmp 24) Y Y Y (w.1 _ e) Y HI.1 x.1 ?_;intro p t s)
   exact aO (bZ Y _ _ _ c 66 _ (0,0) _ Y t Y underlying66 HI.1) Y ⟨(n.step (e)).keep s (λs p=>p▸v),.inl ⟨Y,λp=>by have:=p.2.2;rw[<-D.1] at this;cases this⟩⟩
  have a7:=λa(p:Fr j m a)=>bx (F.1 _ (e.step p));have a8:=λa(p:Fr j m a)=>bx (b.1 _ (e.step p));have a9:=λa(p:Fr j m a)=>dh (b.1 _ (e.step p));have b0:=λa(p:Fr j m a)=>iU (b.1 _ (e.step p));have b1:=λa(p:Fr j m a)=>iT (b.1 _ (e.step p));have b2:=λa(p:Fr j m a)=>xW (b.1 _ (e.step p));have b3:=λa(p:Fr j m a)=>BY (b.1 _ (e.step p));have b4:=λa(p:Fr j m a)=>Bl (b.1 _ (e.step p));have b5:=λa(p:Fr j m a)=>Ep (b.1 _ (e.step p));have b6:=λa(p:Fr j m a)=>Tg (b.1 _ (e.step p));clear G K;go_upto_region 3 with fail;refine gQ [6] [0,1,2,3,4,5,6] (λix=>[(c,66)]) ([(c,66)]) [[],[0],[],[],[],[0,1,2,3,4],[0,1,2,3,4,5],[]] [.eq 0 (.agg #[V]),.w1 1 (λo a=>∃b p m,o=.agg #[.slice b p m]/\eJ a (.agg #[.slice b p m]) d),.eq 2 (I f),.eq 3 (.agg #[I l,I g,I h,I i,I k,I s0,I s1,I s2,I s3]),.eq 4 (.agg #[I 1,.bool δ,aV,aV]),.w1 5 (λo a=>∃b p m,o=.agg (nst (.slice b p m) f l g h i k s0 s1 s2 s3)/\eJ a (.agg #[.slice b p m]) d),.w1 5 (λo a=>∃b o m,aY a c (nst (.slice b o m) f l g h i k s0 s1 s2 s3) 66/\eJ a (.agg #[.slice b o m]) d),.eq 7 aI] [[0],[1],[2],[3],[4],[5],[5],[7]] kR kR kR Y (λ_ _ _ _ f b=>⟨f.symm.trans b.1,b.2⟩) sI ?hstab ?hstabM (λb=> ?_)
  case hstab=>refine⟨?_,?_,?_,?_,?_,?_,?_,?_,trivial⟩<;>first|exact Lu|exact λ_ _ _ ⟨b,k,f,g,i⟩ h=>⟨b,k,f,g,eJ.fr i h⟩|exact λ_ _ _ ⟨f,k,g,h,i⟩ b=>⟨f,k,g,b.hs h,eJ.fr i b⟩
  case hstabM=>
   intro b A;simp only[rB] at A;subst A;all_goals(refine⟨?_,?_,?_,?_,?_,?_,?_,?_,trivial⟩<;>first|exact wZ|exact λ_ _ _ _ _ ⟨b,k,f,g,h⟩ i=>⟨b,k,f,g,eJ.aJ h i.1 (λf b G X ⟨g,a3,a4⟩=>by obtain⟨rfl,rfl⟩:=Prod.mk.inj (cX.1 a3);exact X.ne a4 (λK=>by subst K;unfold hsT at G;revert G;decide) Y)⟩)
  refine⟨?_,?_,?_,?_,?_,?_,?_,?_,?_⟩;all_goals first|exact Ca|skip
  .refine IG ?_
   intro a b f G;go_simp;go_at_call 45;refine(yg d _ a (y.fr (n.step (e.step b))) (Q r.1.symm) (R r.1.symm)).mono ?_;rintro f d ⟨b,rfl,⟨s9,rfl,K⟩,A⟩;obtain⟨a3,a4,rfl,-,-,X⟩:=K.oH Y;exact G _ _ A ⟨_,_,_,Y,_,Y,X⟩
  .refine IG ?_
   intro a d b G;go_simp;go_at_call 46;refine(Fj a).mono ?_;rintro d b ⟨rfl,A⟩;exact G _ _ A Y
  .refine VN 1 ?_
   intro a g f b d;obtain⟨f,h,g,d,A⟩:=d;simp only[d] at b;go_simp;exact b _ _ rF ⟨_,_,_,Y,A⟩
  .intro a f d b G
   have b:=d 5 J;simp only[rX,ξ] at f b d G |-;obtain⟨b,g,d,a4,a5⟩:=b;have A:=f.hs (w.1 _ e);rw[aS (by first|rfl|go_simp)];refine uA 66 (.tmp 6) (.tmp 30) fX (b:=c) fX a4 A Y HI.1 oC ?_;intro f d b;exact G undef _ (TQ.one sI A b d Y) ⟨_,_,_,d,a5.aJ b (λd b K a6 X=>by subst X;exact a6.ne ⟨_,_,A⟩ (λa3=>by subst a3;unfold hsT at K;revert K;decide) Y)⟩
  refine re2 6 7 ?_;intro a b d f;obtain⟨a,h,g,d,A⟩:=d;rw[f];have a:=(n.step e);have a:=TQ.keep a b (sU v);clear b a7 a8 a9 b0 b1 b2 b3 b4 b5 b6;go_wp2;exact aO (bZ Y _ _ _ c 66 _ (0,0) _ Y d Y underlying66 HI.1) Y ⟨a,.inr ⟨⟨_,Y,A⟩,r.1.symm,P.1,D.1.symm⟩⟩
structure iS where
 (ah af ap al am ao at_:ι Addr)
 (hN ch fn cf pn cp ln cl mn cm on co tn ct:E)
 (eY sd si wd l e0 e1 e2 e3 s0 s1 s2 s3 pk sa vu:T)
 (g0 g1 g2 g3 cut:κ)
abbrev ei(a:iS):θ ζ:=#[.slice a.ah a.hN a.ch,.int .i64 a.eY,.slice a.af a.fn a.cf,.bool a.g0,.bool a.g1,.bool a.g2,.bool a.g3,.int .i64 a.sd,.int .i64 a.si,.int .i64 a.wd,.bool a.cut,.slice a.ap a.pn a.cp,.slice a.al a.ln a.cl,.slice a.am a.mn a.cm,.int .i64 a.l,.int .i64 a.e0,.int .i64 a.e1,.int .i64 a.e2,.int .i64 a.e3,.int .i64 a.s0,.int .i64 a.s1,.int .i64 a.s2,.int .i64 a.s3,.int .i64 a.pk,.int .i64 a.sa,.int .i64 a.vu,.slice a.ao a.on a.co,.slice a.at_ a.tn a.ct]
theorem kj(a:iS):(ei a).all (·.oneCell')=γ:=by simp[ζ.oneCell']
variable{x3 x4:iS}
theorem Hp{f:Fc}(c:aY W m #[I f.c.k,I f.c.a,I f.c.b,I f.kind,I f.i,I f.j,.slice A q n1] 276)(e:Sl 3 1 CI W (.slice A q n1) f.cy):Sl 276 7 CF W (.slice (S (H m 0)) 1 1) [f]:=
 (cC.lit (B:=0) (n:=7) (C:=CF) (m:=1) (xs:=[f]) (L:=[[I f.c.k,I f.c.a,I f.c.b,I f.kind,I f.i,I f.j,.slice A q n1]]) c nG Y J Y Y (λc g h b a=>by
  have d:c=0:=by have:=(cj.1 a).1;simpa using this
  subst d;simp at b a;subst b a;exact⟨Y,_,Y,e⟩)).read
theorem Ij{c:Hs}{a:Fc}(d:a.cy.length<=CY):oD c i1 m ⟨0,[],[],[a]⟩:=⟨qJ,sI,sI,(λa b=>by cases b),sI,(λa b=>by simp at b;subst b;exact d)⟩
theorem aau{w:ε}{B:E}{p:Ch}{a b:ι Addr}
  (f:aY w B #[I p.k,I p.a,I p.b,aV,aI,aI,aI,.slice a m q,aI,aI,aI,.slice b n1 n2] 146)
  (g:Sl 3 1 CI w (.slice a m q) e)(h:Sl 3 1 CI w (.slice b n1 n2) p1):Sl 146 4 NC w (.slice (S (H B 0)) 3 3) [⟨p,[]⟩,⟨⟨0,0,0⟩,e⟩,⟨⟨0,0,0⟩,p1⟩]:=
 (cC.lit (B:=0) (n:=4) (C:=NC) (m:=3) (xs:=[⟨p,[]⟩,⟨⟨0,0,0⟩,e⟩,⟨⟨0,0,0⟩,p1⟩]) (L:=[[I p.k,I p.a,I p.b,aV],[aI,aI,aI,.slice a m q],[aI,aI,aI,.slice b n1 n2]]) f nG Y J Y Y (λf i k a b=>by
  match f,a,b with
  |0,c,d=>simp at c d;subst c d;exact⟨Y,NC.nil p w⟩
  |1,c,d=>simp at c d;subst c d;exact⟨Y,_,Y,g⟩
  |2,c,d=>simp at c d;subst c d;exact⟨Y,_,Y,h⟩
  |c+3,a,b=>simp at a)).read
theorem YJ(d:Hs)(g:T)(f:List Fc)(G:Ch)(c7 c8:ζ)(i:ε)(a1:Gl i)(c0:eJ i c7 d)(c1:Sl 276 7 CF i c8 f)(l:f.length<20000)(h:iu d g f=γ)(m:dA d G=γ):
  aQ 218 #[c7,I g,c8,iP G] i λc a=>∃b e,c=.returned b/\jm d g (3+2*f.length) a b e/\Fr j i a:=by
 have R:=c0;have HL:=c1;have⟨RP,RR⟩:=bD h (dO h);have A:=l;have a4:=Z m;have p:d.length<=64:=(oB (bK RR.1.1));obtain⟨c6,rfl,-⟩:=c0;have k:(prog.info? 288).map (·.size)=S 4:=kR;have HI:=Z k;obtain⟨e5,e6,e8,e7,rfl,-,-,-⟩:=c1;obtain⟨F,e⟩:=M f.length;rw[<-e] at HL |-;have HLN:=Z e;have c0:F<20000:=O;obtain⟨c,a,b⟩:=G;unfold iP;simp only;clear l h k e m
 delta aQ;go_in
 go_upto_region 2 with fail;refine cT (λG e=> ?_);obtain⟨o,k⟩:=M i.heap.size;obtain⟨x,n⟩:=M (o+1);obtain⟨c0,r⟩:=M (o+2);obtain⟨h,s⟩:=M (o+3);obtain⟨c1,t⟩:=M (o+4);rw[show i.heap.size+4=c1 by omega,show i.heap.size+3=h by omega,show i.heap.size+2=c0 by omega,show i.heap.size+1=x by omega,<-k];have m:=fb5 e;have U:=qa4 e k;have V:N (∀l,Fr j G l->aY l x #[I g] 3):=Fr.all (by rw[e];exact aC (aC (aC (bM sO) _) _) _);have u:N (∀l,Fr j G l->aY l c0 #[I c,I a,I b] 144):=Fr.all (by rw[e];exact aC (aC (bM sO) _) _);have C:N (∀l,Fr j G l->aY l h #[aI,aV,aV,aV] 288):=Fr.all (by rw[e];exact aC (bM sO) _);have D:N (∀l,Fr j G l->aY l c1 #[I c,I b,I a] 144):=Fr.all (by rw[e];exact bM sO);have B:i.heap.size<=h:=O;clear e k n r s t;obtain⟨n,r,s,-⟩:=mD (u.1 _ rF);obtain⟨t,v,w,-⟩:=mD (D.1 _ rF);go_upto_region 3 with fail;refine cT (λc9 k=> ?_);have d1:=cY k;have d8:Sl 144 3 CC c9 (.slice (S (H G.heap.size 0)) 2 2) [⟨c,a,b⟩,⟨c,b,a⟩]:=(cC.lit (B:=0) (n:=3) (C:=CC) (m:=2) (xs:=[(⟨c,a,b⟩:Ch),⟨c,b,a⟩]) (L:=[eM ⟨c,a,b⟩,eM ⟨c,b,a⟩]) (by rw[k];exact bM Y) nG Y J Y Y (λz G K i y=>by
  match z,i,y with
  |0,e,l=>simp at e l;subst e l;exact⟨Y,Y⟩
  |1,e,l=>simp at e l;subst e l;exact⟨Y,Y⟩
  |l+2,e,i=>simp at e)).read
 obtain⟨i,a5,a7,G,e,-,-,b3⟩:=d8;simp only[bW,fq,de,E.reduceAdd] at e;rw[e];clear k n r s t v w e;go_wp2_with fail;go_loopg [31] 2 (λgk s31 wr=>∃e,e+gk=2/\s31=I e/\Fr j c9 wr)
 .exact⟨0,du,Y,rF⟩
 case round=>
  obtain⟨n,e,rfl,a0⟩:=hrel;have HJ:=Z e;have z:=(d1.step a0);have i:n<=2:=O;clear e;by_cases i:n<2
  .obtain⟨k,l⟩:∃e,[(⟨c,a,b⟩:Ch),⟨c,b,a⟩][n]? =S e:=⟨_,cF (sU i)⟩
   obtain rfl:=b3.addr l;have e:=Sl.pl (b3.f a0) l;have i:wr.cell? (H a5 (a7+n*3))=S (I k.k):=e 0 _ Y;have s:wr.cell? (H a5 (a7+n*3+1))=S (I k.a):=e 1 _ Y;have t:wr.cell? (H a5 (a7+n*3+2))=S (I k.b):=e 2 _ Y;have v:=λr=>bx (U.1 _ (z.alloc r));have w:=λr=>bx (V.1 _ (z.alloc r));have G:(0:T)<=(n:T):=jD;have G:(n:T)<(2:T):=O;clear e l;obtain⟨a5,k,G⟩:=k;simp only at i s t;go_wp2_with fail;refine aZ.nm (λX r=> ?_);have⟨e,a2⟩:=bD (z.step (cY r)) (a0.step (cY r));clear r v w i s t;refine sg (Dn d g f ⟨a5,k,G⟩ _ _ X (R.fr (m.step e.1)) (HL.f (m.step e.1)) (by have:=A;unfold fV;omega)) ?_;rintro i a9 ⟨a8,a6,t,rfl,l⟩;have W:=(e.1.step l);have a3:=(a2.1.step l);obtain⟨⟨P,v,w⟩,Q,y,K,e⟩:=a8;simp only at t;subst t;unfold Qd;simp only;clear l;cases a6 with
   |true=>
    go_upto_region 7 with fail;refine cT (λG i=> ?_);have t:=cY i;have k:=(dL (q:=a9.heap.size) i Y).1;have l:=(W.step t);obtain⟨e,W,a0,a2,a5,a6,a7,-⟩:=pc7 k;have e:∀e,(G.alloc e).heap[h]? =S (.cells #[aI,aV,aV,aV] 288 (0,0)):=λe=>C.1 _ (l.alloc e);have W:=λs=>bx (e s);have W:=λs=>dh (e s);have W:=λs=>iU (e s);have W:=λs=>iT (e s);have W:=λW s=>aG (e W) s;have s:=Z e;clear e;clear i t k;go_wp2;refine aO (bO Y _ _ _ h 288 _ (0,0) _ Y (bP (s.1 _) aI aV aV (.slice (S (H G.heap.size 0)) 1 1)) Y underlying288 tZ) Y ⟨_,⟨0,[],[],[⟨⟨P,v,w⟩,Q,y,K,[]⟩]⟩,Y,⟨_,_,_,Y,Ij sI,dJ,dJ,Sl.past (Hp (f:=⟨⟨P,v,w⟩,Q,y,K,[]⟩) (bM Y) dJ) CF.aJ (bC _ _ _ _ _ _) (s.1 _) J qB⟩,(m.step (l.alloc _)).keep (bC _ _ _ _ _ _) (λi e=>e▸B)⟩
   |false=>
    go_wp2;go_roundg (gk-1)
    .exact⟨n+1,oB HJ.1,by go_num,a3.alloc _⟩
    have:=HJ.1;omega
  go_wp2_with fail;refine sg (eQ f _ wr (HL.f (m.step z)) (by have:=A;unfold fV;omega)) ?_;rintro n e4 ⟨v7,i,rfl,e,k⟩;have d2:=(z.step k);have Q:=e.read;obtain⟨b8,b9,rfl,c4,c5⟩:=e.shape (m:=F) (by rw[HLN.1];simp[fe]);clear e k;go_upto_region 11 with fail;refine cT (λy P=> ?_);obtain⟨W,K⟩:=M e4.heap.size;rw[<-K];have k:=cY P;have e:=(d2.step k);have b5:=yY P K;have b6:=(Q.f k);have a9:N (∀i,dA d i=γ->dw d (fe f++[i])=γ):=Z (λi l=>by
   have i:=ry RP.1 (oB A);simp only[dw,bA,fY,cS] at i |-;refine⟨⟨i.1.1,by have:=A;simp[fe];omega⟩,λn w=> ?_⟩;rcases cB.1 w with w|w
   .exact i.2 n w
   simp at w;subst w;exact l)
  obtain⟨s,i⟩:=M (cU (dF d.length (cP d g (fe f++[⟨c,b,a⟩]))));obtain⟨t,n⟩:=M (cU (dF d.length (cP d g (fe f++[⟨c,a,b⟩]))));obtain⟨v,w⟩:=M s.length;obtain⟨l,z⟩:=M t.length;have⟨a2,a3,b2,b4⟩:=gB i n w z;have c2:=λG(a0:Fr j y G)=>bx (u.1 _ (e.step a0));have c3:=λG(a0:Fr j y G)=>dh (u.1 _ (e.step a0));have d0:=λG(a0:Fr j y G)=>iU (u.1 _ (e.step a0));have d3:=λG(a0:Fr j y G)=>bx (D.1 _ (e.step a0));have d4:=λG(a0:Fr j y G)=>dh (D.1 _ (e.step a0));have d5:=λG(a0:Fr j y G)=>iU (D.1 _ (e.step a0));clear P K k i n w z Q;refine eU [[],[],[0,1],[],[],[3,4],[0,1,2],[3,4,5]] [.eq 0 (.func (.func 278) #[] #[aP o 0,aP x 0,aP W 0]),.eq 1 (.agg #[I c,I b,I a]),.sl iA 2 3 1 v (s),.eq 3 (.func (.func 278) #[] #[aP o 0,aP x 0,aP W 0]),.eq 4 (.agg #[I c,I a,I b]),.sl iA 5 3 1 l (t),.sl iA 6 3 1 v (s),.sl iA 7 3 1 l (t)] [[0],[1],[2],[3],[4],[5],[6],[7]] kR kR Y (λ_ _ _ _ k i=>⟨k.symm.trans i.1,i.2⟩) (λi=> ?_);refine⟨?_,?_,?_,?_,?_,?_,?_,?_,?_⟩;any_goals(first|(intro w y k n i;simp only[rY,ξ,SW.eq,SW.lit,SW.sl,SW.no,bG.eq,di,dg] at k i |-;(try simp only[k] at i);go_simp;exact i _ _ rF Y)|fail)
  .refine IG ?_
   intro n i w P;go_simp;go_at_call 278;refine(zW d g (fe f) ⟨c,b,a⟩ c6 b8 F b9 o x W n (a1.fr (m.step (e.step i))) (R.fr (m.step (e.step i))) (b6.f i) (by rw[HLN.1];simp[fe]) O c4 c5 (U.1 _ (e.step i)) (V.1 _ (e.step i)) (b5.1 _ i) (a9.1 _ (sP a4.1)) RR.1.2 p).mono ?_;rintro n i ⟨w,rfl,k,K⟩;rw[<-a2.1] at k;obtain⟨a6,a8,rfl,Q⟩:=k.oH b2.1;exact P _ _ K ⟨_,_,Y,Q⟩
  .refine IG ?_
   intro n i w P;go_simp;go_at_call 278;refine(zW d g (fe f) ⟨c,a,b⟩ c6 b8 F b9 o x W n (a1.fr (m.step (e.step i))) (R.fr (m.step (e.step i))) (b6.f i) (by rw[HLN.1];simp[fe]) O c4 c5 (U.1 _ (e.step i)) (V.1 _ (e.step i)) (b5.1 _ i) (a9.1 _ a4.1) RR.1.2 p).mono ?_;rintro n i ⟨o,rfl,k,K⟩;rw[<-a3.1] at k;obtain⟨a6,a8,rfl,Q⟩:=k.oH b4.1;exact P _ _ K ⟨_,_,Y,Q⟩
  .refine VN 2 ?_
   intro o w n i k;obtain⟨n,o,k,K⟩:=k;simp only[k] at i;go_simp;exact i _ _ rF ⟨_,_,Y,K⟩
  .refine VN 5 ?_
   intro o w n i k;obtain⟨n,o,k,K⟩:=k;simp only[k] at i;go_simp;exact i _ _ rF ⟨_,_,Y,K⟩
  refine re2 6 7 ?_;intro i a8 n o;obtain⟨n,w,P,x,y,b7⟩:=n;obtain⟨n,o,a6,w,x,SB⟩:=o;rw[P,a6];have k:=(e.step a8);have Q:=(m.step k);obtain⟨K,e2⟩:=M i;subst e2;have b0:s.length<=CY:=(by rw[a2.1];simp only[cU,eo];exact jv p);have b1:t.length<=CY:=(by rw[a3.1];simp only[cU,eo];exact jv p);clear a8 P a6 c2 c3 d0 d3 d4 d5;by_cases P:v=0
  .subst P
   by_cases a6:l=0
   .subst a6
    have e:=C.1 _ k;obtain⟨i,m,n,o,w⟩:=gZ (e);have i:=Z e;clear e;go_wp2;exact aO (bO Y _ _ _ h 288 _ (0,0) _ Y (bP i.1 aI aV aV aV) Y underlying288 tZ) Y ⟨_,⟨0,[],[],[]⟩,Y,⟨_,_,_,Y,(jV qJ),dJ,dJ,dJ⟩,Q.keep (bC _ _ _ _ _ _) (λi e=>e▸B)⟩
   have e:decide ((l:T)>0)=γ:=sO;have e:decide (0<(l:T))=γ:=sO;have e:decide (0<l)=γ:=sO;clear a6;obtain⟨e,i,m,-⟩:=mD (D.1 _ k);have e:∀e,(K.alloc e).heap[h]? =S (.cells #[aI,aV,aV,aV] 288 (0,0)):=λe=>C.1 _ (k.alloc e);have i:=λi=>bx (e i);have i:=λi=>dh (e i);have i:=λi=>iU (e i);have i:=λi=>iT (e i);have i:=λm i=>aG (e m) i;have a6:=Z e;clear e;go_wp2;exact aO (bO Y _ _ _ h 288 _ (0,0) _ Y (bP (a6.1 _) aI aV aV (.slice (S (H K.heap.size 0)) 1 1)) Y underlying288 tZ) Y ⟨_,⟨0,[],[],[⟨⟨c,b,a⟩,4,0,0,t⟩]⟩,Y,⟨_,_,_,Y,(Ij b1),dJ,dJ,(Sl.past (Hp (f:=⟨⟨c,b,a⟩,4,0,0,t⟩) (bM Y) (SB.f cZ)) CF.aJ (bC _ _ _ _ _ _) (a6.1 _) J qB)⟩,(Q.alloc _).keep (bC _ _ _ _ _ _) (λi e=>e▸B)⟩
  have e:decide ((v:T)>0)=γ:=sO;have e:decide (0<(v:T))=γ:=sO;have e:decide (0<v)=γ:=sO;by_cases a6:l=0
  .subst a6
   clear P;obtain⟨e,i,m,-⟩:=mD (u.1 _ k);have e:∀e,(K.alloc e).heap[h]? =S (.cells #[aI,aV,aV,aV] 288 (0,0)):=λe=>C.1 _ (k.alloc e);have i:=λi=>bx (e i);have i:=λi=>dh (e i);have i:=λi=>iU (e i);have i:=λi=>iT (e i);have i:=λm i=>aG (e m) i;have a8:=Z e;clear e;go_wp2;exact aO (bO Y _ _ _ h 288 _ (0,0) _ Y (bP (a8.1 _) aI aV aV (.slice (S (H K.heap.size 0)) 1 1)) Y underlying288 tZ) Y ⟨_,⟨0,[],[],[⟨⟨c,a,b⟩,4,0,0,s⟩]⟩,Y,⟨_,_,_,Y,(Ij b0),dJ,dJ,(Sl.past (Hp (f:=⟨⟨c,a,b⟩,4,0,0,s⟩) (bM Y) (b7.f cZ)) CF.aJ (bC _ _ _ _ _ _) (a8.1 _) J qB)⟩,(Q.alloc _).keep (bC _ _ _ _ _ _) (λi e=>e▸B)⟩
  have e:decide ((l:T)>0)=γ:=sO;have e:decide (0<(l:T))=γ:=sO;have e:decide (0<l)=γ:=sO;have d7:il d g 2:=⟨J,J,(λa8=>by cases a8),λ_=>Xv RP.1 a4.1 (λe=>a6 (by rw[b4.1,a3.1,(kL p).2 e];rfl)) (λe=>P (by rw[b2.1,a2.1];show(cU (dF d.length (cP d g (fe f++[(⟨c,a,b⟩:Ch).back])))).length=0;rw[(kL p).2 e];rfl)) (vY RP.1)⟩;clear P a6;obtain⟨i,l,m,-⟩:=mD (u.1 _ k);have n:=bx (U.1 _ k);have o:=bx (V.1 _ k);go_wp2_with fail;refine aZ.nm (λX r=> ?_);have e:=cY r;have P:=(Q.step e);have a:=(aau (w:=X) (B:=K.heap.size) (p:=⟨c,a,b⟩) (by rw[r];exact bM Y) (SB.f e) (b7.f e));have d3:=Z (k.step e);clear r e i l m n o;refine sg (tN d g f _ _ _ _ X (a1.fr P) (R.fr P) (HL.f P) a (by unfold fV;simp) ?hcy p) ?_
  case hcy=>
   intro b a;simp only[rB] at a;rcases a with rfl|rfl|rfl
   .simp
   .exact b1
   exact b0
  rintro b d ⟨⟨c,a,a8,rfl,c3,hcy,a6⟩,r⟩;rw[aS ⟨A,RP.1⟩] at a6;have d6:a8.length<=3+2*F:=(by rw[a6,HLN.1];simp);have d0:=(P.step r);have d4:=(d3.1.step r);have d5:=Z hcy;obtain⟨e3,c2⟩:=M a8.length;obtain⟨e0,e1,rfl,-,-,d9⟩:=c3.oH c2;clear r hcy a6 c2 c3;have a:=C.1 _ d4;obtain⟨b,c,d,e,f⟩:=gZ (a);have r:=Z a;clear a;go_wp2;exact aO (bO Y _ _ _ h 288 _ (0,0) _ Y (bP r.1 (I 2) aV (.slice e0 e3 e1) aV) Y underlying288 tZ) Y ⟨_,⟨2,[],a8,[]⟩,Y,⟨_,_,_,Y,(IA d7 d6 d5.1),dJ,(Sl.past d9 NC.aJ (bC _ _ _ _ _ _) r.1 J qB),dJ⟩,d0.keep (bC _ _ _ _ _ _) (λb a=>a▸B)⟩
def Gn(a:Hs)(b c:T):κ:=bm a&&(decide (0<=c)&&decide (c<=((cQ a).length:T))&&(decide (0<=b)&&decide (b<max ((cQ a).length:T) 1)))
theorem Ce(a:Hs)(b c:T)(s:ζ)(m:ε)(e:eJ m s a):
  dr 122 #[s,.agg #[I b,I c]] m (.bool (Gn a b c)):=by
 have o:=e;obtain⟨u,rfl,-⟩:=e;obtain⟨e,d⟩:=M ((cQ a).length);have s:N (Gn a b c=(bm a&&(decide (0<=c)&&decide (c<=(e:T))&&(decide (0<=b)&&decide (b<max (e:T) 1))))):=Z (by rw[d];rfl);have HKN:=Z d;clear d;obtain⟨f,d⟩:=M (decide (0<=c));obtain⟨g,k⟩:=M (decide (c<=(e:T)));obtain⟨h,l⟩:=M (decide (0<=b));obtain⟨i,e⟩:=M (decide (b<max (e:T) 1));have RS:N (Gn a b c=(bm a&&(f&&g&&(h&&i)))):=Z (by rw[s.1,d,k,l,e]);have s:=d.symm;have s:=k.symm;have s:=l.symm;have s:=e.symm;clear d k l e
 delta dr aQ;go_in
 go_wp2_with fail;refine aZ.nm (λs d=> ?_);obtain⟨m,e⟩:=M m.heap.size;obtain⟨u,m⟩:=M (m+1);rw[<-e,<-m];have l:=lq d;have k:=uV d e;have p:N (aY s u #[I b,I c] 58):=Z (by rw[d];exact bM sO);clear d e m;refine sg (mR a _ s (o.fr l)) ?_;rintro m v ⟨e,rfl,r,d⟩;obtain⟨w,x,rfl,-,-⟩:=r.slice;rw[<-HKN.1];have n:=(l.step d);have⟨e,t⟩:=bD (d.hs k.1) (d.hs p.1);have e:=bx e.1;clear d r k p;go_wp2_with fail;clear e;refine sg (dV a _ v (o.fr n)) ?_;rintro d e ⟨rfl,k⟩;have p:=(n.step k);have d:=k.hs t.1;have e:=bx d;have e:=dh d;clear k d;generalize d:bm a=k;have r:N (Gn a b c=(k&&(f&&g&&(h&&i)))):=Z (by rw[RS.1,d]);clear d;cases k<;>cases f<;>cases g<;>cases h<;>cases i<;>(go_wp2;go_ret;exact aM (by rw[r.1];rfl) p)
theorem jm.fr{c:Hs}{w b:ε}{d:rK}(e:jm c i1 m w x d)(a:Fr j w b):jm c i1 m b x d:=by
 obtain⟨h,i,g,b,f,c,d,e⟩:=e;exact⟨h,i,g,b,f,c.f a,d.f a,e.f a⟩
theorem jm.mono{a:Hs}{b:rK}(c:jm a i1 m W x b)(e:m<=q):jm a i1 q W x b:=by
 obtain⟨h,i,g,a,f,b,c,d⟩:=c;exact⟨h,i,g,a,f.mono e,b,c,d⟩
theorem jm.tq{e:Hs}{f:rK}{d:L (E×TypeId)}(g:jm e i1 m W x f)(b:TQ d W V)(a:∀c∈d,c.2≠3/\c.2≠146/\c.2≠276):jm e i1 m V x f:=by
 obtain⟨i,k,h,c,g,d,e,f⟩:=g;exact⟨i,k,h,c,g,b.sl d iA (λg d=>⟨λc=>(a g d).1 c.symm,λc=>c⟩),b.sl e NC.aJ (λd c=>⟨λe=>(a d c).2.1 e.symm,λe=>(a d c).1 e⟩),b.sl f CF.aJ (λc b=>⟨λd=>(a c b).2.2 d.symm,λd=>(a c b).1 d⟩)⟩
theorem jm.open_{c:Hs}{a:rK}(i:jm c i1 m W x a):∃c l e d k f g b h,x=.agg #[I a.said,.slice c l e,.slice d k f,.slice g b h]/\b=a.fs.length:=by
 obtain⟨i,p,c,b,a,d,e,f⟩:=i;obtain⟨h,l,rfl,-⟩:=d.oH Y;obtain⟨k,n,rfl,-⟩:=e.oH Y;obtain⟨g,o,rfl,-⟩:=f.oH Y;exact⟨_,_,_,_,_,_,_,_,_,b,Y⟩
abbrev xP(a:ε)(q:E)(b c:ζ):ε:=(a.setCell ⟨q,0,η⟩ b).setCell ⟨q,1,η⟩ c
theorem fg{W:ε}{q:E}(c:aY W q #[x,v1] t)(a b:ζ):(xP W q a b).heap[q]? =S (.cells #[a,b] t (0,0)):=aD (aD c 0 a) 1 b
theorem eO(a:ε)(q:E)(b c:ζ):bT q a (xP a q b c):=(rF.aK _ _).aK _ _
theorem mU{h:Hs}{lev:T}{N:E}{o:rK}{a b t u e g k l:ζ}(c:V.heap[m]? =S (.cells #[t,u] 58 (0,0)))(d:V.heap[q]? =S (.cells #[e,g,k,l] 288 (0,0)))(n:Fr j W V)(r:W.heap.size<=m)(s:W.heap.size<=q)
  (p:jm h lev N V x o)(s0 s1 s2 s3:ζ):(gN (xP V m a b) q s0 s1 s2 s3).heap[m]? =S (.cells #[a,b] 58 (0,0))/\(gN (xP V m a b) q s0 s1 s2 s3).heap[q]? =S (.cells #[s0,s1,s2,s3] 288 (0,0))/\
   jm h lev N (gN (xP V m a b) q s0 s1 s2 s3) x o/\Fr j W (gN (xP V m a b) q s0 s1 s2 s3):=by
 have f:q≠m:=λi=>by subst i;rw[c] at d;simp at d
 have d:=(eO V m a b).aB d f;have e:=fg c a b;have g:TQ [(m,58)] V (xP V m a b):=TQ.one sI c (eO _ _ _ _) e Y;have c:TQ [(q,288)] (xP V m a b) (gN (xP V m a b) q s0 s1 s2 s3):=TQ.one sI d (bC _ _ _ _ _ _) (bP d s0 s1 s2 s3) Y;exact⟨c.obj e (sU f),bP d s0 s1 s2 s3,(p.tq g sI).tq c sI,TQ.keep (TQ.keep n g (sU r)) c (sU s)⟩
theorem Vc(i:Hs)(n:T)(l:L Fc)(h d:T)(d8 d9:ζ)(p:ε)(c:Gl p)(b3:eJ p d8 i)(d4:Sl 276 7 CF p d9 l)(f:l.length<=fV)(g:d<1000000000):
  aQ 176 #[d8,I n,.agg #[I h,I d],d9] p λm b=>∃k a e o,m=.returned (.tuple #[.agg #[I k,I a],e])/\jm i n (3+2*l.length) b e o/\a<1000000000/\Fr j p b:=by
 have⟨a5,HL,c7,c8,b4⟩:=va b3 d4 c f g;obtain⟨d7,rfl,-⟩:=b3;have b:(prog.info? 288).map (·.size)=S 4:=kR;have HI:=Z b;have e:(prog.info? 58).map (·.size)=S 2:=kR;have D:=Z e;obtain⟨e9,g9,h3,f0,rfl,-,-,-⟩:=d4;obtain⟨m,a⟩:=M l.length;rw[<-a] at HL |-;have HLN:=Z a;obtain⟨f8,k⟩:=M (Gn i h d);have d1:=Z k;clear c f b e a g k
 delta aQ;go_in
 go_upto_region 1 with fail;refine cT (λb3 o=> ?_);obtain⟨b2,g⟩:=M p.heap.size;obtain⟨f,k⟩:=M (b2+1);obtain⟨b,r⟩:=M (b2+2);obtain⟨c,s⟩:=M (b2+3);rw[show p.heap.size+3=c by omega,show p.heap.size+2=b by omega,show p.heap.size+1=f by omega,<-g];have v:=fa4 o;have a6:=qa3 o g;have w:N (∀a,Fr j b3 a->aY a f #[I h,I d] 58):=Fr.all (by rw[o];exact aC (aC (bM sO) _) _);have a7:N (∀a,Fr j b3 a->aY a b #[aI,aI] 58):=Fr.all (by rw[o];exact aC (bM sO) _);have a9:N (∀a,Fr j b3 a->aY a c #[aI,aV,aV,aV] 288):=Fr.all (by rw[o];exact bM sO);have e:N (p.heap.size<=b/\p.heap.size<=c/\p.heap.size<=f/\b2≠f/\f≠b/\f≠c/\b≠c/\c≠b/\b3.heap.size=c+1):=Z (by rw[o];simp;omega);clear o g k r s;have g:=bx (a6.1 _ rF);have k:=bx (w.1 _ rF);have r:=dh (w.1 _ rF);go_wp2_with fail;clear g k r;refine sg (Ce i h d _ b3 (a5.1.fr v.1)) ?_;rintro b3 c5 ⟨rfl,g⟩;rw[<-d1.1];have r:=Z g;clear g;cases f8 with
 |false=>
  have g:=w.1 _ r.1;have k:=a7.1 _ r.1;have s:=a9.1 _ r.1;have A:=bx g;have A:=dh g;obtain⟨A,B,G⟩:=oK k;have t:=(eO c5 b (I h) (I d)).aB s (oB e.1);obtain⟨A,B,G,K,P⟩:=gZ t;obtain⟨u,x,z,y⟩:=mU (a:=I h) (b:=I d) (h:=i) (lev:=n) (N:=3+2*m) (o:=⟨3,[],[],[]⟩) k s (v.1.step r.1) e.1.1 e.1.2.1 ⟨_,_,_,Y,jV sL,dJ,dJ,dJ⟩ (I 3) aV aV aV;have⟨A,B,F,C⟩:=gB u x z y;clear g k s t u x z y;go_wp2;exact aO (cO Y _ _ _ b c 58 288 _ _ (0,0) (0,0) _ _ Y A.1 Y underlying58 (by rw[D.1];rfl) Y B.1 Y underlying288 tZ) Y ⟨_,_,_,_,Y,F.1,b4.1,C.1⟩
 |true=>
 by_cases t:20000<=m
 .have B:decide ((m:T)≥20000)=γ:=sO
  have B:decide ((20000:T)<=(m:T))=γ:=sO;have B:decide (20000<=m)=γ:=sO;clear t;have g:=w.1 _ r.1;have k:=a7.1 _ r.1;have s:=a9.1 _ r.1;have B:=bx g;have B:=dh g;obtain⟨B,C,K⟩:=oK k;have u:=(eO c5 b (I h) (I d)).aB s (oB e.1);obtain⟨B,C,K,P,Q⟩:=gZ u;obtain⟨x,y,A,z⟩:=mU (a:=I h) (b:=I d) (h:=i) (lev:=n) (N:=3+2*m) (o:=⟨3,[],[],[]⟩) k s (v.1.step r.1) e.1.1 e.1.2.1 ⟨_,_,_,Y,jV sL,dJ,dJ,dJ⟩ (I 3) aV aV aV;have⟨B,C,G,F⟩:=gB x y A z;clear g k s u x y A z;go_wp2;exact aO (cO Y _ _ _ b c 58 288 _ _ (0,0) (0,0) _ _ Y B.1 Y underlying58 (by rw[D.1];rfl) Y C.1 Y underlying288 tZ) Y ⟨_,_,_,_,Y,G.1,b4.1,F.1⟩
 have b3:decide ((20000:T)<=(m:T))=δ:=sO;have b3:decide (20000<=m)=δ:=sO;have b3:m<20000:=O;clear t;have g:=bx (a6.1 _ r.1);go_wp2_with fail;clear g;refine sg (qU i n l _ _ c5 (a5.1.fr (v.1.step r.1)) (HL.1.f (v.1.step r.1)) c8.1) ?_;rintro b3 e0 ⟨rfl,g⟩;have X:=Z (r.1.step g);clear g;cases g:iu i n l with
 |false=>
  clear g;have k:=w.1 _ X.1;have s:=a7.1 _ X.1;have t:=a9.1 _ X.1;have r:=bx k;have r:=dh k;obtain⟨r,B,G⟩:=oK s;have u:=(eO e0 b (I h) (I d)).aB t (oB e.1);obtain⟨r,B,G,K,P⟩:=gZ u;obtain⟨x,y,A,z⟩:=mU (a:=I h) (b:=I d) (h:=i) (lev:=n) (N:=3+2*m) (o:=⟨3,[],[],[]⟩) s t (v.1.step X.1) e.1.1 e.1.2.1 ⟨_,_,_,Y,jV sL,dJ,dJ,dJ⟩ (I 3) aV aV aV;have⟨r,B,F,C⟩:=gB x y A z;clear k s t u x y A z;go_wp2;exact aO (cO Y _ _ _ b c 58 288 _ _ (0,0) (0,0) _ _ Y r.1 Y underlying58 (by rw[D.1];rfl) Y B.1 Y underlying288 tZ) Y ⟨_,_,_,_,Y,F.1,b4.1,C.1⟩
 |true=>
 have⟨RP,RR⟩:=bD g (dO g);clear g;have g:=bx (a6.1 _ X.1);go_wp2_with fail;clear g;refine sg (mR i _ e0 (a5.1.fr (v.1.step X.1))) ?_;rintro r z ⟨b3,rfl,f2,k⟩;have B:=Z (X.1.step k);obtain⟨t,g⟩:=M ((cQ i).length);have HKN:=Z g;have b1:N (0<=d/\d<=(t:T)/\0<=h/\h<max (t:T) 1):=Z (by
  have:=d1.1;rw[Gn,RR.1.1,<-g] at this;simpa[and_assoc] using this.symm)
 have r:t<=16384:=by rw[g];exact jt i
 obtain⟨g7,c1,c4,h0,rfl,f4,h2,s⟩:=f2;rw[<-g] at f4 |-;have c6:=Z s;clear k g s;have A:=dh (w.1 _ B.1);by_cases x:d=(t:T)
 .have g:(d==(t:T))=γ:=sU x
  clear x;go_upto_region 5 with fail;clear A g;have g:∀a,TQ [(b,58),(c,288)] z a->aY a f #[I h,I d] 58:=λa g=>g.obj (w.1 _ B.1) (by have:=e.1;simp;omega);have a3:∀a,TQ [(b,58),(c,288)] z a->a.cell? (H b2 0)=S d7:=λa k=>aj (k.acw (a6.1 _ B.1) sI) 0;have a4:∀a,TQ [(b,58),(c,288)] z a->a.cell? (H f 0)=S (I h):=λa k=>aj (g a k) 0;have a8:∀a,TQ [(b,58),(c,288)] z a->a.cell? (H f 1)=S (I d):=λa k=>aj (g a k) 1;have k:N (∀a,TQ [(b,58),(c,288)] z a->Fr j p a):=Z (λa p=>TQ.keep (v.1.step B.1) p (by have:=e.1;simp;omega));clear g;refine gQ [5,6] [] (λg=>if g=5 then[(b,58)] else[(c,288)]) ([(b,58),(c,288)]) [[],[],[],[],[1,2,3],[0],[1,2,3,4]] [.eq 0 (.agg #[I h,I d]),.eq 1 (.agg #[d7]),.eq 2 (I n),.eq 3 (.slice e9 m f0),.w1 4 (λg a=>∃p,jm i n (1+2*l.length) a g p),.w1 5 (λ_ a=>aY a b #[I h,I d] 58),.w2 4 6 (λg _ a=>∃p,g=.agg p/\aY a c p 288)] [[0],[1],[2],[3],[4],[5],[4,6]] kR kR kR Y (λ_ _ _ _ r p=>⟨r.symm.trans p.1,p.2⟩) sI ?hstab ?hstabM (λp=> ?_)
  case hstab=>exact Il
  case hstabM=>
   intro r p;simp only[rB] at p;rcases p with rfl|rfl;all_goals(refine⟨?_,?_,?_,?_,?_,?_,?_,trivial⟩<;>first|exact wZ|exact λ_ _ _ _ _ ⟨s,p⟩ r=>⟨s,p.tq r sI⟩|exact λ_ _ _ _ _ p r=>r.obj p (by have:=e.1;simp;omega)|exact λ_ _ _ _ _ ⟨p,r,s⟩ u=>⟨p,r,u.obj s (by have:=e.1;simp;omega)⟩)
  refine⟨?_,?_,?_,?_,?_,?_,?_,?_⟩;all_goals first|exact Ca|skip
  .refine IG ?_
   intro a p r u;go_simp;go_at_call 217;refine(Pp i n l _ _ a (c7.1.fr (k.1 _ p)) (a5.1.fr (k.1 _ p)) (HL.1.f (k.1 _ p)) jE RP.1).mono ?_;rintro r p ⟨F,C,rfl,y,s⟩;exact u _ _ s ⟨C,y⟩
  .intro a r p C u
   simp only[rX,ξ] at r p u |-;(try simp only[p] at u);obtain⟨p,y,s⟩:=r.2 b 58 sI _ (a7.1 _ B.1);obtain⟨g,F,rfl⟩:=aaW y;obtain⟨p,r,y⟩:=oK s;go_simp;have p:=fg s (I h) (I d);exact u undef _ (TQ.one sI s (eO _ _ _ _) p Y) p
  .intro a C p r s
   have r:=p 4 J;simp only[rX,ξ] at C r p s |-;(try simp only[p] at s);obtain⟨a2,p⟩:=r;obtain⟨K,a1,Q,P,a0,R,U,G,F,V,-⟩:=p.open_;obtain⟨p,W,u⟩:=C.2 c 288 sI _ (a9.1 _ B.1);obtain⟨g,b5,b6,b0,rfl⟩:=Hz W;obtain⟨p,r,C,W,X⟩:=gZ u;simp only[V] at s;go_simp;have y:=bP u (I a2.said) (.slice K a1 Q) (.slice P a0 R) (.slice U G F);exact s undef _ (TQ.one sI u (bC _ _ _ _ _ _) y Y) ⟨_,Y,y⟩
  refine re3 4 5 6 ?_;intro a G p C r;obtain⟨p,s⟩:=p;obtain⟨p,u,F⟩:=r;have K:p.size=4:=by
   obtain⟨P,X,R,Q,W,U,V,r,p,y,-⟩:=s.open_;rw[u] at y;simp only[ku] at y;subst y;rfl
  rw[u] at s;have⟨k,p,P,y,r⟩:=va C F s (k.1 _ G) K;clear G C F s u K a3 a4 a8;go_wp2;exact aO (cO Y _ _ _ b c 58 288 _ _ (0,0) (0,0) _ _ Y k.1 Y underlying58 (by rw[D.1];rfl) Y p.1 Y underlying288 (by rw[HI.1,r.1])) Y ⟨_,_,_,_,Y,P.1.mono jE,b4.1,y.1⟩
 have C:(d==(t:T))=δ:=sU x;have p:0<t:=oB b1.1;obtain⟨u,f1⟩:∃k:E,h=(k:T):=⟨h.toNat,oB b1.1⟩;subst f1;have h:u<t:=oB b1.1;have h:=b1.1.1;have h:d<16384:=oB b1.1;obtain⟨g,k⟩:∃g,(cQ i)[u]? =S g:=⟨_,cF aaq⟩;obtain rfl:=c6.1.addr k;have h:=Sl.pl (c6.1) k;have p:z.cell? (H c1 (c4+u*3))=S (I g.k):=h 0 _ Y;have r:z.cell? (H c1 (c4+u*3+1))=S (I g.a):=h 1 _ Y;have s:z.cell? (H c1 (c4+u*3+2))=S (I g.b):=h 2 _ Y;have e7:N (dA i g=γ):=Z (by
  have y:=bQ k;rw[iX RR.1.1] at y;exact(pL y).1)
 have y:=bx (w.1 _ B.1);have⟨X,b1⟩:=dy u t;clear h k x;obtain⟨a2,a0,a1⟩:=g;simp only at p r s;go_upto_region 7 with fail;refine cT (λb6 k=> ?_);obtain⟨f7,h⟩:=M z.heap.size;rw[<-h];have x:=cY k;have a3:=Z (B.1.step x);have d2:=dL k h;clear k h x p r s y A C;have h:=w.1 _ a3.1;have d0:=Z h;obtain⟨A,F,Q⟩:=oK h;obtain⟨k,p⟩:=M ((u+1) % t);have o:IntKind.i64.wrap ((u:T)+1)=(u:T)+1:=kH _ O;have P:IntKind.i64.wrap (d+1)=d+1:=kH _ O;have K:((u:T)+1).tmod (t:T)=(k:T):=by
  rw[T.tmod_eq_emod_of_nonneg O,p];rfl
 clear h p;go_region;refine Xk (λb7 s=> ?_);have a4:N (bT f b6 b7):=Z (by rw[s];exact Fr.trans (U:=λh=>h=f) ((Fr.refl j b6).drew) (eO b6.drew f (I k) (I (d+1))) (λ_ _ g=>g.elim) (λ_ _ g=>g));have y:=e.1;have C:=Z ((v.1.step a3.1).keep a4.1 (λh x=>by subst x;omega));have e8:=Fr.all (a4.1.aB (a6.1 _ a3.1) O);have x:N (∀a,Fr j b7 a->aY a f #[I k,I (d+1)] 58):=Fr.all (by rw[s];exact fg (W:=b6.drew) d0.1 _ _);have a8:=Fr.all (a4.1.aB (a7.1 _ a3.1) O);have b0:=Fr.all (a4.1.aB (a9.1 _ a3.1) O);have b9:N (∀a,Fr j b7 a->aY a f7 #[I a2,I a0,I a1] 144):=Fr.all (a4.1.aB d2.1 (λG=>by
  subst G;have h:=d2.1;rw[d0.1] at h;simp at h))
 clear s A F Q o P K y;go_wp2_with fail;refine sg (eQ l _ b7 (HL.1.f C.1) c8.1) ?_;rintro p g6 ⟨r,h,rfl,s,A⟩;have o:=Z s.read;obtain⟨g8,h1,rfl,-,-⟩:=s.shape (m:=m) (by rw[HLN.1];simp[fe]);have y:=Z A;clear s A;obtain⟨h,p,r,-⟩:=mD (b9.1 _ y.1);go_wp2_with fail;clear h p r;refine sg (kP _ (fe l) ⟨a2,a0,a1⟩ g6 o.1) ?_;rintro h e1 ⟨rfl,A⟩;have⟨s,F⟩:=bD (y.1.step A) (o.1.f A);clear A y o;obtain⟨f5,h⟩:=M ((fe l).contains ⟨a2,a0,a1⟩);rw[<-h];clear h;cases f5 with
 |true=>
  have o:=x.1 _ s.1;have y:=a8.1 _ s.1;have A:=b0.1 _ s.1;have h:=bx o;have h:=dh o;obtain⟨h,p,r⟩:=oK y;have G:=(eO e1 b (I k) (I (d+1))).aB A (oB e.1);obtain⟨h,p,r,t,u⟩:=gZ G;obtain⟨K,P,R,Q⟩:=mU (a:=I k) (b:=I (d+1)) (h:=i) (lev:=n) (N:=3+2*m) (o:=⟨0,[],[],[]⟩) y A (C.1.step s.1) e.1.1 e.1.2.1 ⟨_,_,_,Y,jV qJ,dJ,dJ,dJ⟩ aI aV aV aV;have⟨h,p,V,U⟩:=gB K P R Q;clear o y A G K P R Q;go_wp2;exact aO (cO Y _ _ _ b c 58 288 _ _ (0,0) (0,0) _ _ Y h.1 Y underlying58 (by rw[D.1];rfl) Y p.1 Y underlying288 tZ) Y ⟨_,_,_,_,Y,V.1,O,U.1⟩
 |false=>
 obtain⟨h,o,p,-⟩:=mD (b9.1 _ s.1);go_wp2_with fail;clear h o p;refine sg (kP _ (fe l) ⟨a2,a1,a0⟩ e1 F.1) ?_;rintro h e2 ⟨rfl,y⟩;have o:=Z (s.1.step y);clear y s F;obtain⟨f6,h⟩:=M ((fe l).contains ⟨a2,a1,a0⟩);rw[<-h];clear h;cases f6 with
 |true=>
  have s:=x.1 _ o.1;have y:=a8.1 _ o.1;have A:=b0.1 _ o.1;have h:=bx s;have h:=dh s;obtain⟨h,p,r⟩:=oK y;have F:=(eO e2 b (I k) (I (d+1))).aB A (oB e.1);obtain⟨h,p,r,t,u⟩:=gZ F;obtain⟨G,K,Q,P⟩:=mU (a:=I k) (b:=I (d+1)) (h:=i) (lev:=n) (N:=3+2*m) (o:=⟨0,[],[],[]⟩) y A (C.1.step o.1) e.1.1 e.1.2.1 ⟨_,_,_,Y,jV qJ,dJ,dJ,dJ⟩ aI aV aV aV;have⟨h,m,U,R⟩:=gB G K Q P;clear s y A F G K Q P;go_wp2;exact aO (cO Y _ _ _ b c 58 288 _ _ (0,0) (0,0) _ _ Y h.1 Y underlying58 (by rw[D.1];rfl) Y m.1 Y underlying288 tZ) Y ⟨_,_,_,_,Y,U.1,O,R.1⟩
 |false=>
 obtain⟨h,m,p,-⟩:=mD (b9.1 _ o.1);have r:=bx (e8.1 _ o.1);go_wp2_with fail;clear h m p r;refine sg (YJ i n l ⟨a2,a0,a1⟩ _ _ e2 (c7.1.fr (C.1.step o.1)) (a5.1.fr (C.1.step o.1)) (HL.1.f (C.1.step o.1)) jE RP.1 e7.1) ?_;rintro h g5 ⟨i,W,rfl,d5,s⟩;have⟨b5,c2⟩:=bD (o.1.step s) d5;obtain⟨G,U,P,A,V,Q,F,R,K,rfl,y⟩:=d5.open_;clear s o y;go_upto_region 12 with fail;refine cT (λy l=> ?_);obtain⟨o,i⟩:=M g5.heap.size;rw[<-i];have h:=cY l;have s:=Z (b5.1.step h);have c0:=dL l i;have c9:=Z (c2.1.fr h);have b8:N (o≠f/\o≠b/\o≠c):=Z (by
  have m:=ba (x.1 _ b5.1);have m:=ba (a8.1 _ b5.1);have m:=ba (b0.1 _ b5.1);omega)
 clear l i h c2;have d3:=iT c0.1;by_cases d6:R=0
 .subst d6
  go_upto_region 14 with fail;have m:=(x.1 _ s.1);have⟨e4,e5⟩:=bD ((a8.1 _ s.1)) ((b0.1 _ s.1));have l:=c0.1;have⟨e6,e3⟩:=bD (c9.1) ((C.1.step s.1));have i:∀a,TQ [(b,58),(c,288)] y a->aY a f #[I k,I (d+1)] 58:=λa h=>h.obj m (by have:=e.1;simp;omega);have h:∀a,TQ [(b,58),(c,288)] y a->a.heap[o]? =_:=λa h=>h.obj l (by have:=b8.1;simp;omega);have f9:∀a,TQ [(b,58),(c,288)] y a->a.cell? (H f 0)=S (I k):=λa n=>aj (i a n) 0;have g0:∀a,TQ [(b,58),(c,288)] y a->a.cell? (H f 1)=S (I (d+1)):=λa n=>aj (i a n) 1;have g1:∀a,TQ [(b,58),(c,288)] y a->a.cell? (H o 0)=S (I W.said):=λa n=>aj (h a n) 0;have g2:∀a,TQ [(b,58),(c,288)] y a->a.cell? (H o 1)=S (.slice G U P):=λa n=>aj (h a n) 1;have g3:∀a,TQ [(b,58),(c,288)] y a->a.cell? (H o 2)=S (.slice A V Q):=λa n=>aj (h a n) 2;have g4:∀a,TQ [(b,58),(c,288)] y a->a.cell? (H o 3)=S (.slice F 0 K):=λa n=>aj (h a n) 3;clear i h m l d3;refine gQ [2,3] [] (λh=>if h=2 then[(b,58)] else[(c,288)]) ([(b,58),(c,288)]) [[],[],[0],[1]] [.eq 0 (.agg #[I k,I (d+1)]),.eq 1 (.agg #[I W.said,.slice G U P,.slice A V Q,.slice F 0 K]),.w1 2 (λ_ a=>aY a b #[I k,I (d+1)] 58),.w1 3 (λ_ a=>aY a c #[I W.said,.slice G U P,.slice A V Q,.slice F 0 K] 288)] [[0],[1],[2],[3]] kR kR kR Y (λ_ _ _ _ i h=>⟨i.symm.trans h.1,h.2⟩) sI ?hstab ?hstabM (λh=> ?_)
  case hstab=>exact Il
  case hstabM=>
   intro i h;simp only[rB] at h;rcases h with rfl|rfl;all_goals(refine⟨?_,?_,?_,?_,trivial⟩<;>first|exact wZ|exact λ_ _ _ _ _ h i=>i.obj h (by have:=e.1;simp;omega))
  refine⟨?_,?_,?_,?_,?_⟩;all_goals first|exact Ca|skip
  .intro a i h l c3
   simp only[rX,ξ] at i h c3 |-;(try simp only[h] at c3);obtain⟨h,f3,c2⟩:=i.2 b 58 sI _ e4.1;obtain⟨g,h4,rfl⟩:=aaW f3;obtain⟨h,i,l⟩:=oK c2;go_simp;have d:=fg c2 (I k) (I (d+1));exact c3 undef _ (TQ.one sI c2 (eO _ _ _ _) d Y) d
  .intro a h d i c3
   simp only[rX,ξ] at h d c3 |-;(try simp only[d] at c3);obtain⟨d,f3,c2⟩:=h.2 c 288 sI _ e5.1;obtain⟨g,h5,h6,h4,rfl⟩:=Hz f3;obtain⟨d,h,i,l,m⟩:=gZ c2;go_simp;have d:=bP c2 (I W.said) (.slice G U P) (.slice A V Q) (.slice F 0 K);exact c3 undef _ (TQ.one sI c2 (bC _ _ _ _ _ _) d Y) d
  refine re2 2 3 ?_;intro a d h i;have⟨l,m,c3⟩:=dt h i (e6.1.tq d sI);have c2:=Z (TQ.keep e3.1 d (by have:=e.1;simp;omega));clear d h i f9 g0 g1 g2 g3 g4;go_wp2;exact aO (cO Y _ _ _ b c 58 288 _ _ (0,0) (0,0) _ _ Y l.1 Y underlying58 (by rw[D.1];rfl) Y m.1 Y underlying288 tZ) Y ⟨_,_,_,_,Y,c3.1.mono jE,O,c2.1⟩
 have d:decide ((R:T)>0)=γ:=sO;have d:decide (0<(R:T))=γ:=sO;have d:decide (0<R)=γ:=sO;clear d6;have d:=dh (x.1 _ s.1);have h:=λh=>aG (x.1 _ s.1) h;go_upto_region 14 with fail;clear d h;refine cT (λd i=> ?_);have h:TQ [(f,58)] y d:=by
  rw[i];exact TQ.one sI (x.1 _ s.1) ((Fr.refl (λh=>h=f) _).aK 1 _) (aD (x.1 _ s.1) 1 _) Y
 have m:aY d f #[I k,aI] 58:=by rw[i];exact aD (x.1 _ s.1) 1 _
 clear i;have p:=m;have e3:=Z ((h.obj (a8.1 _ s.1) (by have:=e.1;simp;omega)));have e4:=Z ((h.obj (b0.1 _ s.1) (by have:=e.1;simp;omega)));have n:=(h.obj c0.1 (by have:=b8.1;simp;omega));have e5:=Z ((c9.1.tq h sI));have d6:=Z ((TQ.keep (C.1.step s.1) h (by have:=e.1;simp;omega)));have l:∀a,TQ [(b,58),(c,288)] d a->aY a f #[I k,aI] 58:=λa i=>i.obj p (by have:=e.1;simp;omega);have i:∀a,TQ [(b,58),(c,288)] d a->a.heap[o]? =_:=λa i=>i.obj n (by have:=b8.1;simp;omega);have e6:∀a,TQ [(b,58),(c,288)] d a->a.cell? (H f 0)=S (I k):=λa r=>aj (l a r) 0;have f3:∀a,TQ [(b,58),(c,288)] d a->a.cell? (H f 1)=S aI:=λa f=>aj (l a f) 1;have f9:∀a,TQ [(b,58),(c,288)] d a->a.cell? (H o 0)=S (I W.said):=λa f=>aj (i a f) 0;have g0:∀a,TQ [(b,58),(c,288)] d a->a.cell? (H o 1)=S (.slice G U P):=λa f=>aj (i a f) 1;have g1:∀a,TQ [(b,58),(c,288)] d a->a.cell? (H o 2)=S (.slice A V Q):=λa f=>aj (i a f) 2;have g2:∀a,TQ [(b,58),(c,288)] d a->a.cell? (H o 3)=S (.slice F R K):=λa d=>aj (i a d) 3;clear l i p n d3;clear h m;refine gQ [2,3] [] (λd=>if d=2 then[(b,58)] else[(c,288)]) ([(b,58),(c,288)]) [[],[],[0],[1]] [.eq 0 (.agg #[I k,aI]),.eq 1 (.agg #[I W.said,.slice G U P,.slice A V Q,.slice F R K]),.w1 2 (λ_ a=>aY a b #[I k,aI] 58),.w1 3 (λ_ a=>aY a c #[I W.said,.slice G U P,.slice A V Q,.slice F R K] 288)] [[0],[1],[2],[3]] kR kR kR Y (λ_ _ _ _ f d=>⟨f.symm.trans d.1,d.2⟩) sI ?hstab ?hstabM (λd=> ?_)
 case hstab=>exact Il
 case hstabM=>
  intro f d;simp only[rB] at d;rcases d with rfl|rfl;all_goals(refine⟨?_,?_,?_,?_,trivial⟩<;>first|exact wZ|exact λ_ _ _ _ _ d f=>f.obj d (by have:=e.1;simp;omega))
 refine⟨?_,?_,?_,?_,?_⟩;all_goals first|exact Ca|skip
 .intro a f d h c3
  simp only[rX,ξ] at f d c3 |-;try simp only[d] at c3
  obtain⟨d,d3,c2⟩:=f.2 b 58 sI _ e3.1;obtain⟨g,g3,rfl⟩:=aaW d3;obtain⟨d,f,h⟩:=oK c2;go_simp;have d:=fg c2 (I k) aI;exact c3 undef _ (TQ.one sI c2 (eO _ _ _ _) d Y) d
 .intro a f d h c3
  simp only[rX,ξ] at f d c3 |-;try simp only[d] at c3
  obtain⟨d,d3,c2⟩:=f.2 c 288 sI _ e4.1;obtain⟨g,g4,h4,g3,rfl⟩:=Hz d3;obtain⟨d,f,g,h,i⟩:=gZ c2;go_simp;have d:=bP c2 (I W.said) (.slice G U P) (.slice A V Q) (.slice F R K);exact c3 undef _ (TQ.one sI c2 (bC _ _ _ _ _ _) d Y) d
 refine re2 2 3 ?_;intro a d f g;have⟨a,h,c3⟩:=dt f g (e5.1.tq d sI);have c2:=Z (TQ.keep d6.1 d (by have:=e.1;simp;omega));clear d f g e6 f3 f9 g0 g1 g2;go_wp2;exact aO (cO Y _ _ _ b c 58 288 _ _ (0,0) (0,0) _ _ Y a.1 Y underlying58 (by rw[D.1];rfl) Y h.1 Y underlying288 tZ) Y ⟨_,_,_,_,Y,c3.1.mono jE,J,c2.1⟩
theorem Gg:(prog.info? 30).map (λa=>(a.zero,a.size,a.bytes))=S (S aV,1,24):=kR
theorem aaR:dK prog 59 30 1 24:=dK.of (z:=aV) underlying59 Gg Y J
def ZC(p:T)(n:L T)(left:L (L T))(e h:E)(k i:ι Addr)(m l:E)(o:ε)(b:Ending)(a:ε):Prop:=
 (∃c,b=.returned c)/\∃g b c d f,aY a e #[I p,.bool g,.slice k n.length m,.slice c (left.length+1) d] 61/\
   cC h 30 1 CR a (.slice c (left.length+1) d) (left++[b]) f/\b.length<=32/\Fr (λb=>b=e\/(ζ.slice i left.length l).ownBlock=S b) o a
theorem Cz(n:Hs)(m:Int)(a5:κ)(d:L Int)(left:L (L Int))(b7:ζ)(a v:E)(t k:ι Addr)(u l:E)(c2:L (L ζ))(b:ε)(b9:Gl b)(b3:eJ b b7 n)(b4:bm n=γ)(e6:1<=m)(Q:aY b a #[I m,.bool a5,.slice t d.length u,.slice k left.length l] 61)
  (s:Sl 3 1 CI b (.slice t d.length u) d)(b1:cC v 30 1 CR b (.slice k left.length l) left c2)(b0:v<=b.heap.size)(d4:d.length<=1000)(d2:left.length<=1000):
  aQ 220 #[aP a 0,b7] b (ZC m d left a v t k u l b):=by
 have c0:=b3;have HP:=s;have HQ:=Fr.all Q;have b7:=bK b4;have LR:(iz n=n.length):=(by unfold iz;rw[b4];rfl);obtain⟨f0,rfl,d5⟩:=b3;obtain⟨e,h⟩:=M n.length;obtain⟨e1,e4,rfl,-,-,-⟩:=d5.oH h;have c1:=Z h;obtain⟨b6,i⟩:=M d.length;obtain⟨g,f⟩:=M left.length;have R:(∀o c,(ZC m d left a v t k u l b o c)=((∃p,o=.returned p)/\∃x o p r w,aY c a #[I m,.bool x,.slice t b6 u,.slice p (g+1) r] 61/\cC v 30 1 CR c (.slice p (g+1) r) (left++[o]) w/\o.length<=32/\Fr (λo=>o=a\/(ζ.slice k g l).ownBlock=S o) b c)):=(λo c=>by rw[i,f];rfl);rw[<-i] at HP d4 HQ Q;rw[<-f] at b1 d2 HQ Q;have HRN:=Z f;have v:e<=32:=O;clear s h i f
 delta aQ;go_in
 go_wp2_with fail;refine aZ.nm (λv f=> ?_);obtain⟨Q,c⟩:=M b.heap.size;rw[<-c];have F:=cY f;have a0:=yY f c;clear f c;refine sg (wP n _ v (c0.fr F)) ?_;rintro v d7 ⟨Q,rfl,GR,V⟩;rw[LR,<-c1.1] at GR;obtain⟨d9,e2,rfl⟩:=GR.open_;go_wp2_with fail;refine sg (uf e _ O d7 (b9.fr (F.step V)) _ GR) ?_;rintro v d8 ⟨Q,rfl,GT,d0⟩;obtain⟨e0,e3,rfl⟩:=GT.open_;obtain⟨a7,c⟩:=M (eA (jo n));rw[<-c] at GT;clear c;go_upto_region 2 with fail;refine cT (λn f=> ?_);obtain⟨v,c⟩:=M d8.heap.size;rw[<-c];have a6:=cY f;have G:=((V.step d0).step a6);have w:=(F.step G);have a1:=yY f c;clear f c;have v:=bx (a0.1 _ G);go_wp2_with fail;go_loopg [6,19] e (λgk s6 s19 wr=>∃(c:E)(f:L Int)(h:L (L ζ)),c+gk=e/\s19=I c/\cC n.heap.size 3 1 CI wr s6 f h/\f.length<=c/\Fr j n wr)
 .exact⟨0,[],[],du,Y,qG,nG,rF⟩
 case round=>
  obtain⟨i,p,c3,e5,rfl,z,e7,x⟩:=hrel;obtain⟨C,c⟩:∃f,p.length=f:=⟨_,Y⟩;obtain⟨c7,a3,rfl,e8,e9⟩:=z.shape c;have s:=Z c;have n:C<=32:=O;have n:C<=i:=O;clear c;obtain⟨a9,rfl⟩:=M gk;have f:=HQ.1 _ (w.step x);by_cases d3:i<e
  .have n:=iU f
   go_wp2_with fail;refine sg (dC _ d i wr (HP.f (w.step x))) ?_;rintro n o ⟨rfl,rfl⟩;obtain⟨n,c⟩:=M (d.contains (i:Int));rw[<-c];clear c;have n:=bx (a0.1 _ (G.step x));go_wp2_with fail;go_loopg [8,32] e (λgk s8 s32 n=>∃(c:E)(h:κ),c+gk=e/\s32=I c/\s8=.bool h/\Fr j wr n)
   .exact⟨0,_,du,Y,Y,rF⟩
   case round=>
    obtain⟨h,B,W,rfl,rfl,y⟩:=hrel;have r:=(x.step y);have n:h<=e:=O;by_cases K:h<e
    .cases B
     .go_wp2
      go_roundg (gk-1)
      .exact⟨h+1,_,O,by go_num,Y,y⟩
      omega
     have n:=bx (a1.1 _ r);have n:=dh (a1.1 _ r);go_wp2_with fail;refine sg (Ta e a7 O i h d3 K _ _ ((GT.fr a6).fr r)) ?_;rintro e U ⟨rfl,D⟩;have c:=(r.step D);have A:=(y.step D);obtain⟨P,e⟩:=M (a7 i h);rw[<-e];clear e;cases P
     .go_wp2
      go_roundg (gk-1)
      .exact⟨h+1,_,O,by go_num,Y,A⟩
      omega
     have e:=iU (HQ.1 _ (w.step c));go_wp2_with fail;refine sg (dC _ d h U (HP.f (w.step c))) ?_;rintro c e ⟨rfl,rfl⟩;obtain⟨d,c⟩:=M (d.contains (h:Int));rw[<-c];clear c;go_wp2;go_roundg (gk-1)
     .exact⟨h+1,_,O,by go_num,Y,A⟩
     omega
    cases B
    .go_wp2
     go_roundg (a9-1)
     .exact⟨i+1,p,c3,O,by go_num,z.f y,oB s.1,r⟩
     omega
    go_wp2_with (at_builtin;refine stop ?_);refine aZ.go (AM (λd c=> ?_));have e:=cY c;have h:=dL c Y;have d:=(r.step e);clear c;refine bH Y (.tmp 53) (.tmp 55) Y oG C s.1 Y (z.f (y.step e)) iA id (i:Int) Y Y (eF.block h.1 oC) (λ_ _=>Y) O mL d.size ?_;intro n r v e h _ _;go_wp2;go_roundg (a9-1)
    .exact⟨i+1,_,_,O,by go_num,e,by have:=s.1;simp;omega,(h.fr eG d)⟩
    omega
  have d:=bx f;have D:=(w.step x);have P:=(b1.f D);have d:=Z f;by_cases b2:m<(C:Int)
  .have d:=cD b2
   obtain⟨h,d6⟩:∃d:E,m=(d:Int):=⟨m.toNat,O⟩;subst d6;have d:=dh f;have d:=λd=>aG f d;have d:(0:Int)<=(h:Int):=jD;have d:(h:Int)<=(a3:Int):=O;go_upto_region 17 with fail;(refine cT (λo y=> ?_);have d:bT a wr o:=by rw[y];exact rF.aK _ _);(have r:aY o a #[I h,.bool γ,.slice t b6 u,.slice k g l] 61:=by rw[y];exact aD f 1 _);have c5:Sl 3 1 CI o (.slice c7 h a3) (p.take h):=(Sl.past (z.read.take (oB s.1)) iA d f J id);have b8:Fr (λe=>e=a\/(ζ.slice k g l).ownBlock=S e) b o:=(D.trans (T:=λe=>e=a) d (λ_ _ e=>e.elim) (λ_ _ e=>.inl e));clear y;have e:=iT r;go_wp2_with (at_builtin;refine stop ?_);refine aZ.go (AM (λe c=> ?_));have B:=cY c;have c4:=dL c Y;have K:=((P.aJ CR.aJ d (λd U A=>by subst A;exact(aW P.row U).2.ne ⟨_,_,f⟩ J Y) (λe d A X U=>by subst U;exact X.ne ⟨_,_,f⟩ (λW=>by subst W;unfold fS at A;revert A;decide) Y)).f B);have c6:=(c5.f B);have U:=(b8.step B);clear c;refine bH Y (.tmp 78) (.tmp 80) Y aaR g HRN.1.symm Y K CR.aJ Zd (p.take h) Y Y (eF.block c4.1 oC) (λd W=>⟨_,Y,c6.aJ iA W.1 (λm i X e d=>e.ne (aW K.row d).2 (λA=>by subst A;exact X.elim (λa2=>by cases a2) (λd=>d)) Y)⟩) O mL (gX b0 U.size) ?_;intro a2 a4 d X a8 _ _;have A:=K.pI a8 (B.hs r) J;have e:=iT A;have e:=λe=>aG A e;go_wp2;(go_end0);have W:bT a d (d.setCell (H a 3) (.slice a2 (g+1) a4)):=rF.aK _ _;rw[R];exact⟨⟨_,Y⟩,γ,(p.take h),a2,a4,_,aD A 3 _,X.aJ CR.aJ W (λd c8 b5=>by subst b5;exact(aW X.row c8).2.ne ⟨_,_,A⟩ J Y) (λe d b5 d1 c8=>by subst c8;exact d1.ne ⟨_,_,A⟩ (λc9=>by subst c9;unfold fS at b5;revert b5;decide) Y),(by rw[cV];have:=s.1;omega),(U.trans a8.1 (λ_ _ d=>d) (λe _ d=>.inr d)).trans W (λ_ _ d=>d) (λ_ _ d=>.inl d)⟩
  have d:=bV b2;go_upto_region 17 with fail;obtain⟨o,y⟩:=M wr;subst y;have r:=f;have b:Fr (λd=>d=a\/(ζ.slice k g l).ownBlock=S d) b o:=(D.mono (λ_ _ b=>b.elim));have d:=iT r;go_wp2_with (at_builtin;refine stop ?_);refine aZ.go (AM (λd c=> ?_));have h:=cY c;have d:=dL c Y;have A:=(P.f h);have a8:=(z.read.f h);have B:=(b.step h);clear c;refine bH Y (.tmp 78) (.tmp 80) Y aaR g HRN.1.symm Y A CR.aJ Zd p Y Y (eF.block d.1 oC) (λb K=>⟨_,Y,a8.aJ iA K.1 (λf e U d b=>d.ne (aW A.row b).2 (λc=>by subst c;exact U.elim (λW=>by cases W) (λb=>b)) Y)⟩) O mL (gX b0 B.size) ?_;intro W X b U a2 _ _;have c:=A.pI a2 (h.hs r) J;have d:=iT c;have d:=λd=>aG c d;go_wp2;go_end0
  have K:bT a b (b.setCell (H a 3) (.slice W (g+1) X)):=rF.aK _ _;rw[R];exact⟨⟨_,Y⟩,a5,p,W,X,_,aD c 3 _,U.aJ CR.aJ K (λa b5 a4=>by subst a4;exact(aW U.row b5).2.ne ⟨_,_,c⟩ J Y) (λb a a4 c4 b5=>by subst b5;exact c4.ne ⟨_,_,c⟩ (λb8=>by subst b8;unfold fS at a4;revert a4;decide) Y),(oB s.1),(B.trans a2.1 (λ_ _ a=>a) (λb _ a=>.inr a)).trans K (λ_ _ a=>a) (λ_ _ a=>.inl a)⟩
end Go.Proofs.YtecdpehmhpleeaaGreatDoor
