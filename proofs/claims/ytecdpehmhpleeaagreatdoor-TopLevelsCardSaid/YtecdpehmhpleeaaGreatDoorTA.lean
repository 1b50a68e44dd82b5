/- Part of the proof that TopLevels holds, for any argument and memory that the statement allows. -/
import Derived.Shelf.Small.Bits
import Derived.Shelf.Small.Wraps
import Derived.Shelf.Strconv.Itoa0
import Derived.Shelf.Strings.Search1
import Derived.Shelf.Strings.Search2
import Derived.Shelf.Strings.Search3
import Derived.Shelf.Strings.Count
import Derived.Shelf.LaysM
import Derived.Shelf.Strings.Shaped
import Derived.Shelf.Sort.Plain
import Derived.Shelf.Strings.Prefix
import Derived.Shelf.Strings.Split
import Derived.Shelf.Strings.SplitShaped
import Derived.Shelf.Unicode.DecodeSlow
import Derived.Shelf.Slices.Equal
import Derived.Ground.Names2Prog
import Derived.Shelf.Slices.Clone
import Derived.Shelf.Slices.CompactI
import Derived.Shelf.Slices.Cells
import Derived.Shelf.Slices.In.SortNone
import Derived.Shelf.Slices.Empties2
import Derived.Test.YtecdpehmhpleeaaGreatDoorProg
import Derived.Shelf.SlSortCmp.Whole1
import Derived.WalkKit
import Derived.Deep.Draws
import Derived.Maps.AppendAt
import Derived.StillTailTactics
import Derived.Lib.Hide
import Derived.Laws.OwnMore
import Derived.OneCell
import Derived.Outline
import Derived.RegionTactic
import Derived.ChangeAlike
import Derived.Deep.QuietTactic
import Derived.BigQuiet
import Derived.WalkSpells
import Derived.WalkLawsBesides
import Derived.Deep.RegionWith
import Derived.Deep.RegionHeld3
import Derived.Deep.RegionLaw
import Derived.Deep.LoopGhost
import Derived.Deep.DeepCutAuto
import Derived.Deep.CutBlock
import Derived.IntWalk
import Derived.KernelRfl
import Derived.Laws.BitsAll
import Derived.Lib.TrailingZeros
import Derived.Laws.Bits64b
import Derived.Deep.Quiet
import Derived.Laws.CopyOwn
import Derived.RangeFuncNested
import Derived.RangeFuncBound
import Derived.RangeFuncCalls
import Derived.RangeFuncLeaves
import Derived.Shelf.Abstract
import Derived.Shelf.RegionOpen
import Derived.OwnWalkIn
import Derived.TacticsInMore
import Derived.LoopNIn
import Derived.LoopIn
import Derived.Deep.MidRow
import Derived.Laws.Rows
import Derived.OrdersHeld
import Derived.StillTail
import Derived.LoopN
import Derived.Laws.EntriesVeiled
import Derived.Laws.StructEq
import Derived.Sort.OwnSortedInts
import Derived.Lib.RowBridge
open _root_ renaming rfl->Y,List->L,Nat->E,Int->T,Array->θ,Option->ι,Bool->κ,UInt8->μ
open Option renaming some->S,none->η
open Bool renaming true->γ,false->δ
open Go renaming World->ε,Value->ζ
open Nat renaming reduceEqDiff->ξ
namespace Go.Proofs.YtecdpehmhpleeaaGreatDoor
open Go.RowKit Tryz
set_option linter.unusedVariables false
set_option linter.unusedSimpArgs false
set_option maxRecDepth 100000
set_option maxHeartbeats 16000000
variable{α β:Type}{P:Program}{m q n1 n2 n3 n4 n5:Nat}{W V U w4:World}{x v1 v2 v3 v4:Value}{i1 i2 i3 i4 i5 i6:Int}{t:TypeId}{e p1 p2:List Int}{Q:Exit→Act→World→Prop}{A:Option Addr}{C:World→List Value→α→Prop}{L1:List (List Value)}{X X1:List α}{Y1:List Value}{u u1:List UInt8}{S1:Nat→Prop}{p0 q0:Prop}{B D:List Nat}{a1 a2:Act}{r1:List Oper}{o1:Array Oper}{o2:Oper}{K1:Act→World→Prop}{x1 x2:α}{S2:ByteArray}{f1 f2:Nat×Nat}{e2:Ending}{G:World→Prop}
end Go.Proofs.YtecdpehmhpleeaaGreatDoor
namespace Go.Proofs
open Go.Shelf
def Tryz.Dw:Go.Shelf.Ren:=⟨λ|189=>140|125=>143|257=>183|128=>192|129=>193|294=>229|295=>230|296=>231|297=>232|298=>233|299=>234|216=>235|300=>236|301=>237|328=>288|329=>239|330=>240|331=>289|332=>290|215=>144|343=>318|a=>a,λ|28=>30|3=>3|46=>292|0=>0|51=>334|53=>336|4=>4|183=>328|182=>327|131=>185|5=>5|9=>9|218=>388|222=>243|228=>437|229=>399|a=>a,λ|a=>a⟩
theorem Tryz.Jt:Go.Proofs.Lays.n189 prog Tryz.Dw:={
 mixed:=by kernel_rfl
 f125:=func143.trans (congrArg some (by kernel_rfl))
 f128:=func192.trans (congrArg some (by kernel_rfl))
 f129:=func193.trans (congrArg some (by kernel_rfl))
 f189:=func140.trans (congrArg some (by kernel_rfl))
 f215:=func144.trans (congrArg some (by kernel_rfl))
 f216:=func235.trans (congrArg some (by kernel_rfl))
 f257:=func183.trans (congrArg some (by kernel_rfl))
 f294:=func229.trans (congrArg some (by kernel_rfl))
 f295:=func230.trans (congrArg some (by kernel_rfl))
 f296:=func231.trans (congrArg some (by kernel_rfl))
 f297:=func232.trans (congrArg some (by kernel_rfl))
 f298:=func233.trans (congrArg some (by kernel_rfl))
 f299:=func234.trans (congrArg some (by kernel_rfl))
 f300:=func236.trans (congrArg some (by kernel_rfl))
 f301:=func237.trans (congrArg some (by kernel_rfl))
 f328:=func288.trans (congrArg some (by kernel_rfl))
 f329:=func239.trans (congrArg some (by kernel_rfl))
 f330:=func240.trans (congrArg some (by kernel_rfl))
 f331:=func289.trans (congrArg some (by kernel_rfl))
 f332:=func290.trans (congrArg some (by kernel_rfl))
 f343:=func318.trans (congrArg some (by kernel_rfl))
 t0:=underlying0
 a0:=isAgg0
 z0:=sizeOf0
 v0:=zeroValue0
 t3:=underlying3
 a3:=isAgg3
 z3:=sizeOf3
 v3:=zeroValue3
 t4:=underlying4
 a4:=isAgg4
 z4:=sizeOf4
 v4:=zeroValue4
 t5:=underlying5
 a5:=isAgg5
 z5:=sizeOf5
 v5:=zeroValue5
 t9:=underlying9
 a9:=isAgg9
 z9:=sizeOf9
 v9:=zeroValue9
 t28:=underlying30
 a28:=isAgg30
 z28:=sizeOf30
 v28:=zeroValue30
 t46:=underlying292
 a46:=isAgg292
 z46:=sizeOf292
 v46:=zeroValue292
 t51:=underlying334
 a51:=isAgg334
 z51:=sizeOf334
 v51:=zeroValue334
 t53:=underlying336
 a53:=isAgg336
 z53:=sizeOf336
 v53:=zeroValue336
 t131:=underlying185
 a131:=isAgg185
 z131:=sizeOf185
 v131:=zeroValue185
 t182:=underlying327
 a182:=isAgg327
 z182:=sizeOf327
 v182:=zeroValue327
 t183:=underlying328
 a183:=isAgg328
 z183:=sizeOf328
 v183:=zeroValue328
 t218:=underlying388
 a218:=isAgg388
 z218:=sizeOf388
 v218:=zeroValue388
 t222:=underlying243
 a222:=isAgg243
 z222:=sizeOf243
 v222:=zeroValue243
 t228:=underlying437
 a228:=isAgg437
 z228:=sizeOf437
 v228:=zeroValue437
 t229:=underlying399
 a229:=isAgg399
 z229:=sizeOf399
 v229:=zeroValue399}
open Go.Sort Go.RowKit in
theorem Tryz.slices_Sort_int(a d e:Nat)(c:List Int)(b:World)(h:Holds (Value.int .i64) b a d c.toArray)(i:a<b.heap.size)(k:c.length<4611686018427387904):
  Calls prog 140 #[.slice (some ⟨a,d,none⟩) c.length e] b λg f=>
   g=.returned (.tuple #[])/\∃g l,f=grow (putRow (Value.int .i64) (Sort.ahead b g) a d (c.mergeSort λf g=>decide (f<=g)).toArray) l:=Any.slices_Sort_int Tryz.Jt a d e c b h i k
def Tryz.Fp:Go.Shelf.Ren:=⟨λ|100=>100|207=>148|a=>a,λ|9=>9|4=>4|3=>3|a=>a,λ|a=>a⟩
theorem Tryz.WC:Go.Proofs.Lays.n100 prog Tryz.Fp:={
 mixed:=by kernel_rfl
 f100:=func100.trans (congrArg some (by kernel_rfl))
 f207:=func148.trans (congrArg some (by kernel_rfl))
 t3:=underlying3
 a3:=isAgg3
 z3:=sizeOf3
 v3:=zeroValue3
 t4:=underlying4
 a4:=isAgg4
 z4:=sizeOf4
 v4:=zeroValue4
 t9:=underlying9
 a9:=isAgg9
 z9:=sizeOf9
 v9:=zeroValue9}
open Go.RowKit Go.Lib in
theorem Tryz.strings_HasSuffix(a b:ByteArray)(c:World)(f:a.size<=9223372036854775807):
  Calls prog 100 #[.string a,.string b] c λe d=>e=.returned (.bool (Lib.hasSuffix a.data.toList b.data.toList))/\d=c:=Any.strings_HasSuffix Tryz.WC a b c f
def Tryz.Dk:Go.Shelf.Ren:=⟨λ|146=>101|221=>149|268=>195|138=>196|143=>197|195=>243|197=>244|218=>245|219=>246|260=>292|217=>293|225=>294|224=>295|267=>296|266=>319|314=>320|n=>n,λ|9=>9|31=>161|3=>3|4=>4|0=>0|105=>394|21=>21|5=>5|46=>292|119=>462|139=>465|138=>464|146=>466|51=>334|n=>n,λ|1=>2|3=>3|4=>4|n=>n⟩
theorem Tryz.VU:Go.Proofs.Lays.n146 prog Tryz.Dk:={
 mixed:=by kernel_rfl
 f138:=func196.trans (congrArg some (by kernel_rfl))
 f143:=func197.trans (congrArg some (by kernel_rfl))
 f146:=func101.trans (congrArg some (by kernel_rfl))
 f195:=func243.trans (congrArg some (by kernel_rfl))
 f197:=func244.trans (congrArg some (by kernel_rfl))
 f217:=func293.trans (congrArg some (by kernel_rfl))
 f218:=func245.trans (congrArg some (by kernel_rfl))
 f219:=func246.trans (congrArg some (by kernel_rfl))
 f221:=func149.trans (congrArg some (by kernel_rfl))
 f224:=func295.trans (congrArg some (by kernel_rfl))
 f225:=func294.trans (congrArg some (by kernel_rfl))
 f260:=func292.trans (congrArg some (by kernel_rfl))
 f266:=func319.trans (congrArg some (by kernel_rfl))
 f267:=func296.trans (congrArg some (by kernel_rfl))
 f268:=func195.trans (congrArg some (by kernel_rfl))
 f314:=func320.trans (congrArg some (by kernel_rfl))
 t0:=underlying0
 a0:=isAgg0
 z0:=sizeOf0
 v0:=zeroValue0
 t3:=underlying3
 a3:=isAgg3
 z3:=sizeOf3
 v3:=zeroValue3
 t4:=underlying4
 a4:=isAgg4
 z4:=sizeOf4
 v4:=zeroValue4
 t5:=underlying5
 a5:=isAgg5
 z5:=sizeOf5
 v5:=zeroValue5
 t9:=underlying9
 a9:=isAgg9
 z9:=sizeOf9
 v9:=zeroValue9
 t21:=underlying21
 a21:=isAgg21
 z21:=sizeOf21
 v21:=zeroValue21
 t31:=underlying161
 a31:=isAgg161
 z31:=sizeOf161
 v31:=zeroValue161
 t46:=underlying292
 a46:=isAgg292
 z46:=sizeOf292
 v46:=zeroValue292
 t51:=underlying334
 a51:=isAgg334
 z51:=sizeOf334
 v51:=zeroValue334
 t105:=underlying394
 a105:=isAgg394
 z105:=sizeOf394
 v105:=zeroValue394
 t119:=underlying462
 a119:=isAgg462
 z119:=sizeOf462
 t138:=underlying464
 a138:=isAgg464
 z138:=sizeOf464
 v138:=zeroValue464
 t139:=underlying465
 a139:=isAgg465
 z139:=sizeOf465
 v139:=zeroValue465
 t146:=underlying466
 a146:=isAgg466
 z146:=sizeOf466
 v146:=zeroValue466
 g1:=by kernel_rfl
 g3:=by kernel_rfl
 g4:=by kernel_rfl}
open Go.RowKit Go.Lib in
theorem Tryz.strings_Split(a b:ByteArray)(d:Int)(c:World)(i:a.size<4294967281)(h:c.cell? ⟨2,0,none⟩=some (.int .i64 d))(g:1<=b.size):
  Calls prog 101 #[.string a,.string b] c λf e=>
   f=.returned (.slice (some ⟨c.heap.size,0,none⟩) (Lib.countB a b+1) (Lib.countB a b+1))/\e=c.alloc (.cells ((Lib.splitB b 0 (Lib.countB a b) a).map Value.string).toArray 9):=Any.strings_Split Tryz.VU (by kernel_rfl) a b d c i h g
def Tryz.yK:Go.Shelf.Ren:=⟨λ|20=>248|a=>a,λ|22=>30|3=>3|4=>4|0=>0|a=>a,λ|a=>a⟩
theorem Tryz.zD:Go.Proofs.Lays2.n20 prog Tryz.yK:={
 mixed:=by kernel_rfl
 f20:=func248.trans (congrArg some (by kernel_rfl))
 t0:=underlying0
 a0:=isAgg0
 z0:=sizeOf0
 v0:=zeroValue0
 t3:=underlying3
 a3:=isAgg3
 z3:=sizeOf3
 v3:=zeroValue3
 t4:=underlying4
 a4:=isAgg4
 z4:=sizeOf4
 v4:=zeroValue4
 t22:=underlying30
 a22:=isAgg30
 z22:=sizeOf30
 v22:=zeroValue30
 i3:=by kernel_rfl}
open Go.RowKit Go.Lib Go.Sort in
theorem Tryz.slices_Compact_int_empty(a:Option Addr)(b:Nat)(c:World):
  Calls prog 248 #[.slice a 0 b] c λe d=>e=.returned (.slice a 0 b)/\d=c:=Any.slices_Compact_int_empty Tryz.zD a b c
open Go.RowKit Go.Lib Go.Sort in
theorem Tryz.slices_Compact_int_cells(c d a f:Nat)(b:List Int)(e:World)(n:a<=b.length)(i:a<=9223372036854775807)(l:a<=f)(k:∀g,g<b.length->e.cell? ⟨c,d+g,none⟩=some (.int .i64 (b.getD g 0)))(m:∀g,g<a->e.frozen? ⟨c,d+g,none⟩=false):
  Calls prog 248 #[.slice (some ⟨c,d,none⟩) a f] e λh g=>h=.returned (.slice (some ⟨c,d,none⟩) (Lib.compact (b.take a)).length f)/\∃q,g=(e.drewN q).setCells c d ((Lib.compact (b.take a)++List.replicate (a-(Lib.compact (b.take a)).length) 0).map (Value.int .i64)):=Any.slices_Compact_int_cells Tryz.zD c d a f b e n i l k m
open Go.RowKit Go.Sort in
theorem Tryz.slices_Sort_int_none(c:Option Addr)(b:Nat)(a:World):
  Calls prog 140 #[.slice c 0 b] a λe d=>e=.returned (.tuple #[])/\d=a:=Any.slices_Sort_int_none Tryz.Jt c b a
end Go.Proofs
namespace Go.Proofs.YtecdpehmhpleeaaGreatDoor
open Go.RowKit Tryz
set_option linter.unusedVariables false
set_option linter.unusedSimpArgs false
set_option maxRecDepth 100000
set_option maxHeartbeats 16000000
variable{α β:Type}{P:Program}{m q n1 n2 n3 n4 n5:Nat}{W V U w4:World}{x v1 v2 v3 v4:Value}{i1 i2 i3 i4 i5 i6:Int}{t:TypeId}{e p1 p2:List Int}{Q:Exit→Act→World→Prop}{A:Option Addr}{C:World→List Value→α→Prop}{L1:List (List Value)}{X X1:List α}{Y1:List Value}{u u1:List UInt8}{S1:Nat→Prop}{p0 q0:Prop}{B D:List Nat}{a1 a2:Act}{r1:List Oper}{o1:Array Oper}{o2:Oper}{K1:Act→World→Prop}{x1 x2:α}{S2:ByteArray}{f1 f2:Nat×Nat}{e2:Ending}{G:World→Prop}
end Go.Proofs.YtecdpehmhpleeaaGreatDoor
namespace Go.Proofs
open Go.Shelf
def Tryz.ug:Go.Shelf.Ren:=⟨λ|6=>88|15=>143|14=>142|28=>192|29=>193|20=>184|21=>185|22=>186|23=>187|24=>188|25=>189|26=>190|27=>191|46=>238|47=>239|48=>240|49=>241|50=>242|57=>291|a=>a,λ|22=>30|24=>3|25=>227|3=>3|39=>292|0=>0|53=>334|55=>336|4=>4|46=>328|45=>327|50=>185|5=>5|9=>9|66=>388|70=>243|76=>437|77=>399|a=>a,λ|a=>a⟩
theorem Tryz.Au:Go.Proofs.SlLaysF.n6 prog Tryz.ug:={
 mixed:=by kernel_rfl
 f6:=⟨Tryz.f88.name,by decide,func88.trans (congrArg some (by kernel_rfl))⟩
 f14:=⟨Tryz.f142.name,by decide,func142.trans (congrArg some (by kernel_rfl))⟩
 f15:=func143.trans (congrArg some (by kernel_rfl))
 f20:=⟨Tryz.f184.name,by decide,func184.trans (congrArg some (by kernel_rfl))⟩
 f21:=⟨Tryz.f185.name,by decide,func185.trans (congrArg some (by kernel_rfl))⟩
 f22:=⟨Tryz.f186.name,by decide,func186.trans (congrArg some (by kernel_rfl))⟩
 f23:=⟨Tryz.f187.name,by decide,func187.trans (congrArg some (by kernel_rfl))⟩
 f24:=⟨Tryz.f188.name,by decide,func188.trans (congrArg some (by kernel_rfl))⟩
 f25:=⟨Tryz.f189.name,by decide,func189.trans (congrArg some (by kernel_rfl))⟩
 f26:=⟨Tryz.f190.name,by decide,func190.trans (congrArg some (by kernel_rfl))⟩
 f27:=⟨Tryz.f191.name,by decide,func191.trans (congrArg some (by kernel_rfl))⟩
 f28:=func192.trans (congrArg some (by kernel_rfl))
 f29:=func193.trans (congrArg some (by kernel_rfl))
 f46:=⟨Tryz.f238.name,by decide,func238.trans (congrArg some (by kernel_rfl))⟩
 f47:=func239.trans (congrArg some (by kernel_rfl))
 f48:=func240.trans (congrArg some (by kernel_rfl))
 f49:=⟨Tryz.f241.name,by decide,func241.trans (congrArg some (by kernel_rfl))⟩
 f50:=⟨Tryz.f242.name,by decide,func242.trans (congrArg some (by kernel_rfl))⟩
 f57:=⟨Tryz.f291.name,by decide,func291.trans (congrArg some (by kernel_rfl))⟩
 t0:=underlying0
 a0:=isAgg0
 z0:=sizeOf0
 v0:=zeroValue0
 t3:=underlying3
 a3:=isAgg3
 z3:=sizeOf3
 v3:=zeroValue3
 t4:=underlying4
 a4:=isAgg4
 z4:=sizeOf4
 v4:=zeroValue4
 t5:=underlying5
 a5:=isAgg5
 z5:=sizeOf5
 v5:=zeroValue5
 t9:=underlying9
 a9:=isAgg9
 z9:=sizeOf9
 v9:=zeroValue9
 t22:=underlying30
 a22:=isAgg30
 z22:=sizeOf30
 v22:=zeroValue30
 a24:=isAgg3
 z24:=sizeOf3
 t25:=underlying227
 a25:=isAgg227
 z25:=sizeOf227
 v25:=zeroValue227
 t39:=underlying292
 a39:=isAgg292
 z39:=sizeOf292
 v39:=zeroValue292
 t45:=underlying327
 a45:=isAgg327
 z45:=sizeOf327
 v45:=zeroValue327
 t46:=underlying328
 a46:=isAgg328
 z46:=sizeOf328
 v46:=zeroValue328
 t50:=underlying185
 a50:=isAgg185
 z50:=sizeOf185
 v50:=zeroValue185
 t53:=underlying334
 a53:=isAgg334
 z53:=sizeOf334
 v53:=zeroValue334
 t55:=underlying336
 a55:=isAgg336
 z55:=sizeOf336
 v55:=zeroValue336
 t66:=underlying388
 a66:=isAgg388
 z66:=sizeOf388
 v66:=zeroValue388
 t70:=underlying243
 a70:=isAgg243
 z70:=sizeOf243
 v70:=zeroValue243
 t76:=underlying437
 a76:=isAgg437
 z76:=sizeOf437
 v76:=zeroValue437
 t77:=underlying399
 a77:=isAgg399
 z77:=sizeOf399
 v77:=zeroValue399}
open Go.RowKit Go.Lib Go.Sort in
theorem Tryz.slices_SortFunc{g:Type}[Inhabited g](d:g->Value)(p:OneCell d)(h:g->g->Int)(s:SWO (ltOf h))(e:Nat)(i:Array Value)(c f m:Nat)(b:Array g)(a:World)(o:∀l a,(callFunc e l).run prog a=.ok (.enter e l) a)(u:CmpLays1 prog e i d h c f b.size a)(r:Holds d a c f b)(t:c<a.heap.size)(v:b.size<4611686018427387904):
  Calls prog 88 #[.slice (some ⟨c,f,none⟩) b.size m,.func (.func e) #[] i] a λn y=>
   n=.returned (.tuple #[])/\∃k w x,PermIn 0 b.size b k/\SortedIn (ltOf h) 0 b.size k/\y=sortWorld d a c f w k x:=Any.slices_SortFunc Tryz.Au d p h s e i c f m b a o u r t v
end Go.Proofs
namespace Go.Proofs.YtecdpehmhpleeaaGreatDoor
open Go.RowKit Tryz
set_option linter.unusedVariables false
set_option linter.unusedSimpArgs false
set_option maxRecDepth 100000
set_option maxHeartbeats 16000000
variable{α β:Type}{P:Program}{m q n1 n2 n3 n4 n5:Nat}{W V U w4:World}{x v1 v2 v3 v4:Value}{i1 i2 i3 i4 i5 i6:Int}{t:TypeId}{e p1 p2:List Int}{Q:Exit→Act→World→Prop}{A:Option Addr}{C:World→List Value→α→Prop}{L1:List (List Value)}{X X1:List α}{Y1:List Value}{u u1:List UInt8}{S1:Nat→Prop}{p0 q0:Prop}{B D:List Nat}{a1 a2:Act}{r1:List Oper}{o1:Array Oper}{o2:Oper}{K1:Act→World→Prop}{x1 x2:α}{S2:ByteArray}{f1 f2:Nat×Nat}{e2:Ending}{G:World→Prop}
theorem aR.{u}:type_of% @if_neg.{u}:=@if_neg
theorem aS.{u}:type_of% @if_pos.{u}:=@if_pos
theorem bA:type_of% @Bool.and_eq_true:=@Bool.and_eq_true
theorem bQ:type_of% @List.mem_of_getElem?.{0}:=@List.mem_of_getElem?
theorem cA:type_of% @List.length_append.{0}:=@List.length_append
theorem cj:type_of% @List.getElem?_eq_some_iff.{0}:=@List.getElem?_eq_some_iff
theorem cI:type_of% @Option.some.inj.{0}:=@Option.some.inj
theorem bV:type_of% @decide_eq_false:=@decide_eq_false
theorem bW:type_of% @List.length_cons.{0}:=@List.length_cons
theorem bX:type_of% @Nat.le_trans:=@Nat.le_trans
theorem cB:type_of% @List.mem_append.{0}:=@List.mem_append
theorem cF:type_of% @List.getElem?_eq_getElem.{0}:=@List.getElem?_eq_getElem
theorem cD:type_of% @decide_eq_true:=@decide_eq_true
theorem cH.{u,v}:type_of% @congrArg.{u,v}:=@congrArg
theorem cK:type_of% @List.mem_cons.{0}:=@List.mem_cons
theorem cS:type_of% @decide_eq_true_eq:=@decide_eq_true_eq
theorem cX:type_of% @List.mem_singleton.{0}:=@List.mem_singleton
theorem cV:type_of% @List.length_take.{0}:=@List.length_take
theorem de:type_of% @Nat.zero_add:=@Nat.zero_add
theorem dg.{u}:type_of% @forall_eq.{u}:=@forall_eq
theorem dm:type_of% @List.append_assoc.{0}:=@List.append_assoc
theorem di.{u}:type_of% @forall_eq_or_imp.{u}:=@forall_eq_or_imp
theorem dq:type_of% @List.take_of_length_le.{0}:=@List.take_of_length_le
theorem dE:type_of% @List.mem_map.{0,0}:=@List.mem_map
theorem dP:type_of% @Nat.lt_or_ge:=@Nat.lt_or_ge
theorem dN:type_of% @List.length_set.{0}:=@List.length_set
theorem dS:type_of% @Bool.eq_iff_iff:=@Bool.eq_iff_iff
theorem dX.{u}:type_of% @Ne.symm.{u}:=@Ne.symm
theorem dY:type_of% @List.drop_of_length_le.{0}:=@List.drop_of_length_le
theorem ef.{u}:type_of% @beq_iff_eq.{u}:=@beq_iff_eq
theorem eo:type_of% @List.length_map.{0,0}:=@List.length_map
theorem ew:type_of% @Array.getElem?_setIfInBounds_ne.{0}:=@Array.getElem?_setIfInBounds_ne
theorem eC:type_of% @List.mem_range:=@List.mem_range
theorem eN:type_of% @Bool.or_eq_true:=@Bool.or_eq_true
theorem eH:type_of% @List.any_eq_true.{0}:=@List.any_eq_true
theorem eK:type_of% @List.length_singleton.{0}:=@List.length_singleton
theorem eX.{u}:type_of% @if_true.{u}:=@if_true
theorem eW:type_of% @List.nil_append.{0}:=@List.nil_append
theorem fq:type_of% @List.length_nil.{0}:=@List.length_nil
theorem fJ:type_of% @Array.getElem?_eq_some_iff.{0}:=@Array.getElem?_eq_some_iff
theorem fH:type_of% @List.eq_nil_of_length_eq_zero.{0}:=@List.eq_nil_of_length_eq_zero
theorem fN:type_of% @List.getElem?_map.{0,0}:=@List.getElem?_map
theorem fI:type_of% @Nat.add_zero:=@Nat.add_zero
theorem fY:type_of% @List.all_eq_true.{0}:=@List.all_eq_true
theorem gd.{u}:type_of% @bne_iff_ne.{u}:=@bne_iff_ne
theorem fZ:type_of% @Option.some.injEq.{0}:=@Option.some.injEq
theorem gA:type_of% @Nat.mul_one:=@Nat.mul_one
theorem gh:type_of% @Nat.le_of_eq:=@Nat.le_of_eq
theorem gu:type_of% @Int.toNat_natCast:=@Int.toNat_natCast
theorem gW:type_of% @Prod.mk.injEq.{0,0}:=@Prod.mk.injEq
theorem gT:type_of% @and_true:=@and_true
theorem im:type_of% @List.cons_append.{0}:=@List.cons_append
theorem ik:type_of% @List.length_drop.{0}:=@List.length_drop
theorem iK:type_of% @Int.toNat_of_nonneg:=@Int.toNat_of_nonneg
theorem iG.{u}:type_of% @if_false.{u}:=@if_false
theorem jd:type_of% @Nat.lt_of_lt_of_le:=@Nat.lt_of_lt_of_le
theorem jf:type_of% @List.getElem?_append_left.{0}:=@List.getElem?_append_left
theorem iV:type_of% @List.getElem?_append_right.{0}:=@List.getElem?_append_right
theorem jc:type_of% @Nat.eq_zero_or_pos:=@Nat.eq_zero_or_pos
theorem jg:type_of% @List.mem_cons_self.{0}:=@List.mem_cons_self
theorem jh:type_of% @List.mem_cons_of_mem.{0}:=@List.mem_cons_of_mem
theorem iY:type_of% @List.cons.injEq.{0}:=@List.cons.injEq
theorem jw:type_of% @List.getElem?_eq_none.{0}:=@List.getElem?_eq_none
theorem jC:type_of% @List.map_cons.{0,0}:=@List.map_cons
theorem jz:type_of% @Nat.le_succ:=@Nat.le_succ
theorem ju:type_of% @Array.getElem?_eq_getElem.{0}:=@Array.getElem?_eq_getElem
theorem jx:type_of% @Option.getD_some.{0}:=@Option.getD_some
theorem jW:type_of% @List.contains_iff_mem.{0}:=@List.contains_iff_mem
theorem ke:type_of% @List.mem_flatMap.{0,0}:=@List.mem_flatMap
theorem jY:type_of% @Nat.le_refl:=@Nat.le_refl
theorem kc:type_of% @List.getElem?_of_mem.{0}:=@List.getElem?_of_mem
theorem jU:type_of% @List.getElem?_set_self.{0}:=@List.getElem?_set_self
theorem lj:type_of% @Nat.pow_le_pow_right:=@Nat.pow_le_pow_right
theorem ll:type_of% @true_and:=@true_and
theorem lh:type_of% @List.append_nil.{0}:=@List.append_nil
theorem la:type_of% @List.drop_zero.{0}:=@List.drop_zero
theorem kX:type_of% @List.flatMap_cons.{0,0}:=@List.flatMap_cons
theorem kY:type_of% @Nat.le_succ_of_le:=@Nat.le_succ_of_le
theorem mu:type_of% @List.nodup_cons.{0}:=@List.nodup_cons
theorem mf:type_of% @List.foldl_append.{0,0}:=@List.foldl_append
theorem lU:type_of% @List.map_set.{0,0}:=@List.map_set
theorem mq:type_of% @List.drop_eq_nil_of_le.{0}:=@List.drop_eq_nil_of_le
theorem lZ:type_of% @List.all_append.{0}:=@List.all_append
theorem nB:type_of% @Bool.true_and:=@Bool.true_and
theorem oq:type_of% @List.flatten_cons.{0}:=@List.flatten_cons
theorem nY:type_of% @Array.length_toList.{0}:=@Array.length_toList
theorem oa:type_of% @Nat.two_pow_pos:=@Nat.two_pow_pos
theorem nu:type_of% @List.map_nil.{0,0}:=@List.map_nil
theorem ko:type_of% @List.size_toArray.{0}:=@List.size_toArray
theorem kv:type_of% @Bool.false_eq_true:=@Bool.false_eq_true
theorem kC:type_of% @Array.getElem?_eq_none.{0}:=@Array.getElem?_eq_none
theorem kI:type_of% @Array.mk.injEq.{0}:=@Array.mk.injEq
theorem kF:type_of% @Array.ext_getElem?.{0}:=@Array.ext_getElem?
theorem kp:type_of% @Array.getElem?_toList.{0}:=@Array.getElem?_toList
theorem kB:type_of% @List.takeWhile_cons.{0}:=@List.takeWhile_cons
theorem lR:type_of% @Nat.testBit_or:=@Nat.testBit_or
theorem lI:type_of% @Nat.eq_of_testBit_eq:=@Nat.eq_of_testBit_eq
theorem lQ:type_of% @List.getElem?_set_ne.{0}:=@List.getElem?_set_ne
theorem lK:type_of% @Nat.mul_comm:=@Nat.mul_comm
theorem lB:type_of% @List.ext_getElem?.{0}:=@List.ext_getElem?
theorem lM:type_of% @List.all_cons.{0}:=@List.all_cons
theorem lL:type_of% @Array.replicate_succ.{0}:=@Array.replicate_succ
theorem lz:type_of% @Array.replicate_zero.{0}:=@Array.replicate_zero
theorem lE:type_of% @List.push_toArray.{0}:=@List.push_toArray
theorem lF:type_of% @List.append_toArray.{0}:=@List.append_toArray
theorem lG:type_of% @List.all_eq_false.{0}:=@List.all_eq_false
theorem lT:type_of% @List.mem_or_eq_of_mem_set.{0}:=@List.mem_or_eq_of_mem_set
theorem lN:type_of% @Nat.not_le_of_lt:=@Nat.not_le_of_lt
theorem nV:type_of% @Classical.byContradiction:=@Classical.byContradiction
theorem nT:type_of% @Nat.add_assoc:=@Nat.add_assoc
theorem nC:type_of% @Nat.succ_mul:=@Nat.succ_mul
theorem oz:type_of% @List.take_length.{0}:=@List.take_length
theorem nE:type_of% @List.range_succ:=@List.range_succ
theorem nO:type_of% @List.map_append.{0,0}:=@List.map_append
theorem nR:type_of% @List.drop_eq_getElem_cons.{0}:=@List.drop_eq_getElem_cons
theorem ny:type_of% @List.flatMap_append.{0,0}:=@List.flatMap_append
theorem nU:type_of% @Option.isSome_some.{0}:=@Option.isSome_some
theorem nQ:type_of% @Array.getElem?_setIfInBounds_self.{0}:=@Array.getElem?_setIfInBounds_self
theorem qh:type_of% @Bool.not_eq_true':=@Bool.not_eq_true'
theorem pF:type_of% @List.take_append_of_le_length.{0}:=@List.take_append_of_le_length
theorem pD:type_of% @Nat.or_lt_two_pow:=@Nat.or_lt_two_pow
theorem qg:type_of% @List.filter_cons.{0}:=@List.filter_cons
theorem pZ:type_of% @List.length_filter_le.{0}:=@List.length_filter_le
theorem pR:type_of% @List.map_congr_left.{0,0}:=@List.map_congr_left
theorem pQ:type_of% @List.foldl_cons.{0,0}:=@List.foldl_cons
theorem pz:type_of% @Bool.false_ne_true:=@Bool.false_ne_true
theorem pG:type_of% @Int.le_refl:=@Int.le_refl
theorem pY:type_of% @Option.getD_none.{0}:=@Option.getD_none
theorem qu:type_of% @Option.isSome_none.{0}:=@Option.isSome_none
theorem qt:type_of% @List.getElem?_drop.{0}:=@List.getElem?_drop
theorem pP:type_of% @Array.getElem?_setIfInBounds.{0}:=@Array.getElem?_setIfInBounds
theorem pE:type_of% @UInt8.toNat_inj:=@UInt8.toNat_inj
theorem sG:type_of% @Nat.testBit_two_pow:=@Nat.testBit_two_pow
theorem rT:type_of% @List.take_append_drop.{0}:=@List.take_append_drop
theorem tp:type_of% @List.mem_filterMap.{0,0}:=@List.mem_filterMap
theorem sM:type_of% @List.set_cons_succ.{0}:=@List.set_cons_succ
theorem sX:type_of% @Nat.testBit_and:=@Nat.testBit_and
theorem ti:type_of% @Nat.zero_testBit:=@Nat.zero_testBit
theorem sV:type_of% @List.singleton_append.{0}:=@List.singleton_append
theorem rM:type_of% @Option.map_some.{0,0}:=@Option.map_some
theorem rZ:type_of% @List.find?_cons.{0}:=@List.find?_cons
theorem rR.{u}:type_of% @beq_eq_false_iff_ne.{u}:=@beq_eq_false_iff_ne
theorem rP:type_of% @Nat.min_eq_left:=@Nat.min_eq_left
theorem tA:type_of% @Array.size_modify.{0}:=@Array.size_modify
theorem sF:type_of% @List.replicate_succ.{0}:=@List.replicate_succ
theorem sJ:type_of% @List.getElem?_toArray.{0}:=@List.getElem?_toArray
theorem re:type_of% @of_decide_eq_true:=@of_decide_eq_true
theorem vB:type_of% @Array.getElem?_modify.{0}:=@Array.getElem?_modify
theorem vJ:type_of% @List.set_append_right.{0}:=@List.set_append_right
theorem vD:type_of% @List.filter_eq_nil_iff.{0}:=@List.filter_eq_nil_iff
theorem vG:type_of% @Array.getElem?_setIfInBounds_self_of_lt.{0}:=@Array.getElem?_setIfInBounds_self_of_lt
theorem vv:type_of% @List.length_mergeSort.{0}:=@List.length_mergeSort
theorem vN:type_of% @List.getElem?_take_of_lt.{0}:=@List.getElem?_take_of_lt
theorem vA:type_of% @Option.map_eq_some_iff.{0,0}:=@Option.map_eq_some_iff
theorem vM:type_of% @List.head?_eq_getElem?.{0}:=@List.head?_eq_getElem?
theorem vF:type_of% @List.getElem?_cons_zero.{0}:=@List.getElem?_cons_zero
structure Tk where
 k:T
 f:T
deriving DecidableEq
structure Tn where
 s:T
 w:L T
 r:L Tk
deriving DecidableEq
abbrev Hs:=L Tn
structure Ch where
 k:T
 a:T
 b:T
deriving DecidableEq
def Ch.back(a:Ch):Ch:=⟨a.k,a.b,a.a⟩
structure Fc where
 c:Ch
 kind:T
 i:T
 j:T
 cy:L T
deriving DecidableEq
structure Nd where
 c:Ch
 cy:L T
deriving DecidableEq
structure Mk where
 c:Ch
 rt:κ
 dn:L Nd
deriving DecidableEq
def tx(a:Hs)(b:T):Tn:=a.getD b.toNat ⟨0,[],[]⟩
def py(yH:T):T->L T->κ
 |_,[]=>γ
 |last,a::b=>(decide (last<a)&&decide (a<yH))&&py yH a b
def gH(b:Hs)(c:E)(a:Tk):κ:=a.f== -1||((decide (0<=a.f)&&decide (a.f<(b.length:T)))&&a.f !=(c:T)&&(tx b a.f).w.contains a.k)
def lX(b:Hs)(c:E):T->L Tk->κ
 |_,[]=>γ
 |last,a::d=>(decide (last<a.k)&&decide (a.k<16)&&gH b c a)&&lX b c a.k d
def tR(b:Hs)(c:E)(a:Tn):κ:=py 16 (-1) a.w&&lX b c (-1) a.r&&(decide (0<=a.s)&&decide (a.s<8))
def qC(a:Hs):E->L Tn->κ
 |_,[]=>γ
 |n,b::c=>tR a n b&&qC a (n+1) c
def bm(a:Hs):κ:=decide (a.length<=32)&&qC a 0 a
theorem zk(b):∀(c:L Tn)(d:E),qC b d c=γ↔∀(a:E)(e:Tn),c[a]? =S e->tR b (d+a) e=γ
 |[],a=>by simp[qC]
 |g::f,a=>by
  rw[qC,bA,zk b f (a+1)];constructor
  .rintro⟨d,e⟩ f h b
   match f,b with
   |0,c=>simp at c;subst c;simpa using d
   |b+1,c=>have:=e b h (by simpa using c);rwa[show a+(b+1)=a+1+b from by omega]
  intro c;exact⟨by simpa using c 0 g Y,λb e d=>by have:=c (b+1) e (by simpa using d);rwa[show a+1+b=a+(b+1) from by omega]⟩
theorem bK{a:Hs}(b:bm a=γ):a.length<=32:=by simp[bm] at b;exact b.1
theorem pW{a:Hs}(d:bm a=γ){b:E}{c:Tn}(e:a[b]? =S c):tR a b c=γ:=by
 simp only[bm,bA] at d
 have:=(zk a a 0).1 d.2 b c e;rwa[de] at this
theorem zv{yH:T}:∀{a:L T}{b:T},py yH b a=γ->∀c∈a,b<c/\c<yH
 |[],_,_,b,a=>by cases a
 |y::f,e,a,d,b=>by
  simp only[py,bA,cS] at a;rcases cK.1 b with rfl|c
  .exact a.1
  have:=zv a.2 d c;omega
theorem zN{b:Hs}{e:E}:∀{c:L Tk}{d:T},lX b e d c=γ->∀a∈c,d<a.k/\a.k<16/\gH b e a=γ
 |[],_,_,b,a=>by cases a
 |y::f,e,a,d,b=>by
  simp only[lX,bA,cS] at a;rcases cK.1 b with rfl|c
  .exact⟨a.1.1.1,a.1.1.2,a.1.2⟩
  have:=zN a.2 d c;exact⟨by omega,by omega,this.2.2⟩
theorem iJ{a:Hs}{b:E}{c:Tn}(d:a[b]? =S c):tx a (b:T)=c:=by simp[tx,L.getD,d]
theorem BJ{b:Hs}{a:T}(c:0<=a)(c:a<(b.length:T)):b[a.toNat]? =S (tx b a):=by
 have:a.toNat<b.length:=by omega
 simp[tx,L.getD,this]
theorem rQ{a:Hs}(d:bm a=γ){t:T}(b:0<=t)(c:t<(a.length:T)):tR a t.toNat (tx a t)=γ:=pW d (BJ b c)
theorem jO{a:Hs}(e:bm a=γ){t:T}(b:0<=t)(c:t<(a.length:T)){k:T}(d:k∈(tx a t).w):0<=k/\k<16:=by
 have:=rQ e b c;simp only[tR,bA] at this
 have:=zv this.1.1 k d;omega
theorem js{a:Hs}(d:bm a=γ){t:T}(b:0<=t)(c:t<(a.length:T)){x:Tk}(e:x∈(tx a t).r):0<=x.k/\x.k<16/\(x.f= -1\/(0<=x.f/\x.f<(a.length:T)/\x.f≠t/\x.k∈(tx a x.f).w)):=by
 have:=rQ d b c;simp only[tR,bA] at this;have a:=zN this.1.2 x e;refine⟨by omega,by omega,?_⟩;have a:=a.2.2;simp only[gH,eN,bA,ef,gd,cS,jW] at a;rcases a with a|a
 .exact .inl a
 exact .inr ⟨a.1.1.1,a.1.1.2,by omega,a.2⟩
def kN(b:Hs)(a:T):κ:=decide (0<=a)&&decide (a<(b.length:T))
def fG(a:Hs)(b c:T):κ:=kN a b&&(tx a b).w.contains c
def dA(b:Hs)(a:Ch):κ:=a.a !=a.b&&fG b a.a a.k&&fG b a.b a.k
def IP(a:Hs)(b c:T):κ:=decide (b<c)&&(tx a b).s==(tx a c).s
def rdB(a:Hs)(b c:T):κ:=(tx a c).r.any (λa=>a.f==b)
def wwB(d:Hs)(a:L Ch)(b c:T):κ:=a.any (λa=>a.a==b&&a.b==c&&b !=c&&(tx d b).w.contains a.k&&(tx d c).w.contains a.k)
def ovB(c:Hs)(d:L Ch)(a b:T):κ:=a !=b&&(tx c a).r.any (λa=>(tx c b).w.contains a.k&&(decide (a.f<0)||a.f !=b&&d.contains ⟨a.k,a.f,b⟩))
def qy(a:Hs)(d:L Ch)(b c:T):κ:=(bm a&&kN a b&&kN a c)&&(IP a b c||rdB a b c||wwB a d b c)
def yd(a:Hs)(d:L Ch)(b c:T):κ:=(bm a&&kN a b&&kN a c)&&ovB a d b c
def Gd(a:Hs)(d:T)(b:L Ch)(e c:T):κ:=
 if d=0 then qy a b e c||yd a b e c
 else if d=1 then(L.range a.length).any (λd=>qy a b e (d:E)&&((d:T)==c||yd a b (d:E) c))
 else δ
def xD(b:Hs)(d:T)(c:L Ch)(row:L T):κ:=
 (L.range row.length).all (λa=>!(row.take a).contains (row.getD a 0)&&Gd b d c (row.getD a 0) (row.getD ((a+1) % row.length) 0))&&decide (0<row.length)
def ep(a:T):κ:=a==0||a==1
def UZ(b:Hs)(a:Fc):κ:=a.i==0&&a.j==0&&qy b [] a.c.a a.c.b
def yM(b:L Fc)(a:Fc):κ:=
 match b[a.i.toNat]?,b[a.j.toNat]? with
 |some b,S c=>decide (0<=a.i)&&decide (0<=a.j)&&(b.c.b==c.c.a&&b.c.k==c.c.k&&a.c==⟨b.c.k,b.c.a,c.c.b⟩)
 |_,_=>δ
def Mh(b:Hs)(a:Fc):κ:=a.j==0&&a.i !=a.c.a&&kN b a.i&&(tx b a.i).r.contains ⟨a.c.k,a.c.b⟩&&qy b [] a.c.a a.i
def fe(a:L Fc):L Ch:=a.map (·.c)
def Rt(b:Hs)(d:T)(c:L Fc)(a:Fc):κ:=a.i==0&&a.j==0&&xD b d (fe c++[a.c.back]) a.cy
def oZ(b:Hs)(d:T)(c:L Fc)(a:Fc):κ:=
 (bm b&&ep d)&&dA b a.c&&!(a.kind !=4&&decide (0<a.cy.length))&&
  (if a.kind=1 then UZ b a else if a.kind=2 then yM c a else if a.kind=3 then Mh b a else if a.kind=4 then Rt b d c a else δ)
def jN(b:Hs)(c:T):L Fc->L Fc->κ
 |_,[]=>γ
 |pre,a::d=>oZ b c pre a&&jN b c (pre++[a]) d
def iu(a:Hs)(b:T)(c:L Fc):κ:=jN a b [] c&&(bm a&&ep b)
inductive Tr where
 |leaf (n:Nd)
 |br (n:Nd) (a b:Tr)
def Tr.flat:Tr->L Nd
 |.leaf a=>[a]
 |.br c a b=>c::(a.flat++b.flat)
def Tr.wu:Tr->κ
 |.leaf a=>decide (0<a.cy.length)
 |.br c a b=>c.cy.length==0&&a.wu&&b.wu
def Tr.deep:Tr->E
 |.leaf _=>0
 |.br _ a b=>1+max a.deep b.deep
def Tr.leaves:Tr->E
 |.leaf _=>1
 |.br _ a b=>a.leaves+b.leaves
def ze:E->L Nd->ι (Tr×L Nd)
 |0,_=>η
 |_+1,[]=>η
 |m+1,n::r=>if 0<n.cy.length then S (.leaf n,r) else
  match ze m r with
  |none=>η
  |some (a,b)=>match ze m b with
   |none=>η
   |some (b,c)=>S (.br n a b,c)
def qO(a:Hs)(b:T):L Ch->Tr->κ
 |l,.leaf c=>c.c==⟨0,0,0⟩&&xD a b l c.cy
 |l,.br c d e=>qO a b (l++[c.c]) d&&qO a b (l++[c.c.back]) e&&dA a c.c
def ud(a:Hs)(b:T)(d:L Ch)(c:L Nd):κ:=
 match ze (c.length+1) c with
 |some (c,[])=>(bm a&&ep b)&&qO a b d c
 |_=>δ
theorem pj:∀(b:E)(e:L Nd)(a:Tr)(c:L Nd),ze b e=S (a,c)->e=a.flat++c/\a.wu=γ
 |0,e,a,c,h=>by simp[ze] at h
 |b+1,[],a,c,h=>by simp[ze] at h
 |b+1,n::q,a,c,h=>by
  rw[ze] at h;split at h
  .rename_i d
   simp at h;obtain⟨rfl,rfl⟩:=h;exact⟨Y,by simpa[Tr.wu] using d⟩
  rename_i d;split at h
  .cases h
  rename_i g f p;split at h
  .cases h
  rename_i i s r;simp at h;obtain⟨rfl,rfl⟩:=h;obtain⟨k,m⟩:=pj b q g f p;obtain⟨l,o⟩:=pj b f i s r;subst l k;exact⟨by simp[Tr.flat],by simp[Tr.wu,m,o];simpa using d⟩
structure Xt(h:Hs)(T:Ch->Prop):Prop where
 Vs:∀c,T c->dA h c=γ
 all:∀c,dA h c=γ->T c\/T c.back
def DT(a:Hs)(d:Ch->Prop)(b c:T):Prop:=(kN a b=γ/\kN a c=γ)/\(IP a b c=γ\/rdB a b c=γ\/∃a,d ⟨a,b,c⟩)
def OT(a:Hs)(e:Ch->Prop)(d c:T):Prop:=(kN a d=γ/\kN a c=γ)/\d≠c/\∃b∈(tx a d).r,b.k∈(tx a c).w/\(b.f<0\/e ⟨b.k,b.f,c⟩)
def FT(b:Hs)(a:Ch->Prop)(e:T)(c d:T):Prop:=if e=0 then DT b a c d\/OT b a c d else DT b a c d\/∃e,DT b a c e/\OT b a e d
inductive Tc {α:Type} (R:α->α->Prop):α->α->Prop
 |one {x y:α}:R x y->Tc R x y
 |more {x y z:α}:Tc R x y->R y z->Tc R x z
theorem Tc.trans{b:Type}{a:b->b->Prop}{c d e:b}(f:Tc a c d)(g:Tc a d e):Tc a c e:=by
 induction g with
 |one a=>exact .more f a
 |more _ b a=>exact .more a b
theorem Tc.mono{a:Type}{b c:a->a->Prop}(d:∀e f,b e f->Tc c e f){e f:a}(g:Tc b e f):Tc c e f:=by
 induction g with
 |one a=>exact d _ _ a
 |more _ b a=>exact a.trans (d _ _ b)
def tE{a:Type}(b:a->a->Prop):Prop:=∀a,¬Tc b a a
theorem tE.sub{c:Type}{a b:c->c->Prop}(e:tE b)(f:∀c d,a c d->Tc b c d):tE a:=λb a=>e b (a.mono f)
def Kw(b:Hs)(c:T):Prop:=∃a,Xt b a/\tE (FT b a c)
theorem Hq{a:Hs}(b:Kw a 0):Kw a 1:=by
 obtain⟨a,hw,b⟩:=b;refine⟨a,hw,b.sub λa b a=> ?_⟩;simp only[FT] at a;rw[aR (by decide)] at a;rcases a with a|⟨d,b,c⟩
 .exact .one (by simp only[FT,eX];exact .inl a)
 exact .more (.one (by simp only[FT,eX];exact .inl b)) (by simp only[FT,eX];exact .inr c)
theorem zJ{b:Hs}{a:Ch->Prop}{f c d:T}(e:DT b a c d):FT b a f c d:=by
 unfold FT;split<;>exact .inl e
theorem rV{b:Hs}{c:Ch->Prop}{h:L Ch}(m:∀a∈h,dA b a=γ->c a){i k:T}(e:qy b h i k=γ):DT b c i k:=by
 simp only[qy,bA,eN] at e;obtain⟨⟨⟨c,f⟩,g⟩,b⟩:=e;refine⟨⟨f,g⟩,?_⟩;rcases b with(a|a)|a
 .exact .inl a
 .exact .inr (.inl a)
 refine .inr (.inr ?_);simp only[wwB,eH,bA,ef] at a;obtain⟨d,l,⟨⟨⟨rfl,rfl⟩,n⟩,o⟩,p⟩:=a;exact⟨d.k,m d l (by simp only[dA,fG,bA];exact⟨⟨n,f,o⟩,g,p⟩)⟩
theorem Ki{a:Hs}{b:Ch->Prop}{d:L Ch}(h:∀c∈d,dA a c=γ->b c){e f:T}(c:yd a d e f=γ):OT a b e f:=by
 simp only[yd,ovB,bA,eH,gd] at c;obtain⟨⟨⟨i,f⟩,b⟩,g,k,d,e,c⟩:=c;have a:=f;simp only[kN,bA,cS] at a;obtain⟨_,_,a⟩:=js i a.1 a.2 d;refine⟨⟨f,b⟩,g,k,d,by simpa using e,?_⟩;simp only[eN,bA,cS,gd,jW] at c;rcases c with c|⟨f,g⟩
 .exact .inl c
 rcases a with i|⟨a,c,k,d⟩
 .exact .inl (by omega)
 refine .inr (h _ g ?_);simp only[dA,fG,kN,bA,gd,cS,jW];simp only[kN,bA,cS] at b;exact⟨⟨f,⟨a,c⟩,d⟩,b,by simpa using e⟩
theorem abx{e:Hs}{f:Ch->Prop}{i:L Ch}(c:∀g∈i,dA e g=γ->f g){k l m:T}(a:Gd e k i l m=γ):FT e f k l m:=by
 unfold Gd at a;unfold FT;split at a
 .rename_i d
  rw[aS d];rcases eN _ _▸a with a|a
  .exact .inl (rV c a)
  exact .inr (Ki c a)
 rename_i d;rw[aR d];split at a
 .simp only[eH,bA,eN,ef] at a
  obtain⟨n,_,h,b⟩:=a;rcases b with b|b
  .subst b;exact .inl (rV c h)
  exact .inr ⟨_,rV c h,Ki c b⟩
 cases a
theorem Sc{a:T->T->Prop}{row:L T}(d:∀b,b<row.length->a (row.getD b 0) (row.getD ((b+1) % row.length) 0))(f:0<row.length):Tc a (row.getD 0 0) (row.getD 0 0):=by
 have g:∀b,b<row.length->b=0\/Tc a (row.getD 0 0) (row.getD b 0):=by
  intro e;induction e with
  |zero=>intro _;exact .inl Y
  |succ f e=>
   intro a;right;have b:=d f (by omega);rw[E.mod_eq_of_lt a] at b;rcases e (by omega) with c|c
   .subst c;exact .one b
   exact .more c b
 have a:=d (row.length-1) (by omega);rw[show row.length-1+1=row.length from by omega,E.mod_self] at a;rcases g (row.length-1) (by omega) with b|b
 .rw[b] at a;exact .one a
 exact .more b a
theorem Jy{a:Hs}{T:Ch->Prop}{c:L Ch}(e:∀b∈c,dA a b=γ->T b){d:Int}{row:L Int}(b:xD a d c row=γ):¬tE (FT a T d):=λa=>by
 simp only[xD,bA,fY,cS,eC] at b;exact a _ (Sc (λc a=>abx e (b.1 c a).2) b.2)
theorem NY{e:Hs}{c:Ch->Prop}(hw:Xt e c){n:Int}(s:ep n=γ)(i:tE (FT e c n)){t:L Fc}(m:∀a∈t,c a.c){a:Fc}(r:oZ e n t a=γ):c a.c:=by
 simp only[oZ,bA] at r;obtain⟨⟨⟨⟨V,_⟩,D⟩,_⟩,b⟩:=r;rcases hw.all a.c D with f|f
 .exact f
 exfalso;split at b
 .simp only[UZ,bA] at b
  have d:DT e c a.c.a a.c.b:=rV (by simp) b.2;have h:DT e c a.c.b a.c.a:=⟨⟨d.1.2,d.1.1⟩,.inr (.inr ⟨_,f⟩)⟩;exact i _ (.more (.one (zJ d)) (zJ h))
 split at b
 .unfold yM at b
  split at b
  .rename_i k l K P
   simp only[bA,ef] at b;obtain⟨_,⟨y,R⟩,z⟩:=b;have tx:=m k (bQ K);have w:=m l (bQ P);have o:=hw.Vs _ tx;have p:=hw.Vs _ w;simp only[dA,fG,bA] at o p;have d:DT e c k.c.a k.c.b:=⟨⟨o.1.2.1,o.2.1⟩,.inr (.inr ⟨_,tx⟩)⟩;have h:DT e c l.c.a l.c.b:=⟨⟨p.1.2.1,p.2.1⟩,.inr (.inr ⟨_,w⟩)⟩;rw[<-y] at h;rw[z] at f;have x:DT e c l.c.b k.c.a:=⟨⟨h.1.2,d.1.1⟩,.inr (.inr ⟨_,f⟩)⟩;exact i _ (.more (.more (.one (zJ d)) (zJ h)) (zJ x))
  cases b
 split at b
 .simp only[Mh,bA,gd] at b
  obtain⟨⟨⟨⟨_,F⟩,U⟩,G⟩,B⟩:=b;have d:DT e c a.c.a a.i:=rV (by simp) B;have u:=hw.Vs _ f;simp only[dA,fG,Ch.back,bA] at u;have v:OT e c a.i a.c.a:=⟨⟨d.1.2,d.1.1⟩,F,⟨a.c.k,a.c.b⟩,by simpa using G,by simpa using u.2.2,.inr f⟩;simp only[ep,eN,ef] at s;rcases s with rfl|rfl
  .refine i a.c.a (.more (.one (zJ d)) ?_)
   simp only[FT,eX];exact .inr v
  refine i a.c.a (.one ?_);simp only[FT];rw[aR (by decide)];exact .inr ⟨_,d,v⟩
 split at b
 .simp only[Rt,bA] at b
  refine Jy (T:=c) (λQ g _=> ?_) b.2 i;rcases cB.1 g with g|g
  .obtain⟨A,C,rfl⟩:=dE.1 g
   exact m A C
  simp at g;subst g;exact f
 cases b
theorem uR{c:Hs}{b:Ch->Prop}(hw:Xt c b){e:T}(i:ep e=γ)(f:tE (FT c b e)):∀(a d:L Fc),(∀h∈d,b h.c)->jN c e d a=γ->∀c∈a,b c.c
 |[],_,_,_,b,a=>by cases a
 |g::m,o,k,d,l,b=>by
  simp only[jN,bA] at d;have h:=NY hw i f k d.1;rcases cK.1 b with rfl|n
  .exact h
  refine uR hw i f m (o++[g]) (λb a=> ?_) d.2 l n;rcases cB.1 a with a|a
  .exact k b a
  simp at a;subst a;exact h
theorem Mr{b:Hs}{a:Ch->Prop}(hw:Xt b a){e:T}(f:tE (FT b a e)){d:L Fc}(c:iu b e d=γ):∀b∈d,a b.c:=by
 simp only[iu,bA] at c;exact uR hw c.2.2 f d [] (by simp) c.1
theorem vx{b:Hs}{a:Ch->Prop}(hw:Xt b a){d:T}(f:tE (FT b a d)){c:L Fc}(i:iu b d c=γ):∀b∈fe c,a b:=λa g=>by
 obtain⟨e,h,rfl⟩:=dE.1 g;exact Mr hw f i e h
theorem tT{d:Hs}{a:Ch->Prop}(hw:Xt d a){f:T}(e:tE (FT d a f)):∀(g:Tr)(b:L Ch),(∀c∈b,a c)->¬qO d f b g=γ
 |.leaf d,c,f,b=>by
  simp only[qO,bA] at b;exact Jy (λc d _=>f c d) b.2 e
 |.br m h i,l,f,c=>by
  simp only[qO,bA] at c;have g:∀b,a b->∀d∈l++[b],a d:=λl k a d=>by
   rcases cB.1 d with b|b
   .exact f a b
   simp at b;subst b;exact k
  rcases hw.all m.c c.2 with a|a
  .exact tT hw e h _ (g _ a) c.1.1
  exact tT hw e i _ (g _ a) c.1.2
theorem Nb{c:Hs}{b:Ch->Prop}(hw:Xt c b){d:T}(e:tE (FT c b d)){l:L Ch}(f:∀a∈l,b a){b:L Nd}:¬ud c d l b=γ:=λa=>by
 unfold ud at a;split at a
 .simp only[bA] at a
  exact tT hw e _ l f a.2
 cases a
def Mk.yG(a:Mk):Ch:=if a.rt then a.c.back else a.c
def iq(b:Hs)(c:T):L Ch->L Ch->L Mk->κ
 |_,_,[]=>γ
 |known,row,a::d=>(!known.contains a.c&&dA b a.c)&&!(!a.rt&&decide (0<a.dn.length)||a.rt&&!ud b c (row++[a.c]) a.dn)&&iq b c (a.c::a.c.back::known) (row++[a.yG]) d
theorem uD{d:Hs}{b:Ch->Prop}(hw:Xt d b){l:T}(g:tE (FT d b l)):∀(a:L Mk)(e row:L Ch),(∀c∈row,b c)->iq d l e row a=γ->(∀d∈a,d.rt=γ)->∀d∈a,b d.yG
 |[],_,_,_,_,_,d,a=>by cases a
 |x::r,l,row,h,d,i,p,m=>by
  simp only[iq,bA] at d;obtain⟨⟨⟨_,l⟩,d⟩,o⟩:=d;have k:=i x (by simp);rw[k] at d;simp at d;have f:b x.c.back:=by
   rcases hw.all x.c l with e|e
   .refine(Nb hw g (l:=row++[x.c]) (λc a=> ?_) d).elim
    rcases cB.1 a with a|a
    .exact h c a
    simp at a;subst a;exact e
   exact e
  have e:x.yG=x.c.back:=by simp[Mk.yG,k]
  rcases cK.1 m with rfl|n
  .rw[e];exact f
  refine uD hw g r _ _ (λc a=> ?_) o (λd b=>i d (by simp[b])) p n;rcases cB.1 a with a|a
  .exact h c a
  simp at a;subst a;rw[e];exact f
variable{K:List Ch}{F:List Fc}{c3:Ch}{m1:List Mk}{N1:List Nd}
def tv:E->(E->κ)->E
 |0,_=>0
 |n+1,p=>tv n p|||(if p n then 2 ^ n else 0)
theorem bR(c a):∀b,(tv b c).testBit a=(decide (a<b)&&c a)
 |0=>by simp[tv]
 |b+1=>by
  rw[tv,lR,bR c a b];by_cases d:a=b
  .subst d
   cases e:c a<;>simp
  have e:decide (a<b+1)=decide (a<b):=by rw[decide_eq_decide];omega
  have f:(if c b=γ then 2 ^ b else 0).testBit a=δ:=by
   split
   .rw[sG];simpa using λa=>d a.symm
   simp
  rw[e,f,κ.or_false]
theorem lJ(b a):tv a b<2 ^ a:=E.lt_pow_two_of_testBit _ (λb a=>by rw[bR];simp;omega)
theorem dW{p:E->κ}{a:E}(b:a<=64):tv a p<18446744073709551616:=jd (lJ p a) (lj (by decide) b)
theorem Iz{d b:E}(e:d<2 ^ b){a:E}(c:d.testBit a=γ):a<b:=by
 rcases dP a b with a|a
 .exact a
 rw[E.testBit_lt_two_pow (jd e (lj (by decide) a))] at c;cases c
theorem gU{c q:E->κ}{a:E}(d:∀b,b<a->c b=q b):tv a c=tv a q:=lI λb=>by
 rw[bR,bR];by_cases a:b<a
 .rw[d b a]
 simp[a]
theorem Wt(c q b):tv b c|||tv b q=tv b (λa=>c a||q a):=lI λa=>by
 rw[lR,bR,bR,bR];by_cases c:a<b<;>simp[c]
theorem zS{n:E}:tv n (λ_=>δ)=0:=lI λa=>by rw[bR];simp
def cJ(a:E):L E:=(L.range 64).filter a.testBit
theorem jy{b a:E}:a∈cJ b↔a<64/\b.testBit a=γ:=by simp[cJ]
def Fb(b c:E):κ:=(L.range 64).all (λa=>!b.testBit a||c.testBit a)
theorem sm{b c:E}:Fb b c=γ↔∀a,a<64->b.testBit a=γ->c.testBit a=γ:=by
 simp only[Fb,fY,eC,eN,qh];constructor
 .intro c f e d
  rcases c f e with a|a
  .rw[d] at a;cases a
  exact a
 intro d a f;cases e:b.testBit a
 .exact .inl Y
 exact .inr (d a f e)
abbrev Rl:=E->E->κ
def row(b:E)(a:Rl)(c:E):E:=tv b (a c)
def bF(a:E)(b:Rl):L E:=(L.range a).map (row a b)
def eA(a:Rl):Rl:=λb c=>a c b
def Eg(a:E)(d:Rl)(b c:E):Prop:=b<a/\c<a/\d b c=γ
def zT(b:E)(d:Rl)(c:E):ι E:=(L.range b).find? (λa=>!c.testBit a&&Fb (row b (eA d) a) c)
def OH(c:E)(a:Rl):E->E->L E->ι (L E)
 |0,_,out=>S out
 |m+1,seen,out=>match zT c a seen with
  |none=>η
  |some b=>OH c a m (seen|||2 ^ b) (out++[b])
def je(a:E)(b:Rl):ι (L E):=OH a b a 0 []
theorem Rn{d:Type}{c:d->d->Prop}(b:d->E)(e:∀a d,c a d->b a<b d):tE c:=λa f=>by
 have h:∀a d,Tc c a d->b a<b d:=λa b g=>by
  induction g with
  |one b=>exact e _ _ b
  |more _ c b=>exact E.lt_trans b (e _ _ c)
 exact E.lt_irrefl _ (h a a f)
structure VD(n:E)(f:Rl)(seen:E)(out:L E):Prop where
 mem:∀i,seen.testBit i=γ↔i∈out
 lt:∀i∈out,i<n
 nd:out.Nodup
 back:∀(k i:E),out[k]? =S i->∀x,x<n->f x i=γ->x∈out.take k
theorem VD.nil(b a):VD b a 0 []:=⟨by simp,by simp,by simp,by simp⟩
theorem xh{d:E}{f:Rl}{e a:E}(c:zT d f e=S a):a<d/\e.testBit a=δ/\∀b,b<d->f b a=γ->b<64->e.testBit b=γ:=by
 unfold zT at c;have a:=L.find?_some c;have b:=L.mem_of_find?_eq_some c;simp only[bA,qh,eC] at a b;refine⟨b,a.1,λe d c b=>(sm.1 a.2) e b ?_⟩;rw[row,bR];simp[d,eA,c]
theorem VD.step{d:E}{g:Rl}{i h:E}{c:L E}(v:d<=64)(b:VD d g i c)(v:zT d g i=S h):VD d g (i|||2 ^ h) (c++[h]):=by
 obtain⟨d,l,s⟩:=xh v;refine⟨λe=> ?_,λe d=> ?_,?_,λf e a k o n=> ?_⟩
 .rw[lR,sG,eN,cS,b.mem e,cB,cX]
  exact or_congr Iff.rfl eq_comm
 .rcases cB.1 d with d|d
  .exact b.lt e d
  simp at d;omega
 .rw[L.nodup_append]
  refine⟨b.nd,by simp,λp t d m r=> ?_⟩;simp at m;subst m r;rw[(b.mem p).2 t] at l;cases l
 rcases dP f c.length with d|d
 .rw[jf d] at a
  rw[pF (by omega)];exact b.back f e a k o n
 rw[iV d] at a;have u:f-c.length=0:=by
  rcases jc (f-c.length) with d|d
  .exact d
  rw[jw (by simp;omega)] at a;cases a
 rw[u] at a;simp at a;subst a;rw[show f=c.length from by omega,L.take_left']
 .exact(b.mem k).1 (s k o n (by omega))
 rfl
theorem Eu{d:E}{f:Rl}(g:d<=64):∀(c e:E)(b a:L E),VD d f e b->OH d f c e b=S a->(∃m,VD d f m a)/\a.length=b.length+c
 |0,e,b,a,h,ht=>by simp[OH] at ht;subst ht;exact⟨⟨_,h⟩,Y⟩
 |c+1,e,b,a,h,ht=>by
  rw[OH] at ht;split at ht
  .cases ht
  rename_i n l;obtain⟨i,k⟩:=Eu g c _ _ a (h.step g l) ht;exact⟨i,by rw[k];simp;omega⟩
theorem jj:∀(b:E)(a:L E),a.Nodup->(∀c∈a,c<b)->b<=a.length->∀c,c<b->c∈a
 |0,_,_,_,_,b,a=>by omega
 |a+1,d,hd,hlt,hlen,g,m=>by
  by_cases c:a∈d
  .by_cases e:g=a
   .subst e;exact c
   have h:=jj a (d.erase a) (hd.erase a) (λe b=>by
    (have:=hlt e (L.mem_of_mem_erase b);have:e≠a:=λf=>by subst f;exact(L.Nodup.not_mem_erase hd) b);omega) (by rw[L.length_erase_of_mem c];omega) g (by omega)
   exact L.mem_of_mem_erase h
  cases d with
  |nil=>simp at hlen
  |cons b e=>
   have l:∀d,d<a->d∈b::e:=λk i=>jj a (b::e) hd (λd f=>by
    (have:=hlt d f;have:d≠a:=λh=>by subst h;exact c f);omega) (by omega) k i
   have k:b<a:=by
    (have:=hlt b (by simp);have:b≠a:=λf=>by subst f;exact c (by simp));omega
   have i:=jj a e (mu.1 hd).2 (λd f=>by
    (have:=hlt d (by simp[f]);have:d≠a:=λh=>by subst h;exact c (by simp[f]));omega) (by simp at hlen;omega) b k
   exact((mu.1 hd).1 i).elim
theorem oN{c:E}{b:Rl}(e:c<=64){a:L E}(d:je c b=S a):a.length=c/\a.Nodup/\(∀f∈a,f<c)/\tE (Eg c b):=by
 obtain⟨⟨d,e⟩,b⟩:=Eu e c 0 [] a (VD.nil c b) d;simp at b;refine⟨b,e.nd,e.lt,Rn (λd=>a.idxOf d) λd b f=> ?_⟩;obtain⟨g,h,f⟩:=f;have c:=jj c a e.nd e.lt (by omega) b h;have c:a.idxOf b<a.length:=L.idxOf_lt_length_of_mem c;have c:a[a.idxOf b]? =S b:=by rw[cF c,L.getElem_idxOf c]
 have c:=e.back _ b c d g f;have e:(a.take (a.idxOf b)).idxOf d<(a.take (a.idxOf b)).length:=L.idxOf_lt_length_of_mem c;have c:a.idxOf d=(a.take (a.idxOf b)).idxOf d:=by
  have c:(a.take (a.idxOf b)++a.drop (a.idxOf b)).idxOf d=(a.take (a.idxOf b)).idxOf d:=by rw[L.idxOf_append,aS c]
  rwa[rT] at c
 rw[c]
 have:=L.length_take_le (a.idxOf b) a;omega
theorem xZ:∀(c:E)(b:L E),(∀a,a<c->a∈b)->c<=b.length
 |0,_,_=>E.zero_le _
 |a+1,c,h=>by
  have b:=h a (by omega)
  have:=xZ a (c.erase a) (λa c=>(L.mem_erase_of_ne (by omega)).2 (h a (by omega)));rw[L.length_erase_of_mem b] at this
  have:=L.length_pos_of_mem b;omega
theorem Fo{c:E}{e:Rl}(b:E->Prop)(f:∀a,b a->a<c)(p:∀a,b a->∃d,b d/\e d a=γ){x0:E}(r:b x0):¬tE (Eg c e):=λs=>by
 have z:∀a,b a->∃d,b d/\Eg c e d a:=λa m=>by obtain⟨g,d,h⟩:=p a m;exact⟨g,d,f g d,f a m,h⟩
 have x:∀d,∃a:L E,a.length=d+1/\a.Nodup/\(∀d∈a,b d)/\(∀b d,a=b::d->∀a∈d,Tc (Eg c e) b a):=λh=>by
  induction h with
  |zero=>exact⟨[x0],Y,by simp,by simpa using r,λa b d h g=>by cases d;cases g⟩
  |succ b a=>
   obtain⟨y,k,t,l,u⟩:=a;cases y with
   |nil=>simp at k
   |cons d h=>
    obtain⟨g,w,i⟩:=z d (l d (by simp));have n:∀a∈d::h,Tc (Eg c e) g a:=λv a=>by
     rcases cK.1 a with rfl|o
     .exact .one i
     exact(Tc.one i).trans (u d h Y v o)
    refine⟨g::d::h,by simp at k |-;omega,?_,?_,λa q o A v=>by cases o;exact n A v⟩
    .rw[mu]
     exact⟨λa=>s g (n g a),t⟩
    intro v a;rcases cK.1 a with rfl|o
    .exact w
    exact l v o
 obtain⟨d,k,g,h,_⟩:=x c;have i:=jj c (d.drop 1) (g.sublist (L.drop_sublist 1 d)) (λa b=>f a (h a (L.mem_of_mem_drop b))) (by simp;omega);cases d with
 |nil=>simp at k
 |cons a b=>
  have:=i a (f a (h a (by simp)));simp at this;exact(mu.1 g).1 this
theorem Dt{b:E}{k:Rl}(p:b<=64):∀(i d:E)(c:L E),VD b k d c->c.length+i=b->OH b k i d c=η->¬tE (Eg b k)
 |0,d,c,e,m,ht=>by simp[OH] at ht
 |i+1,d,c,e,m,ht=>by
  rw[OH] at ht;split at ht
  .rename_i r
   have t:∃a,a<b/\¬a∈c:=by
    refine nV λl=> ?_;have s:∀a,a<b->a∈c:=λa g=>nV λe=>l ⟨a,g,e⟩;have y:=xZ b c s;omega
   obtain⟨x,v,w⟩:=t;refine Fo (λa=>a<b/\¬a∈c) (λa g=>g.1) (λa g=> ?_) (x0:=x) ⟨v,w⟩;unfold zT at r
   have:=L.find?_eq_none.1 r a (by simpa using g.1);have u:d.testBit a=δ:=by
    cases f:d.testBit a
    .rfl
    exact(g.2 ((e.mem a).1 f)).elim
   simp only[u,κ.not_false,nB] at this;refine nV λl=>this (sm.2 λh n f=> ?_);rw[row,bR] at f;simp only[bA,cS,eA] at f;cases o:d.testBit h
   .exact(l ⟨h,⟨f.1,λm=>by rw[(e.mem h).2 m] at o;cases o⟩,f.2⟩).elim
   rfl
  rename_i h n;exact Dt p i _ _ (e.step p n) (by simp;omega) ht
theorem Fm{a:E}{b:Rl}(d:a<=64)(c:je a b=η):¬tE (Eg a b):=Dt d a 0 [] (VD.nil a b) (by simp) c
def cU(a:L E):L T:=a.map (λ(a:E)=>(a:T))
theorem rH{a:L E}{b:T}:b∈cU a↔∃c∈a,(c:T)=b:=by simp[cU]
def qX(a:Hs):L T:=(cU (L.range 16)).filter (λb=>a.any (λa=>a.w.contains b))
def kJ(a:Hs)(b:T):L T:=(cU (L.range a.length)).filter (λc=>(tx a c).w.contains b)
def ij(b:T):L T->L Ch
 |[]=>[]
 |a::c=>c.map (λd=>⟨b,a,d⟩)++ij b c
def iC(a:Hs):L Ch:=(qX a).flatMap (λb=>ij b (kJ a b))
def soR(c:Hs):Rl:=λa b=>decide (a<b)&&(tx c a).s==(tx c b).s
def wrR(c:Hs):Rl:=λa b=>a !=b&&(tx c b).r.any (λb=>b.f==(a:T))
def Ym(c:Hs):Rl:=λa b=>a !=b&&(tx c a).r.any (λa=>a.f== -1&&(tx c b).w.contains a.k)
def wwR(a:L Ch):Rl:=λb c=>a.any (λa=>a.a==(b:T)&&a.b==(c:T))
def rwR(d:Hs)(a:L Ch):Rl:=λc b=>a.any (λa=>a.b==(b:T)&&(c !=b&&(tx d c).r.contains ⟨a.k,a.a⟩))
def qA(c d:Rl):Rl:=λa b=>c a b||d a b
def fD(a:E)(b c:Rl):Rl:=λd e=>(L.range a).any (λa=>b d a&&c a e)
def EP(a:Hs):Rl:=qA (soR a) (wrR a)
def yU(a:Hs)(b:L Ch):Rl:=qA (EP a) (wwR b)
def uJ(a:Hs)(b:L Ch):Rl:=qA (Ym a) (rwR a b)
def cP(a:Hs)(c:T)(b:L Ch):Rl:=if c=1 then qA (yU a b) (fD a.length (yU a b) (uJ a b)) else qA (yU a b) (uJ a b)
def dw(a:Hs)(b:L Ch):κ:=(bm a&&decide (b.length<=20000))&&b.all (dA a)
theorem fm{a:Hs}{c:L Ch}(b:dw a c=γ):bm a=γ/\∀d∈c,dA a d=γ:=by
 simp only[dw,bA,fY] at b;exact⟨b.1.1,b.2⟩
theorem gY{b:Hs}{a:T}:kN b a=γ↔0<=a/\a<(b.length:T):=by simp[kN]
theorem vO{a:Hs}{b:E}:kN a (b:T)=γ↔b<a.length:=by rw[gY];omega
theorem sS{a:Hs}(g:bm a=γ){e:L Ch}{c d:E}(h:c<a.length)(i:d<a.length):yU a e c d=γ↔DT a (λa=>a∈e) c d:=by
 unfold DT;rw[vO,vO];simp only[h,i,and_self,ll];simp only[yU,EP,qA,eN,or_assoc];refine or_congr ?_ (or_congr ?_ ?_)
 .simp only[soR,IP,bA,cS]
  exact and_congr (by omega) Iff.rfl
 .simp only[wrR,rdB,bA,gd]
  refine⟨λb=>b.2,λb=>⟨λf=> ?_,b⟩⟩;subst f;obtain⟨d,b,a⟩:=eH.1 b;rw[ef] at a
  have:=js g (t:=(c:T)) (by omega) (by omega) b;omega
 simp only[wwR,eH,bA,ef];constructor
 .rintro⟨a,d,b,c⟩
  exact⟨a.k,by rw[<-b,<-c];exact d⟩
 rintro⟨b,a⟩;exact⟨_,a,Y,Y⟩
theorem tI{a:Hs}(g:bm a=γ){d:L Ch}(f:∀b∈d,dA a b=γ){b e:E}(h:b<a.length)(i:e<a.length):uJ a d b e=γ↔OT a (λa=>a∈d) b e:=by
 unfold OT;rw[vO,vO];simp only[h,i,and_self,ll];simp only[uJ,qA,Ym,rwR,eN,bA,gd,eH,ef,jW];constructor
 .rintro(⟨e,k,i,l,hw⟩|⟨d,c,a,e,h⟩)
  .exact⟨by omega,k,i,hw,.inl (by omega)⟩
  have d:=f d c;simp only[dA,fG,bA] at d;exact⟨by omega,_,h,by rw[<-a];simpa using d.2.2,.inr (by rw[<-a];exact c)⟩
 rintro⟨e,d,c,hw,a|a⟩
 .left
  have:=js g (t:=(b:T)) (by omega) (by omega) c;exact⟨by omega,d,c,by omega,hw⟩
 right;exact⟨_,a,Y,by omega,c⟩
theorem zj{b:Hs}(a:bm b=γ){f:L Ch}(e:∀c∈f,dA b c=γ){g:T}(l:ep g=γ){h i:E}(c:h<b.length)(d:i<b.length):cP b g f h i=γ↔FT b (λb=>b∈f) g h i:=by
 simp only[ep,eN,ef] at l;unfold FT cP;rcases l with rfl|rfl
 .rw[aR (by decide),aS Y,qA,eN,sS a c d,tI a e c d]
 rw[aS Y,aR (by decide),qA,eN,sS a c d];refine or_congr Iff.rfl ?_;simp only[fD,eH,eC,bA];constructor
 .rintro⟨h,b,f,g⟩
  exact⟨h,(sS a c b).1 f,(tI a e b d).1 g⟩
 rintro⟨m,k,n⟩;have b:=gY.1 k.1.2;obtain⟨o,rfl⟩:∃q:E,m=q:=⟨m.toNat,by omega⟩;exact⟨o,by omega,(sS a c (by omega)).2 k,(tI a e (by omega) d).2 n⟩
theorem FT.ins{b:Hs}{e:Ch->Prop}{f c d:T}(a:FT b e f c d):kN b c=γ/\kN b d=γ:=by
 unfold FT at a;split at a
 .rcases a with b|b<;>exact b.1
 rcases a with c|⟨d,a,b⟩
 .exact c.1
 exact⟨a.1.1,b.1.2⟩
theorem FT.mono{c:Hs}{e f:Ch->Prop}(n:∀m,e m->f m){p a b:T}(d:FT c e p a b):FT c f p a b:=by
 have g:∀{a b},DT c e a b->DT c f a b:=λo=>⟨o.1,o.2.imp id (λu=>u.imp id (λ⟨q,t⟩=>⟨q,n _ t⟩))⟩;have r:∀{a b},OT c e a b->OT c f a b:=λl=>⟨l.1,l.2.1,by obtain⟨w,i,k,s⟩:=l.2.2;exact⟨w,i,k,s.imp id (n _)⟩⟩;unfold FT at d |-;split
 .rename_i h
  rw[aS h] at d;exact d.imp g r
 rename_i h;rw[aR h] at d;exact d.imp g (λ⟨v,i,k⟩=>⟨v,g i,r k⟩)
theorem Tc.map{b c:Type}{d:b->b->Prop}{e:c->c->Prop}(a:b->c)(f:∀c g,d c g->e (a c) (a g)){c g:b}(h:Tc d c g):Tc e (a c) (a g):=by
 induction h with
 |one a=>exact .one (f _ _ a)
 |more _ b a=>exact .more a (f _ _ b)
theorem xA{a:Hs}(f:bm a=γ){b:L Ch}(d:∀c∈b,dA a c=γ){c:T}(e:ep c=γ):tE (Eg a.length (cP a c b))↔tE (FT a (λa=>a∈b) c):=by
 constructor
 .intro a c b
  refine a c.toNat (b.map T.toNat λa b a=> ?_);obtain⟨b,c⟩:=a.ins;rw[gY] at b c;refine⟨by omega,by omega,(zj f d e (by omega) (by omega)).2 ?_⟩;rw[iK b.1,iK c.1];exact a
 intro b g c;exact b g (c.map (λ(b:E)=>(b:T)) λb c a=>(zj f d e a.1 a.2.1).1 a.2.2)
theorem Ir{a:Hs}{l:L Ch}(e:dw a l=γ){c:T}(h:ep c=γ)(f:¬tE (Eg a.length (cP a c l)))(g:∀b,Xt a b->tE (FT a b c)->∀d∈l,b d):¬Kw a c:=λ⟨b,hw,a⟩=>by
 obtain⟨d,c⟩:=fm e;exact f ((xA d c h).2 (a.sub λd e c=>.one (c.mono (g b hw a))))
theorem tL{d:T}:∀{a:L T},a.Pairwise (·<·)->∀{b c:T},b∈a->c∈a->b<c->(⟨d,b,c⟩:Ch)∈ij d a
 |[],_,_,_,a,_,_=>by cases a
 |x::l,k,e,f,d,b,i=>by
  obtain⟨g,h⟩:=L.pairwise_cons.1 k;rw[ij,cB];rcases cK.1 d with rfl|a
  .rcases cK.1 b with rfl|c
   .omega
   exact .inl (dE.2 ⟨f,c,Y⟩)
  rcases cK.1 b with rfl|c
  .have:=g e a;omega
  exact .inr (tL h a c i)
theorem Ej(a):(cU (L.range a)).Pairwise (·<·):=by
 unfold cU;rw[L.pairwise_map];exact L.pairwise_lt_range.imp (λa=>by omega)
theorem qL(a b):(kJ a b).Pairwise (·<·):=(Ej _).filter _
theorem gV{b:Hs}{c a:T}:a∈kJ b c↔fG b a c=γ:=by
 simp only[kJ,L.mem_filter,rH,eC,fG,bA,gY];refine and_congr ⟨?_,λb=>⟨a.toNat,by omega,by omega⟩⟩ Iff.rfl;rintro⟨b,a,rfl⟩;omega
theorem Cw{a:Hs}(c:bm a=γ){b d:T}(hw:fG a d b=γ):b∈qX a:=by
 simp only[fG,bA,gY] at hw;have a:=jO c hw.1.1 hw.1.2 (by simpa using hw.2);simp only[qX,L.mem_filter,rH,eC,eH];exact⟨⟨b.toNat,by omega,by omega⟩,_,bQ (BJ hw.1.1 hw.1.2),hw.2⟩
theorem Ov{b:Hs}(d:bm b=γ){c:Ch}(a:dA b c=γ):c∈iC b\/c.back∈iC b:=by
 simp only[dA,bA,gd] at a;have d:=Cw d a.1.2;have b:=gV.2 a.1.2;have c:=gV.2 a.2;rcases T.lt_or_gt_of_ne a.1.1 with a|a
 .exact .inl (ke.2 ⟨_,d,tL (qL _ _) b c a⟩)
 exact .inr (ke.2 ⟨_,d,tL (qL _ _) c b a⟩)
theorem sN{h:Hs}{l:L Ch}(d:dw h l=γ){a:T}(g:ep a=γ)(e:tE (Eg h.length (cP h a l)))(c:∀b∈iC h,b∈l\/b.back∈l):Kw h a:=by
 obtain⟨d,b⟩:=fm d;refine⟨λa=>a∈l,⟨b,λa f=> ?_⟩,(xA d b g).1 e⟩;rcases Ov d f with b|b
 .exact c a b
 exact(c _ b).symm
def oV(b:Hs)(a:L Ch):ι Ch:=(iC b).find? (λb=>!a.contains b&&!a.contains b.back)
theorem zE{c:Hs}{b:L Ch}(d:oV c b=η):∀a∈iC c,a∈b\/a.back∈b:=λa c=>by
 have:=L.find?_eq_none.1 d a c;simp only[bA,qh,not_and,κ.not_eq_false] at this;by_cases a:a∈b
 .exact .inl a
 right;have a:=this (by simpa using a);simpa using a
def ix(a:L T)(b:T):T:=if b∈a then(a.idxOf b:E) else -1
def xG(b:L T)(a:Ch):ι Ch:=
 if ix b a.a<0/\ix b a.b<0 then η
 else if ix b a.a<0\/(0<=ix b a.b/\ix b a.b<ix b a.a) then S a.back else S a
def rj(a:Hs)(b:L T):L Ch:=(iC a).filterMap (xG b)
theorem PV{a:L T}{b:T}(c:b∈a):0<=ix a b:=by unfold ix;rw[aS c];omega
theorem Re{c:Hs}{b:L T}(e:∀a,kN c a=γ->a∈b){a:Ch}(f:a∈iC c)(d:dA c a=γ):a∈rj c b\/a.back∈rj c b:=by
 simp only[dA,fG,bA] at d;have c:=PV (e _ d.1.2.1);have c:=PV (e _ d.2.1);unfold rj;simp only[tp];by_cases b:ix b a.a<0\/(0<=ix b a.b/\ix b a.b<ix b a.a)
 .exact .inr ⟨a,f,by unfold xG;rw[aR (by omega),aS b]⟩
 exact .inl ⟨a,f,by unfold xG;rw[aR (by omega),aR b]⟩
theorem Al{c:T}:∀{b:L T},b.Pairwise (·<·)->∀{a:Ch},a∈ij c b->a.k=c/\a.a∈b/\a.b∈b/\a.a<a.b
 |[],_,_,a=>by cases a
 |x::i,g,h,c=>by
  obtain⟨e,f⟩:=L.pairwise_cons.1 g;rw[ij,cB] at c;rcases c with a|a
  .obtain⟨d,b,rfl⟩:=dE.1 a
   exact⟨Y,by simp,by simp[b],e d b⟩
  obtain⟨a,b,c,d⟩:=Al f a;exact⟨a,by simp[b],by simp[c],d⟩
theorem pL{b:Hs}{a:Ch}(g:a∈iC b):dA b a=γ/\a.a<a.b:=by
 obtain⟨g,b,a⟩:=ke.1 g;obtain⟨c,d,e,f⟩:=Al (qL _ _) a;subst c;exact⟨by simp only[dA,bA,gd];exact⟨⟨by omega,gV.1 d⟩,gV.1 e⟩,f⟩
theorem sP{c:Hs}{b:Ch}(a:dA c b=γ):dA c b.back=γ:=by
 simp only[dA,Ch.back,bA,gd] at a |-;exact⟨⟨by omega,a.2⟩,a.1.2⟩
theorem Tv{c:Hs}{f:L T}{b:Ch}(e:b∈rj c f):dA c b=γ:=by
 obtain⟨c,b,a⟩:=tp.1 e;have d:=(pL b).1;unfold xG at a;split at a
 .cases a
 split at a
 .obtain rfl:=cI a;exact sP d
 obtain rfl:=cI a;exact d
def il(b:Hs)(c a:T):Prop:=0<=a/\a<=3/\(a=1->Kw b c)/\(a=2->¬Kw b c)
theorem abi{a:Hs}(b:Kw a 0)(c:¬Kw a 1):False:=c (Hq b)
theorem Og{a:Hs}{d:T}{c:L Fc}{e:L Mk}(f:iu a d c=γ)(l:iq a d [] (fe c) e=γ)(n:∀b∈e,b.rt=γ)
  (i:dw a (fe c++e.map Mk.yG)=γ)(k:¬tE (Eg a.length (cP a d (fe c++e.map Mk.yG)))):¬Kw a d:=by
 have a:ep d=γ:=by simp only[iu,bA] at f;exact f.2.2
 refine Ir i a k λa hw h g b=> ?_;rcases cB.1 b with b|b
 .exact vx hw h f g b
 obtain⟨o,m,rfl⟩:=dE.1 b;exact uD hw h e [] (fe c) (λg a=>vx hw h f g a) l n o m
theorem Xv{b:Hs}{g:T}{d:L Fc}{e:Ch}(l:iu b g d=γ)(i:dA b e=γ)
  (o:¬tE (Eg b.length (cP b g (fe d++[e]))))(p:¬tE (Eg b.length (cP b g (fe d++[e.back]))))(u:∀c∈fe d,dA b c=γ):¬Kw b g:=λ⟨n,hw,k⟩=>by
 have h:=l;simp only[iu,bA] at h;have r:=vx hw k l;have m:∀a,dA b a=γ->n a->tE (Eg b.length (cP b g (fe d++[a]))):=λa s f=>by
  have t:∀c∈fe d++[a],dA b c=γ:=λc a=>by
   rcases cB.1 a with a|a
   .exact u c a
   simp at a;subst a;exact s
  refine(xA h.2.1 t h.2.2).2 (k.sub λd g b=>.one (b.mono λc a=> ?_));rcases cB.1 a with a|a
  .exact r c a
  simp at a;subst a;exact f
 rcases hw.all e i with f|f
 .exact o (m e i f)
 exact p (m e.back (sP i) f)
theorem Wc{b:Hs}{e:T}{d:L Fc}{a:Fc}(c:oZ b e d a=γ):dA b a.c=γ:=by
 simp only[oZ,bA] at c;exact c.1.1.2
theorem zG{b:Hs}{f:T}:∀(a c:L Fc),jN b f c a=γ->∀c∈a,dA b c.c=γ
 |[],_,_,b,a=>by cases a
 |g::d,f,a,c,b=>by
  simp only[jN,bA] at a;rcases cK.1 b with rfl|e
  .exact Wc a.1
  exact zG d _ a.2 c e
theorem vY{b:Hs}{g:T}{a:L Fc}(c:iu b g a=γ):∀d∈fe a,dA b d=γ:=λb e=>by
 obtain⟨d,f,rfl⟩:=dE.1 e;simp only[iu,bA] at c;exact zG a [] c.1 d f
theorem ry{c:Hs}{d:T}{b:L Fc}(a:iu c d b=γ)(d:b.length<=20000):dw c (fe b)=γ:=by
 have b:=vY a;simp only[iu,bA] at a;simp only[dw,bA,fY,cS];exact⟨⟨a.2.1,by simpa[fe] using d⟩,b⟩
abbrev H(q a:E):Addr:=⟨q,a,η⟩
abbrev aV:ζ:=.slice η 0 0
abbrev I(a:T):ζ:=.int .i64 a
abbrev aI:ζ:=.int .i64 0
abbrev aP(q a:E):ζ:=.pointer (S ⟨q,a,η⟩)
abbrev aY(c:ε)(q:E)(a:θ ζ)(b:TypeId):Prop:=c.heap[q]? =S (.cells a b (0,0))
structure Fr(S:E->Prop)(w w':ε):Prop where
 os:w'.os=w.os
 tape:w'.tape=w.tape
 output:w'.output=w.output
 size:w.heap.size<=w'.heap.size
 block:∀k,k<w.heap.size->¬S k->w'.heap[k]? =w.heap[k]?
def j(_:E):Prop:=False
theorem Fr.refl(b a):Fr b a a:=⟨Y,Y,Y,jY _,λ_ _ _=>Y⟩
theorem Fr.trans{d T U:E->Prop}(a:Fr d W V)(b:Fr T V w4)(f:∀c,c<W.heap.size->d c->U c)(g:∀c,c<W.heap.size->T c->U c):Fr U W w4:=
 ⟨b.os.trans a.os,b.tape.trans a.tape,b.output.trans a.output,bX a.size b.size,λd c e=>
  (b.block d (jd c a.size) (λb=>e (g d c b))).trans (a.block d c (λa=>e (f d c a)))⟩
theorem Fr.step(a:Fr S1 W V)(b:Fr j V U):Fr S1 W U:=a.trans b (λ_ _ a=>a) (λ_ _ a=>a.elim)
theorem Fr.keep{T:E->Prop}(b:Fr j W V)(d:Fr T V U)(c:∀a,T a->W.heap.size<=a):Fr j W U:=b.trans d (λ_ _ a=>a) (λa d b=>by have:=c a b;omega)
theorem Fr.mono{c d:E->Prop}(a:Fr c W V)(e:∀b,b<W.heap.size->c b->d b):Fr d W V:=
 ⟨a.os,a.tape,a.output,a.size,λc b d=>a.block c b (λa=>d (e c b a))⟩
theorem Fr.alloc(a:Fr S1 W V)(b):Fr S1 W (V.alloc b):=
 a.trans (T:=j) ⟨Y,Y,Y,by simp,λb a _=>Below.heap_alloc _ _ _ a⟩ (λ_ _ a=>a) (λ_ _ a=>a.elim)
theorem Fr.drew(a:Fr S1 W V):Fr S1 W V.drew:=⟨a.os,a.tape,a.output,a.size,a.block⟩
theorem Fr.drewN(a:Fr S1 W V)(b):Fr S1 W (V.drewN b):=⟨a.os,a.tape,a.output,a.size,a.block⟩
theorem Fr.setCell{S:E->Prop}{a f:ε}(b:Fr S a f)(c)(h:c.block<a.heap.size->S c.block)(k):Fr S a (f.setCell c k):=
 ⟨b.os,b.tape,b.output,by simpa[ε.setCell] using b.size,λi d e=>by
  rw[Below.heap_setCell _ _ _ _ (λg=>e (by subst g;exact h d))];exact b.block i d e⟩
theorem Fr.grown{row:ι E}(a:Fr S1 W V)(b:V.grownBy U row)(f:∀c,row=S c->c<W.heap.size->S1 c):Fr S1 W U:=
 ⟨b.os.trans a.os,b.tape.trans a.tape,b.output.trans a.output,bX a.size b.size,λd c e=>
  (b.block d (jd c a.size) (λb=>e (f d b.symm c))).trans (a.block d c e)⟩
theorem Fr.below(a:Fr S1 W V)(b:m<=W.heap.size)(c:∀b,b<m->¬S1 b):Below m W V:=
 ⟨a.os,a.tape,a.output,a.size,λb d=>a.block b (by omega) (c b d)⟩
theorem Fr.abz(a:Fr j W V):Below W.heap.size W V:=a.below (jY _) (λ_ _ a=>a.elim)
theorem Fr.cell(b:Fr S1 W V){a:Addr}(d:a.block<W.heap.size)(c:¬S1 a.block):V.cell? a=W.cell? a:=ε.cell?_of_block (w:=W) (b.block _ d c)
theorem Fr.aF(c:Fr S1 W V){a:Addr}(b:W.cell? a=S x)(d:¬S1 a.block):V.cell? a=S x:=(c.cell (ε.block_lt_of_cell? W a b) d).trans b
theorem Fr.frozen(a:Fr S1 W V){p:Addr}(c:p.block<W.heap.size)(b:¬S1 p.block):V.frozen? p=W.frozen? p:=ε.frozen?_of_block (w:=W) (a.block _ c b)
theorem Fr.aB(c:Fr S1 W V){b:Obj}(a:W.heap[m]? =S b)(d:¬S1 m):V.heap[m]? =S b:=
 (c.block m (fJ.1 a).1 d).trans a
theorem Fr.hs(b:Fr j W V){a:Obj}(c:W.heap[m]? =S a):V.heap[m]? =S a:=b.aB c id
theorem Fr.tr(a:Fr S1 W V)(b:Fr S1 V U):Fr S1 W U:=a.trans b (λ_ _ a=>a) (λ_ _ a=>a)
abbrev bT(q:E):=Fr (λa=>a=q)
theorem Fr.owns(e:Fr S1 W V)(b:W.ownsRow m t q x n1 Y1)(h:∀a,x.ownBlock=S a->¬S1 a):V.ownsRow m t q x n1 Y1:=by
 refine⟨b.1,?_⟩;rcases b.2 with i|⟨a,c,d,rfl,f,g,k⟩
 .exact .inl i
 exact .inr ⟨a,c,d,Y,f,e.aB g (h a Y),k⟩
theorem kt(b:W.ownsRow m t n1 x n2 Y1)(e:∀a,x.ownBlock=S a->q<=a):W.ownsRow q t n1 x n2 Y1:=by
 refine⟨b.1,?_⟩;rcases b.2 with g|⟨a,c,d,rfl,i,f,h⟩
 .exact .inl g
 exact .inr ⟨a,c,d,Y,e a Y,f,h⟩
theorem bB(d:W.ownsRow m t q x n1 Y1):∃b a,x=.slice b n1 a/\n1<=a/\a<=maxLen:=by
 rcases d.2 with⟨rfl,rfl⟩|⟨f,a,e,rfl,g,h,c,b,i⟩
 .exact⟨η,0,Y,jY _,by simp[maxLen]⟩
 exact⟨_,a,Y,c,b⟩
def Rd(f:ε)(d:ζ)(a:L ζ):Prop:=
 ∃c b,d=.slice c a.length b/\a.length<=b/\b<=maxLen/\(a=[]\/∃b d,c=S (H b d)/\∀c e,a[c]? =S e->f.cell? (H b (d+c))=S e)
structure dK(P:Program)(t e:TypeId)(size bytes:E):Prop where
 under:P.underlying t=S (.slice e)
 adz:∃i z,P.info? e=S i/\i.zero=S z/\i.size=size/\i.bytes=bytes/\z.cells.size=size
 pos:0<size
theorem dK.of{P:Program}{c a:TypeId}{z:ζ}(e:P.underlying c=S (.slice a))(d:(P.info? a).map (λb=>(b.zero,b.size,b.bytes))=S (S z,m,q))(f:z.cells.size=m)(g:0<m):dK P c a m q:=by
 obtain⟨h,a,b,c,d⟩:=info_parts d;exact⟨e,⟨h,z,a,b,c,d,f⟩,g⟩
def eF(w:ε)(c:ι Addr)(a:L ζ):Prop:=
 (a=[]\/∃b,c=S b/\∀c d,a[c]? =S d->w.cell? (b.add c)=S d)/\∀b∈a,b.oneCell'=γ
theorem vU{P:Program}{f ty e:TypeId}(a:dK P f e m q)(b:W.ownsRow n1 e m x n2 Y1){d c:E}{h:L ζ}(l:h.length=d*m)(w:eF W A h)(s:(n2+d)*q<=140737488355328)(r:n2+d<=maxLen)(t:n1<=W.heap.size):
  ∃g i,(Builtin.append_ #[f,f] ty #[x,.slice A d c]).run P W=.ok g i/\i.ownsRow n1 e m g (n2+d) (Y1++h)/\W.grownBy i x.ownBlock/\
   (g.ownBlock=x.ownBlock\/∀i,g.ownBlock=S i->W.heap.size<=i):=by
 obtain⟨k,C,g,y,i,u,z⟩:=a.adz;by_cases B:h=[]
 .subst B
  have D:d=0:=by
   have:=a.pos;rcases jc d with n|n
   .exact n
   have:=E.mul_pos n a.pos;simp at l;omega
  subst D;cases A with
  |none=>
   rcases b.2 with⟨rfl,rfl⟩|⟨o,n,v,rfl,F,Q,p,G,K,R⟩
   .refine⟨aV,W,?_,by simpa using b,ε.grownBy.refl _ _,.inl Y⟩
    simp[Builtin.append_,run_underlying a.under,sizeOf,typeInfo,g,Builtin.lenOf,Builtin.firstCells]
   refine⟨.slice (S (H o 0)) n2 n,W,?_,by simpa using b,ε.grownBy.refl _ _,.inl Y⟩;simp[Builtin.append_,run_underlying a.under,sizeOf,typeInfo,g,Builtin.lenOf,Builtin.firstCells,p,storeCells]
  |some n=>
   rcases b.2 with⟨rfl,rfl⟩|⟨v,p,R,rfl,U,a0,a1,V,X,a2⟩
   .obtain⟨D,o,F,G,K,Q⟩:=run_append_own (P:=P) W n1 f ty e k C m q a.under g y i u z a.pos _ 0 Y1 b n 0 c [] (by simp) (by simp) (by simp) r s t
    obtain rfl:=Q.2 ⟨Y,Y⟩;exact⟨_,o,F,G,K,.inl Y⟩
   obtain⟨n,o,p,v⟩:=run_append_fits (P:=P) W n1 f ty e k m a.under g i v n2 p Y1 b n 0 c [] (by simp) (by simp) (by simp) (by omega);exact⟨_,n,o,p,v,.inl Y⟩
 obtain⟨n,rfl,v⟩:=w.1.resolve_left B;rcases b.2 with⟨rfl,rfl⟩|⟨p,o,F,rfl,G,R,U,K,Q,V⟩
 .have D:Y1=[]:=fH (by simpa using b.1)
  subst D;obtain⟨D,F,G,B,K,Q⟩:=run_append_own (P:=P) W W.heap.size f ty e k C m q a.under g y i u z a.pos aV 0 [] (ε.ownsRow_nil W _ e m) n d c h l v w.2 r s (jY _);exact⟨D,F,G,kt B (λF D=>bX t (B.lt F D).1),K,.inr λF D=>(B.lt F D).1⟩
 by_cases B:n2+d<=o
 .obtain⟨w,B,D,F⟩:=run_append_fits (P:=P) W n1 f ty e k m a.under g i p n2 o Y1 b n d c h l v w.2 B
  exact⟨_,w,B,D,F,.inl Y⟩
 obtain⟨d,e,f,b,a⟩:=run_append_arg_grows (P:=P) W f ty e k C m q a.under g y i u z a.pos (H p 0) n2 o Y1 b.1 (b.cells (g:=p) Y) n d c h l v (by omega) r s;refine⟨d,e,f,kt b (λe d=>bX t (b.lt e d).1),?_,.inr λe d=>(b.lt e d).1⟩;exact⟨a.os,a.tape,a.output,a.size,λd b _=>a.block d b (by simp)⟩
theorem eD{P:Program}(u:o2.guard=η)(h i)(w:o2.op=Op.call {callee:=Callee.builtin Builtin.append,args:=#[h,i],argTypes:=#[t,t]}){d:TypeId}{c e base:E}(k:dK P t d c e){n:E}{xs:L ζ}(B:a1.eval h=x)(y:W.ownsRow base d c x n xs){m f:E}{news:L ζ}(D:a1.eval i=.slice A m f)(v:news.length=m*c)(C:eF W A news)(r:(n+m)*e<=140737488355328)(l:n+m<=maxLen)(s:base<=W.heap.size)(o:∀a b,b.ownsRow base d c a (n+m) (xs++news)->W.grownBy b x.ownBlock->(a.ownBlock=x.ownBlock\/∀g,a.ownBlock=S g->W.heap.size<=g)->wpList P o1 Q r1 (a1.put o2.dst a) b):
  wpList P o1 Q (o2::r1) a1 W:=by
 refine wpList_plain u λR p=> ?_;obtain⟨a,b,z,F,G,K⟩:=vU (ty:=o2.type) k y v C r l s (c:=f);unfold Oper.wp;simp[execOp,w,resolve,invoke,builtin,B,D,z,Result.andThen];exact p _ _ (o a b F G K)
theorem jl{P:Program}{ops:θ Oper}{K:Act->ε->Prop}{Q:Exit->Act->ε->Prop}{E:Prop}(s:o2.guard=η)(h i)(v:o2.op=Op.call {callee:=Callee.builtin Builtin.append,args:=#[h,i],argTypes:=#[t,t]}){d:TypeId}{c e base:Nat}(k:dK P t d c e){n:Nat}{xs:L ζ}(z:a1.eval h=x)(w:W.ownsRow base d c x n xs){m f:Nat}{news:L ζ}(C:a1.eval i=.slice A m f)(u:news.length=m*c)(B:eF W A news)(p:(n+m)*e<=140737488355328)(l:n+m<=maxLen)(r:base<=W.heap.size)(o:∀a b,b.ownsRow base d c a (n+m) (xs++news)->W.grownBy b x.ownBlock->(a.ownBlock=x.ownBlock\/∀g,a.ownBlock=S g->W.heap.size<=g)->K (a1.put o2.dst a) b):
  if Region.wanted o2 (yielded ops a1.tmps)=γ then Oper.wp P o2 a1 W K Q else E:=by
 have hw:Region.wanted o2 (yielded ops a1.tmps)=γ:=by simp[Region.wanted,s]
 rw[aS hw];obtain⟨a,b,y,D,F,G⟩:=vU (ty:=o2.type) k w u B p l r (c:=f);unfold Oper.wp;simp[execOp,v,resolve,invoke,builtin,z,C,y,Result.andThen];exact o a b D F G
theorem eF.block{w:ε}{cs:θ ζ}(a:w.heap[m]? =S (.cells cs t f1))(b:∀c∈cs.toList,c.oneCell'=γ):eF w (S (H m 0)) cs.toList:=
 ⟨.inr ⟨_,Y,λd e c=>by rw[Addr.add_lit,de];simp[ε.cell?,a];simpa using c⟩,b⟩
theorem eF.one(b:ε)(a:ζ)(d:TypeId)(c:a.oneCell'=γ):eF (b.alloc (.cells #[a] d)) (S (H b.heap.size 0)) [a]:=
 ⟨.inr ⟨_,Y,cell_one_new _ _ _⟩,by simpa using c⟩
theorem Fr.cN(c:Fr S1 W V)(a)(b:W.heap.size<=a.block)(b):Fr S1 W (V.setCell a b):=c.setCell a (λa=>by omega) b
theorem Fr.aK{q:E}(c:bT q W V)(a b):bT q W (V.setCell (H q a) b):=Fr.setCell (S:=λd=>d=q) c (H q a) (λ_=>Y) b
theorem aD{w:ε}{a:θ ζ}(d:w.heap[m]? =S (.cells a t f1))(b c):(w.setCell (H m b) c).heap[m]? =S (.cells (a.setIfInBounds b c) t f1):=by
 simp[ε.setCell,vB,d]
theorem aj{w:ε}{a:θ ζ}(c:w.heap[m]? =S (.cells a t f1))(b):w.cell? (H m b)=a[b]? :=by simp[ε.cell?,c]
theorem aG{a:θ ζ}(b:aY W m a t)(a):W.frozen? (H m a)=δ:=by simp[ε.frozen?,b]
theorem ba{b:Obj}(a:W.heap[m]? =S b):m<W.heap.size:=(fJ.1 a).1
theorem aC{c:Obj}(b:W.heap[m]? =S c)(a):(W.alloc a).heap[m]? =S c:=(Below.heap_alloc W a m (ba b)).trans b
theorem eR{w:ε}(b:m=w.heap.size)(a):(w.alloc a).heap[m]? =S a:=b▸heap_alloc_new w a
theorem bi{b:Obj}(d:W.heap[m]? =S b)(a)(e:m≠a.block)(c):(W.setCell a c).heap[m]? =S b:=(Below.heap_setCell W a c m e).trans d
theorem uH{P:Program}{id:E}(a)(e:P.follows .mixedOrders=γ)(d:Region.lexTailB .any r1.toArray a=γ)(c:wpStill P r1.toArray W.drew (λb=>wpList P r1.toArray Q (r1.drop a) b W.drew) (r1.take a) a1):(Code.region id r1.toArray γ).wp P Q a1 W:=
 wp_region_still_tail a e d c
def aZ(a:Prop):Prop:=a
theorem stop(a:aZ p0):p0:=a
theorem aZ.go(a:p0):aZ p0:=a
structure N(p:Prop):Prop where
 out:p
theorem rA:type_of% (And.intro @L.getD_cons_zero.{0} @L.getD_cons_succ.{0}):=⟨@L.getD_cons_zero,@L.getD_cons_succ⟩
theorem rB:type_of% (And.intro @L.mem_cons.{0} (And.intro @L.not_mem_nil.{0} or_false)):=⟨@L.mem_cons,@L.not_mem_nil,or_false⟩
theorem rC:type_of% (And.intro @L.setIfInBounds_toArray.{0} (And.intro @L.set_cons_zero.{0} @L.set_cons_succ.{0})):=⟨@L.setIfInBounds_toArray,@L.set_cons_zero,@L.set_cons_succ⟩
theorem rD:type_of% (And.intro @eq_self.{1} (And.intro true_or (And.intro or_true (And.intro @if_true.{1} (And.intro @if_false.{1} (And.intro @forall_eq_or_imp.{1} @forall_eq.{1})))))):=⟨@eq_self,true_or,or_true,@if_true,@if_false,@forall_eq_or_imp,@forall_eq⟩
theorem rE:type_of% (And.intro @L.getElem?_toArray.{0} (And.intro @L.getElem?_cons_zero.{0} @L.getElem?_cons_succ.{0})):=⟨@L.getElem?_toArray,@L.getElem?_cons_zero,@L.getElem?_cons_succ⟩
inductive eZ:E->Prop
 |of (n:E):eZ n
theorem M{b:Sort _}(a:b):∃b,b=a:=⟨a,Y⟩
theorem rF:Fr S1 W W:=Fr.refl _ _
theorem du:0+m=m:=E.zero_add m
theorem eG:m<=m:=E.le_refl m
theorem jD:0<=(m:T):=T.natCast_nonneg m
theorem nG:0<=m:=E.zero_le m
theorem tC:Fr j W W:=Fr.refl _ _
theorem cZ{a:Obj}:Fr S1 W (W.alloc a):=(Fr.refl _ _).alloc _
theorem bM{a:Obj}(b:m=W.heap.size):(W.alloc a).heap[m]? =S a:=eR b a
theorem Z(a:p0):N p0:=⟨a⟩
theorem bD(a:p0)(b:q0):N p0/\N q0:=⟨Z a,Z b⟩
theorem dt{a b c:Prop}(d:a)(e:b)(f:c):N a/\N b/\N c:=⟨Z d,Z e,Z f⟩
theorem gB{a b c d:Prop}(e:a)(f:b)(g:c)(h:d):N a/\N b/\N c/\N d:=⟨Z e,Z f,Z g,Z h⟩
theorem va{a b c d e:Prop}(f:a)(g:b)(h:c)(i:d)(k:e):N a/\N b/\N c/\N d/\N e:=⟨Z f,Z g,Z h,Z i,Z k⟩
theorem qK{a b c d e f:Prop}(g:a)(h:b)(i:c)(k:d)(l:e)(m:f):N a/\N b/\N c/\N d/\N e/\N f:=⟨Z g,Z h,Z i,Z k,Z l,Z m⟩
theorem acv{a b c d e f g:Prop}(h:a)(i:b)(k:c)(l:d)(m:e)(n:f)(o:g):N a/\N b/\N c/\N d/\N e/\N f/\N g:=⟨Z h,Z i,Z k,Z l,Z m,Z n,Z o⟩
theorem SD{a b c d e f g h:Prop}(i:a)(k:b)(l:c)(m:d)(n:e)(o:f)(p:g)(r:h):N a/\N b/\N c/\N d/\N e/\N f/\N g/\N h:=⟨Z i,Z k,Z l,Z m,Z n,Z o,Z p,Z r⟩
section
variable {w V w1:ε} {B q:E} {T:TypeId} {F:E×E} {S:E->Prop} {v0 v1 v2 v3 v4 v5 v6 v7 v8 v9 v10 v11 v12 v13 v14 v15 v16 v17 v18 v19 v20 v21 v22 v23 v24 v25 v26 v27:ζ} {l:L ζ} {o0 o1 o2 o3 o4 o5:Obj}
theorem bx(a:w.heap[B]? =some (.cells (v0::l).toArray T F)):w.cell? (H B 0)=some v0:=aj a 0
theorem dh(a:w.heap[B]? =some (.cells (v0::v1::l).toArray T F)):w.cell? (H B 1)=some v1:=aj a 1
theorem iU(a:w.heap[B]? =some (.cells (v0::v1::v2::l).toArray T F)):w.cell? (H B 2)=some v2:=aj a 2
theorem iT(a:w.heap[B]? =some (.cells (v0::v1::v2::v3::l).toArray T F)):w.cell? (H B 3)=some v3:=aj a 3
theorem xW(a:w.heap[B]? =some (.cells (v0::v1::v2::v3::v4::l).toArray T F)):w.cell? (H B 4)=some v4:=aj a 4
theorem BY(a:w.heap[B]? =some (.cells (v0::v1::v2::v3::v4::v5::l).toArray T F)):w.cell? (H B 5)=some v5:=aj a 5
theorem Bl(a:w.heap[B]? =some (.cells (v0::v1::v2::v3::v4::v5::v6::l).toArray T F)):w.cell? (H B 6)=some v6:=aj a 6
theorem Ep(a:w.heap[B]? =some (.cells (v0::v1::v2::v3::v4::v5::v6::v7::l).toArray T F)):w.cell? (H B 7)=some v7:=aj a 7
theorem Tg(a:w.heap[B]? =some (.cells (v0::v1::v2::v3::v4::v5::v6::v7::v8::l).toArray T F)):w.cell? (H B 8)=some v8:=aj a 8
theorem oc9(a:w.heap[B]? =some (.cells (v0::v1::v2::v3::v4::v5::v6::v7::v8::v9::l).toArray T F)):w.cell? (H B 9)=some v9:=aj a 9
theorem IS(a:w.heap[B]? =some (.cells (v0::v1::v2::v3::v4::v5::v6::v7::v8::v9::v10::l).toArray T F)):w.cell? (H B 10)=some v10:=aj a 10
theorem acP(a:w.heap[B]? =some (.cells (v0::v1::v2::v3::v4::v5::v6::v7::v8::v9::v10::v11::l).toArray T F)):w.cell? (H B 11)=some v11:=aj a 11
theorem adA(a:w.heap[B]? =some (.cells (v0::v1::v2::v3::v4::v5::v6::v7::v8::v9::v10::v11::v12::l).toArray T F)):w.cell? (H B 12)=some v12:=aj a 12
theorem adw(a:w.heap[B]? =some (.cells (v0::v1::v2::v3::v4::v5::v6::v7::v8::v9::v10::v11::v12::v13::l).toArray T F)):w.cell? (H B 13)=some v13:=aj a 13
theorem XR(a:w.heap[B]? =some (.cells (v0::v1::v2::v3::v4::v5::v6::v7::v8::v9::v10::v11::v12::v13::v14::l).toArray T F)):w.cell? (H B 14)=some v14:=aj a 14
theorem aaJ(a:w.heap[B]? =some (.cells (v0::v1::v2::v3::v4::v5::v6::v7::v8::v9::v10::v11::v12::v13::v14::v15::l).toArray T F)):w.cell? (H B 15)=some v15:=aj a 15
theorem abQ(a:w.heap[B]? =some (.cells (v0::v1::v2::v3::v4::v5::v6::v7::v8::v9::v10::v11::v12::v13::v14::v15::v16::l).toArray T F)):w.cell? (H B 16)=some v16:=aj a 16
theorem aaG(a:w.heap[B]? =some (.cells (v0::v1::v2::v3::v4::v5::v6::v7::v8::v9::v10::v11::v12::v13::v14::v15::v16::v17::l).toArray T F)):w.cell? (H B 17)=some v17:=aj a 17
theorem aaf(a:w.heap[B]? =some (.cells (v0::v1::v2::v3::v4::v5::v6::v7::v8::v9::v10::v11::v12::v13::v14::v15::v16::v17::v18::l).toArray T F)):w.cell? (H B 18)=some v18:=aj a 18
theorem aaU(a:w.heap[B]? =some (.cells (v0::v1::v2::v3::v4::v5::v6::v7::v8::v9::v10::v11::v12::v13::v14::v15::v16::v17::v18::v19::l).toArray T F)):w.cell? (H B 19)=some v19:=aj a 19
theorem aaj(a:w.heap[B]? =some (.cells (v0::v1::v2::v3::v4::v5::v6::v7::v8::v9::v10::v11::v12::v13::v14::v15::v16::v17::v18::v19::v20::l).toArray T F)):w.cell? (H B 20)=some v20:=aj a 20
theorem abC(a:w.heap[B]? =some (.cells (v0::v1::v2::v3::v4::v5::v6::v7::v8::v9::v10::v11::v12::v13::v14::v15::v16::v17::v18::v19::v20::v21::l).toArray T F)):w.cell? (H B 21)=some v21:=aj a 21
theorem abf(a:w.heap[B]? =some (.cells (v0::v1::v2::v3::v4::v5::v6::v7::v8::v9::v10::v11::v12::v13::v14::v15::v16::v17::v18::v19::v20::v21::v22::l).toArray T F)):w.cell? (H B 22)=some v22:=aj a 22
theorem Wv(a:w.heap[B]? =some (.cells (v0::v1::v2::v3::v4::v5::v6::v7::v8::v9::v10::v11::v12::v13::v14::v15::v16::v17::v18::v19::v20::v21::v22::v23::l).toArray T F)):w.cell? (H B 23)=some v23:=aj a 23
theorem Sb(a:w.heap[B]? =some (.cells (v0::v1::v2::v3::v4::v5::v6::v7::v8::v9::v10::v11::v12::v13::v14::v15::v16::v17::v18::v19::v20::v21::v22::v23::v24::l).toArray T F)):w.cell? (H B 24)=some v24:=aj a 24
theorem ace(a:w.heap[B]? =some (.cells (v0::v1::v2::v3::v4::v5::v6::v7::v8::v9::v10::v11::v12::v13::v14::v15::v16::v17::v18::v19::v20::v21::v22::v23::v24::v25::l).toArray T F)):w.cell? (H B 25)=some v25:=aj a 25
theorem Ot(a:w.heap[B]? =some (.cells (v0::v1::v2::v3::v4::v5::v6::v7::v8::v9::v10::v11::v12::v13::v14::v15::v16::v17::v18::v19::v20::v21::v22::v23::v24::v25::v26::l).toArray T F)):w.cell? (H B 26)=some v26:=aj a 26
theorem PD(a:w.heap[B]? =some (.cells (v0::v1::v2::v3::v4::v5::v6::v7::v8::v9::v10::v11::v12::v13::v14::v15::v16::v17::v18::v19::v20::v21::v22::v23::v24::v25::v26::v27::l).toArray T F)):w.cell? (H B 27)=some v27:=aj a 27
theorem cY(a:w1=(w.alloc o0)):Fr j w w1:=by rw[a];exact(Fr.refl _ _).alloc _
theorem fa1(a:w1=(w.alloc o0)):N (Fr j w w1):=Z (cY a)
theorem lq(a:w1=((w.alloc o0).alloc o1)):Fr j w w1:=by rw[a];exact((Fr.refl _ _).alloc _).alloc _
theorem fa2(a:w1=((w.alloc o0).alloc o1)):N (Fr j w w1):=Z (lq a)
theorem Ol(a:w1=(((w.alloc o0).alloc o1).alloc o2)):Fr j w w1:=by rw[a];exact(((Fr.refl _ _).alloc _).alloc _).alloc _
theorem fa3(a:w1=(((w.alloc o0).alloc o1).alloc o2)):N (Fr j w w1):=Z (Ol a)
theorem fb4(a:w1=((((w.alloc o0).alloc o1).alloc o2).alloc o3)):Fr j w w1:=by rw[a];exact((((Fr.refl _ _).alloc _).alloc _).alloc _).alloc _
theorem fa4(a:w1=((((w.alloc o0).alloc o1).alloc o2).alloc o3)):N (Fr j w w1):=Z (fb4 a)
theorem fb5(a:w1=(((((w.alloc o0).alloc o1).alloc o2).alloc o3).alloc o4)):Fr j w w1:=by rw[a];exact(((((Fr.refl _ _).alloc _).alloc _).alloc _).alloc _).alloc _
theorem fa5(a:w1=(((((w.alloc o0).alloc o1).alloc o2).alloc o3).alloc o4)):N (Fr j w w1):=Z (fb5 a)
theorem dL(b:w1=(w.alloc o0))(a:q=w.heap.size):N (w1.heap[q]? =some o0):=Z (by rw[b];exact eR a _)
theorem yY(c:w1=(w.alloc o0))(a:q=w.heap.size):N (∀V,Fr j w1 V->V.heap[q]? =some o0):=Z λV b=>b.aB (dL c a).1 id
theorem uV(b:w1=((w.alloc o0).alloc o1))(a:q=w.heap.size):N (w1.heap[q]? =some o0):=Z (by rw[b];exact aC (eR a _) _)
theorem qa1(c:w1=((w.alloc o0).alloc o1))(a:q=w.heap.size):N (∀V,Fr j w1 V->V.heap[q]? =some o0):=Z λV b=>b.aB (uV c a).1 id
theorem qb2(b:w1=(((w.alloc o0).alloc o1).alloc o2))(a:q=w.heap.size):N (w1.heap[q]? =some o0):=Z (by rw[b];exact aC (aC (eR a _) _) _)
theorem qa2(c:w1=(((w.alloc o0).alloc o1).alloc o2))(a:q=w.heap.size):N (∀V,Fr j w1 V->V.heap[q]? =some o0):=Z λV b=>b.aB (qb2 c a).1 id
theorem qb3(b:w1=((((w.alloc o0).alloc o1).alloc o2).alloc o3))(a:q=w.heap.size):N (w1.heap[q]? =some o0):=Z (by rw[b];exact aC (aC (aC (eR a _) _) _) _)
theorem qa3(c:w1=((((w.alloc o0).alloc o1).alloc o2).alloc o3))(a:q=w.heap.size):N (∀V,Fr j w1 V->V.heap[q]? =some o0):=Z λV b=>b.aB (qb3 c a).1 id
theorem qb4(b:w1=(((((w.alloc o0).alloc o1).alloc o2).alloc o3).alloc o4))(a:q=w.heap.size):N (w1.heap[q]? =some o0):=Z (by rw[b];exact aC (aC (aC (aC (eR a _) _) _) _) _)
theorem qa4(c:w1=(((((w.alloc o0).alloc o1).alloc o2).alloc o3).alloc o4))(a:q=w.heap.size):N (∀V,Fr j w1 V->V.heap[q]? =some o0):=Z λV b=>b.aB (qb4 c a).1 id
end
theorem aO:type_of% @bodyPost_ret:=@bodyPost_ret
theorem bN:type_of% @rounds_succ:=@rounds_succ
theorem cM:type_of% @ζ.slice.injEq:=@ζ.slice.injEq
theorem eE:type_of% @wp_loop_rounds:=@wp_loop_rounds
theorem eV:type_of% @Addr.add_lit:=@Addr.add_lit
theorem fL:type_of% @ε.size_alloc:=@ε.size_alloc
theorem gp:type_of% @results_cell_row:=@results_cell_row
theorem gS:type_of% @wpIn_wide:=@wpIn_wide
theorem io:type_of% @results_none:=@results_none
theorem iL:type_of% @ε.ownsRow_nil:=@ε.ownsRow_nil
theorem lV:type_of% @info_parts:=@info_parts
theorem mB:type_of% @Oper.semAt_some:=@Oper.semAt_some
theorem ku:type_of% @ζ.agg.injEq:=@ζ.agg.injEq
theorem kH:type_of% @IntWalk.i64_in:=@IntWalk.i64_in
theorem kD:type_of% @WalkArith.wf_i64:=@WalkArith.wf_i64
theorem lO:type_of% @ByteArray.toList_eq:=@ByteArray.toList_eq
theorem lC:type_of% @ε.cell?_alloc_lt:=@ε.cell?_alloc_lt
theorem nF:type_of% @setRow_other:=@setRow_other
theorem ns:type_of% @size_madeCells:=@size_madeCells
theorem nH:type_of% @callsIn_wide:=@callsIn_wide
theorem nJ:type_of% @leaves_cons:=@leaves_cons
theorem qw:type_of% @IntKind.wrap_u64:=@IntKind.wrap_u64
theorem pO:type_of% @ε.ownsRow.alloc:=@ε.ownsRow.alloc
theorem sH:type_of% @getD_replicate_false:=@getD_replicate_false
theorem vL:type_of% @ε.block_lt_of_cell?:=@ε.block_lt_of_cell?
theorem J(a:p0:=by decide):p0:=a
theorem kR(a:p0:=by kernel_rfl):p0:=a
theorem O(a:p0:=by omega):p0:=a
theorem sI(a:p0:=by simp):p0:=a
theorem sO(a:p0:=by simp;omega):p0:=a
theorem oC(a:p0:=by simp[Value.oneCell']):p0:=a
theorem mL(a:p0:=by simp only[maxLen];omega):p0:=a
theorem fX(a:p0:=by rfl):p0:=a
theorem fU(a:p0:=by have:=HN.1;omega):p0:=a
theorem jE(a:p0:=by have:=HLN.1;omega):p0:=a
theorem VG(a:p0:=by have:=HM.1;omega):p0:=a
theorem oHK(a:p0:=by have:=HK.1;omega):p0:=a
theorem oHJ(a:p0:=by have:=HJ.1;omega):p0:=a
theorem vj(a:p0:=by have:=HRN.1;omega):p0:=a
theorem yW(a:p0:=by have:=HPN.1;omega):p0:=a
theorem An(a:p0:=by have:=HL2.1;omega):p0:=a
theorem Sh(a:p0:=by have:=HNR.1;omega):p0:=a
theorem aaq(a:p0:=by have:=HKN.1;omega):p0:=a
theorem oLN(a:p0:=by have:=LN.1;omega):p0:=a
theorem oHQ(a:p0:=by have:=HQ.1;omega):p0:=a
theorem oHT(a:p0:=by have:=HT.1;omega):p0:=a
theorem aba(a:p0:=by have:=HTN.1;omega):p0:=a
theorem oHL(a:p0:=by have:=HL.1;omega):p0:=a
theorem oB{a q:Prop}(c:q)(b:q->a:=by intro;omega):a:=b c
theorem gX{a q b:Prop}(d:q)(e:b)(c:q->b->a:=by intros;omega):a:=c d e
theorem sU{b q:Prop}(c:q)(a:q->b:=by intro a;simpa using a):b:=a c
theorem tZ(a:p0:=by rw[HI.1];rfl):p0:=a
def fE(te:TypeId)(d:ε)(c:E):Prop:=∃a b,d.heap[c]? =S (.cells a te b)
theorem fE.fr{S:E->Prop}{w a:ε}(c:fE t w m)(b:Fr S w a)(e:¬S m):fE t a m:=by
 obtain⟨a,c,d⟩:=c;exact⟨a,c,b.aB d e⟩
theorem fE.ne{w:ε}{te te':TypeId}(c:fE te w m)(a:fE te' w q)(d:te≠te'):m≠q:=λb=>by
 subst b;obtain⟨c,e,b⟩:=c;obtain⟨c,e,a⟩:=a;rw[b] at a;simp only[fZ,Obj.cells.injEq] at a;exact d a.2.1
def dU(i:TypeId->Prop)(c:ε->L ζ->α->Prop):Prop:=
 ∀(d:E->Prop)(a b:ε)(e:L ζ)(h:α),Fr d a b->(∀g f,i g->fE g a f->¬d f)->c a e h->c b e h
def Pl(b:α->L ζ)(_:ε)(a:L ζ)(c:α):Prop:=a=b c
theorem Pl.aJ(b:α->L ζ)(a:TypeId->Prop):dU a (Pl b):=λ_ _ _ _ _ _ _ a=>a
def fF(e:TypeId)(f:E)(h:ε->L ζ->α->Prop)(c:ε)(d:ι Addr)(a g:E)(b:L α):Prop:=
 (b=[]\/(d=S (H a g)/\fE e c a))/\∀(e:E)(d:α),b[e]? =S d->∃b,b.length=f/\h c b d/\∀d h,b[d]? =S h->c.cell? (H a (g+e*f+d))=S h
def Sl(h:TypeId)(f:E)(d:ε->L ζ->α->Prop)(k:ε)(i:ζ)(b:L α):Prop:=
 ∃c e g a,i=.slice c b.length a/\b.length<=a/\a<=maxLen/\fF h f d k c e g b
section
variable {α:Type} {te:TypeId} {n:E} {C:ε->L ζ->α->Prop} {w w':ε} {xs:L α}
theorem fF.aJ{g:TypeId->Prop}(m:dU g C){h:ι Addr}{a l:E}{b:E->Prop}(d:fF te n C w h a l xs)(c:Fr b w w')(f:∀e k,(e=te\/g e)->fE e w k->¬b k):fF te n C w' h a l xs:=by
 refine⟨d.1.imp id (λe=>⟨e.1,e.2.fr c (f te a (.inl Y) e.2)⟩),λg x e=> ?_⟩;obtain⟨g,h,k,l⟩:=d.2 g x e;exact⟨g,h,m b w w' g x c (λh g b=>f h g (.inr b)) k,λi u b=>c.aF (l i u b) (f te a (.inl Y) ((d.1.resolve_left (λa=>by rw[a] at e;simp at e)).2))⟩
theorem Sl.aJ{c:TypeId->Prop}(i:dU c C){e:ζ}{b:E->Prop}(g:Sl te n C w e xs)(f:Fr b w w')(k:∀a d,(a=te\/c a)->fE a w d->¬b d):Sl te n C w' e xs:=by
 obtain⟨a,b,l,c,d,e,g,h⟩:=g;exact⟨a,b,l,c,d,e,g,h.aJ i f k⟩
theorem fF.fr{a:TypeId->Prop}(f:dU a C){a:ι Addr}{b c:E}(e:fF te n C w a b c xs)(d:Fr j w w'):fF te n C w' a b c xs:=e.aJ f d (λ_ _ _ _ a=>a)
theorem Sl.fr{a:TypeId->Prop}(d:dU a C){a:ζ}(c:Sl te n C w a xs)(b:Fr j w w'):Sl te n C w' a xs:=c.aJ d b (λ_ _ _ _ a=>a)
theorem Sl.nil(te n)(C:ε->L ζ->α->Prop)(w):Sl te n C w aV []:=⟨η,0,0,0,Y,jY _,by simp[maxLen],.inl Y,sI⟩
theorem dJ{te:TypeId}{n:E}{C:ε->L ζ->α->Prop}{w:ε}:Sl te n C w aV []:=Sl.nil te n C w
theorem Sl.slice{b:ζ}(d:Sl te n C w b xs):∃c a,b=.slice c xs.length a/\xs.length<=a/\a<=maxLen:=by
 obtain⟨e,f,h,g,rfl,a,c,_⟩:=d;exact⟨_,_,Y,a,c⟩
theorem fF.addr{a:ι Addr}{b d k:E}{x:α}(e:fF te n C w a b d xs)(c:xs[k]? =S x):a=S (H b d):=
 (e.1.resolve_left (λa=>by rw[a] at c;simp at c)).1
theorem fF.uQ{b:ι Addr}{a d k:E}{e:α}(c:fF te n C w b a d xs)(b:xs[k]? =S e):fE te w a:=
 (c.1.resolve_left (λa=>by rw[a] at b;simp at b)).2
theorem fF.drop{e:ι Addr}{b c:E}(d:fF te n C w e b c xs)(a)(e:a<xs.length):fF te n C w (S (H b (c+a*n))) b (c+a*n) (xs.drop a):=by
 obtain⟨b,f⟩:∃b,xs[a]? =S b:=⟨_,cF e⟩;refine⟨.inr ⟨Y,d.uQ f⟩,λc e b=> ?_⟩;obtain⟨a,b,c,d⟩:=d.2 (a+c) e (sU b);exact⟨a,b,c,λb c a=>by have:=d b c a;rw[E.add_mul,<-nT] at this;exact this⟩
theorem fF.take{b:ι Addr}{c e:E}(d:fF te n C w b c e xs)(f):fF te n C w b c e (xs.take f):=by
 refine⟨d.1.imp (λa=>by rw[a];simp) id,λb c a=>d.2 b c ?_⟩;rw[L.getElem?_take] at a;split at a
 .exact a
 cases a
structure cC{α:Type}(B:E)(te:TypeId)(n:E)(C:ε->List ζ->α->Prop)(w:ε)(v:ζ)(xs:List α)(L:List (List ζ)):Prop where
 row:w.ownsRow B te n v xs.length L.flatten
 len:L.length=xs.length
 each:∀(j:E)(cs:List ζ)(x:α),L[j]? =S cs->xs[j]? =S x->cs.length=n/\C w cs x
theorem aW{w:ε}{b:E}{c:TypeId}{l:E}{e:ζ}{k:E}{m:L ζ}(h:w.ownsRow b c l e k m){a:E}(d:e.ownBlock=S a):b<=a/\fE c w a:=by
 rcases h.2 with⟨rfl,r⟩|⟨f,o,p,rfl,i,g,t,s,u,v⟩
 .cases d
 obtain rfl:f=a:=by simpa[ζ.ownBlock] using d
 exact⟨i,_,_,g⟩
theorem gJ{c b:ε}{row:ι E}(a:c.grownBy b row):Fr (λd=>row=S d) c b:=
 ⟨a.os,a.tape,a.output,a.size,λd b c=>a.block d b (λa=>c a.symm)⟩
theorem cC.nil(a te n)(C:ε->L ζ->α->Prop)(w):cC a te n C w aV [] []:=⟨iL _ _ _ _,Y,sI⟩
theorem qG{a:E}{te:TypeId}{n:E}{C:ε->L ζ->α->Prop}{w:ε}:cC a te n C w aV [] []:=cC.nil a te n C w
theorem cC.aJ{d:E}{c:ζ}{e:L (L ζ)}{f:TypeId->Prop}(k:dU f C){a:E->Prop}(b:cC d te n C w c xs e)(g:Fr a w w')(m:∀h,c.ownBlock=S h->¬a h)(l:∀i h,f i->fE i w h->¬a h):cC d te n C w' c xs e:=
 ⟨g.owns b.row m,b.len,λf c x d e=>⟨(b.each f c x d e).1,k a w w' c x g l (b.each f c x d e).2⟩⟩
theorem cC.fr{a:E}{c:ζ}{b:L (L ζ)}{d:TypeId->Prop}(f:dU d C)(e:cC a te n C w c xs b)(d:Fr j w w'):cC a te n C w' c xs b:=e.aJ f d (λ_ _ a=>a) (λ_ _ _ _ a=>a)
class SC {α:Type} (C:ε->L ζ->α->Prop):Prop where
 st:∃T,dU T C
instance{α:Type}(a:α->L ζ):SC (Pl a):=⟨λ_=>False,Pl.aJ _ _⟩
theorem fF.f[f:SC C]{a:ι Addr}{b c:E}(e:fF te n C w a b c xs)(d:Fr j w w'):fF te n C w' a b c xs:=f.st.elim λ_ a=>e.fr a d
theorem Sl.f[d:SC C]{a:ζ}(c:Sl te n C w a xs)(b:Fr j w w'):Sl te n C w' a xs:=d.st.elim λ_ a=>c.fr a b
theorem cC.f[f:SC C]{a:E}{c:ζ}{b:L (L ζ)}(e:cC a te n C w c xs b)(d:Fr j w w'):cC a te n C w' c xs b:=f.st.elim λ_ a=>e.fr a d
theorem iw{a:L (L ζ)}{n:E}(b:∀c∈a,c.length=n):a.flatten.length=a.length*n:=by
 induction a with
 |nil=>simp
 |cons a d c=>
  rw[oq,cA,b a sI,c (λa c=>b a (by simp[c])),bW,nC];omega
theorem sY{b:L (L ζ)}{n:E}(f:∀a∈b,a.length=n){d a:E}{e:L ζ}(c:b[d]? =S e)(i:a<n):b.flatten[d*n+a]? =e[a]? :=by
 induction b generalizing d with
 |nil=>simp at c
 |cons b e h=>
  have g:=f b sI;rw[oq];cases d with
  |zero=>
   simp at c;subst c;rw[E.zero_mul,de,jf O]
  |succ b=>
   rw[iV (by rw[g,nC];omega),g];rw[show(b+1)*n+a-n=b*n+a from by rw[nC];omega];exact h (λa b=>f a (by simp[b])) (sU c)
theorem cC.lens{a:E}{d:ζ}{b:L (L ζ)}(c:cC a te n C w d xs b):∀a∈b,a.length=n:=λa b=>by
 obtain⟨d,b⟩:=kc b;have e:=(cj.1 b).1;obtain⟨f,e⟩:∃e,xs[d]? =S e:=⟨_,cF (oB c.len)⟩;exact(c.each d a f b e).1
theorem cC.read{c:E}{b:ζ}{L:List (List ζ)}(a:cC c te n C w b xs L):Sl te n C w b xs:=by
 rcases a.row.2 with⟨rfl,f⟩|⟨d,e,k,rfl,l,h,i,g,m,o⟩
 .have:xs=[]:=fH f
  subst this;exact Sl.nil te n C w
 refine⟨_,d,0,e,Y,i,g,.inr ⟨Y,_,_,h⟩,λb g f=> ?_⟩;have c:=(cj.1 f).1;obtain⟨c,e⟩:∃c,L[b]? =S c:=⟨_,cF (oB a.len)⟩;obtain⟨f,g⟩:=a.each b c g e f;refine⟨c,f,g,λf g c=> ?_⟩;have a:=a.row.cells (g:=d) Y (b*n+f) g (by rw[sY a.lens e (oB ((cj.1 c).1))];exact c);rw[eV,de] at a;rw[de];exact a
theorem cC.at{i:E}{o:ζ}{g:L (L ζ)}(d:cC i te n C w o xs g){b:E}{h:α}(m:xs[b]? =S h):
  ∃c k e,o=.slice (S (H c 0)) xs.length k/\g[b]? =S e/\e.length=n/\C w e h/\(∀a f,e[a]? =S f->w.cell? (H c (b*n+a))=S f)/\(∀a,w.frozen? (H c a)=δ)/\i<=c/\fE te w c:=by
 have i:=(cj.1 m).1;rcases d.row.2 with⟨rfl,u⟩|⟨k,p,e,rfl,t,l,x,v,y,z⟩
 .omega
 obtain⟨e,c⟩:∃e,g[b]? =S e:=⟨_,cF (oB d.len)⟩;obtain⟨r,s⟩:=d.each b e h c m;refine⟨k,p,e,Y,c,r,s,λa f e=> ?_,λa=>aG l a,t,_,_,l⟩;have a:=d.row.cells (g:=k) Y (b*n+a) f (by rw[sY d.lens c (oB ((cj.1 e).1))];exact e);rwa[eV,de] at a
theorem cC.push{g:E}{l k:ζ}{b:L (L ζ)}{f:TypeId->Prop}(o:dU f C)(p:¬f te)(c:cC g te n C w l xs b){f:L ζ}{m:α}(t:f.length=n)(x:C w' f m)
  (u:w'.ownsRow g te n k (xs.length+1) (b.flatten++f))(r:w.grownBy w' l.ownBlock):cC g te n C w' k (xs++[m]) (b++[f]):=by
 refine⟨sU u,by simp[c.len],λe f g a d=> ?_⟩;rcases dP e b.length with i|i
 .rw[jf i] at a
  rw[jf (oB c.len)] at d;obtain⟨k,l⟩:=c.each e f g a d;refine⟨k,o _ w w' f g (gJ r) (λg f v f h=> ?_) l⟩;exact f.ne (aW c.row h).2 (λh=>p (by subst h;exact v)) Y
 rw[iV i] at a;rw[iV (oB c.len)] at d;have s:e-b.length=0:=by
  rcases jc (e-b.length) with b|b
  .exact b
  rw[jw sO] at a;cases a
 rw[s] at a;rw[show e-xs.length=0 from by have:=c.len;omega] at d;simp at a d;subst a d;exact⟨t,x⟩
theorem cC.app{g:E}{o l:ζ}{d M:L (L ζ)}{ys:L α}{m:TypeId->Prop}(p:dU m C)(s:¬m te)(a:cC g te n C w o xs d)(t:M.length=ys.length)(r:∀(b:E)(e:L ζ)(c:α),M[b]? =S e->ys[b]? =S c->e.length=n/\C w' e c)
  (u:w'.ownsRow g te n l (xs.length+ys.length) (d.flatten++M.flatten))(m:w.grownBy w' o.ownBlock):cC g te n C w' l (xs++ys) (d++M):=by
 refine⟨sU u,by simp[a.len,t],λb h c e f=> ?_⟩;rcases dP b d.length with k|k
 .rw[jf k] at e
  rw[jf (oB a.len)] at f;obtain⟨g,l⟩:=a.each b h c e f;refine⟨g,p _ w w' h c (gJ m) (λm g v g i=> ?_) l⟩;exact g.ne (aW a.row i).2 (λi=>s (by subst i;exact v)) Y
 rw[iV k] at e;rw[iV (oB a.len)] at f;exact r (b-d.length) h c e (by rw[a.len];exact f)
theorem Cd{a:L (L ζ)}{n:E}(f:∀b∈a,b.length=n){c b:E}{e:L ζ}{h:ζ}(d:a[c]? =S e)(k:b<n):(a.set c (e.set b h)).flatten=a.flatten.set (c*n+b) h:=by
 induction a generalizing c with
 |nil=>simp at d
 |cons a e i=>
  have g:=f a sI;cases c with
  |zero=>
   simp at d;subst d;rw[L.set_cons_zero,oq,oq,E.zero_mul,de,L.set_append_left _ _ O]
  |succ a=>
   rw[sM,oq,oq,vJ _ _ (by rw[g,nC];omega),g,show(a+1)*n+b-n=a*n+b from by rw[nC];omega];rw[i (λa b=>f a (by simp[b])) (sU d)]
theorem cC.set{l d o k i:E}{h:L (L ζ)}{c:L ζ}{x:α}{u:ζ}{m:TypeId->Prop}(y:dU m C)(z:¬m te)(a:cC l te n C w (.slice (S (H d 0)) xs.length o) xs h)(f:h[k]? =S c)(m:i<n)
  (B:C (w.setCell (H d (k*n+i)) u) (c.set i u) x):cC l te n C (w.setCell (H d (k*n+i)) u) (.slice (S (H d 0)) xs.length o) (xs.set k x) (h.set k (c.set i u)):=by
 obtain⟨d,v⟩:=a.row.stored (k*n+i) u;refine⟨by rw[Cd a.lens f m,dN];exact d,by simp[a.len],λr p s e g=> ?_⟩;by_cases b:k=r
 .subst b
  rw[jU (cj.1 f).1] at e;rw[jU (gX ((cj.1 f).1) a.len)] at g;obtain rfl:=cI e;obtain rfl:=cI g;exact⟨by simp[(a.lens c (bQ f))],B⟩
 rw[lQ b] at e g;obtain⟨c,d⟩:=a.each r p s e g;refine⟨c,y _ w _ p s (gJ v) (λt q A c b=> ?_) d⟩;exact c.ne ((aW a.row Y).2) (λb=>z (by subst b;exact A)) (sU b.symm)
theorem cC.lit{B a m:E}{L:List (List ζ)}{cs:θ ζ}(h:aY w a cs te)(g:B<=a)(i:m=xs.length)(k:m<=maxLen)(d:cs.toList=L.flatten)(b:L.length=xs.length)
  (e:∀(c:E)(cs:List ζ)(f:α),L[c]? =S cs->xs[c]? =S f->cs.length=n/\C w cs f):cC B te n C w (.slice (S (H a 0)) m m) xs L:=by
 subst i;have f:∀cs∈L,cs.length=n:=λcs f=>by
  obtain⟨f,c⟩:=kc f;have i:=(cj.1 c).1;obtain⟨l,i⟩:∃i,xs[f]? =S i:=⟨_,cF O⟩;exact(e f cs l c i).1
 have c:=iw f;refine⟨⟨by rw[c,b],.inr ⟨a,xs.length,cs,Y,g,h,jY _,k,by rw[<-nY,d,c,b],by rw[d,<-b,<-c,oz]⟩⟩,b,e⟩
end
def cW(a:T):L ζ:=[I a]
def rh(a:E):L ζ:=[.int .u64 (a:T)]
def CI:ε->L ζ->T->Prop:=Pl cW
def CU:ε->L ζ->E->Prop:=Pl rh
instance:SC CI:=⟨λ_=>False,Pl.aJ _ _⟩
instance:SC CU:=⟨λ_=>False,Pl.aJ _ _⟩
theorem Sl.pl{a:α->L ζ}(d:fF t m (Pl a) W A q n1 X)(e:X[n2]? =S x1):
  ∀b c,(a x1)[b]? =S c->W.cell? (H q (n1+n2*m+b))=S c:=by
 obtain⟨c,_,a,b⟩:=d.2 n2 x1 e;intro d e c;exact b d e (by rw[a];exact c)
theorem fF.int(a:fF t 1 CI W A m q e){k:E}{x:T}(b:e[k]? =S x):W.cell? (H m (q+k))=S (I x):=by
 have:=Sl.pl a b 0 _ Y;simpa using this
theorem fF.u64(a:fF t 1 CU W A m q B)(b:B[n1]? =S n2):W.cell? (H m (q+n1))=S (.int .u64 (n2:T)):=by
 have:=Sl.pl a b 0 _ Y;simpa using this
section
variable {α:Type} {P:Program} {te:TypeId} {n:E} {C:ε->L ζ->α->Prop} {T:TypeId->Prop}
def mV(c:E)(b:ζ)(e a:ε):Prop:=Fr (λd=>b.ownBlock=S d) e a/\∀a,b.ownBlock=S a->c<=a
theorem mV.fr{c:E}{e:ζ}{w b a:ε}(d:mV c e w b)(e:a.heap.size<=c)(c:Fr j a w):Fr j a b:=c.keep d.1 (λb a=>bX e (d.2 b a))
theorem cC.On{d:E}{b c:ε}{a:ζ}{g:L α}{e:L (L ζ)}(f:cC d te n C b a g e)(e:b.grownBy c a.ownBlock):mV d a b c:=⟨gJ e,λ_ a=>(aW f.row a).1⟩
theorem Sl.beside{l:Type}{a:TypeId}{d:E}{b:ε->L ζ->l->Prop}{h:TypeId->Prop}{g:E}{c f:ε}{i e:ζ}{r:L α}{k:L l}{m:L (L ζ)}
  (o:Sl a d b c e k)(p:dU h b)(l:cC g te n C c i r m)(m:mV g i c f)(g:a≠te)(c:¬h te):Sl a d b f e k:=
 o.aJ p m.1 (λf e d b a=>b.ne (aW l.row a).2 (λa=>d.elim (λb=>g (b.symm.trans a)) (λb=>c (a▸b))) Y)
theorem fF.beside{o:Type}{a:TypeId}{d:E}{b:ε->L ζ->o->Prop}{g:TypeId->Prop}{f:E}{c e:ε}{l:ζ}{h:ι Addr}{i k:E}{t:L α}{m:L o}{p:L (L ζ)}
  (r:fF a d b c h i k m)(s:dU g b)(o:cC f te n C c l t p)(p:mV f l c e)(f:a≠te)(c:¬g te):fF a d b e h i k m:=
 r.aJ s p.1 (λg e d b a=>b.ne (aW o.row a).2 (λa=>d.elim (λb=>f (b.symm.trans a)) (λb=>c (a▸b))) Y)
theorem cC.shape{c:E}{g:ε}{b:ζ}{a:L α}{d:L (L ζ)}(e:cC c te n C g b a d){m:E}(f:a.length=m):∃c a,b=.slice c m a/\m<=a/\a<=maxLen:=by
 subst f;exact bB e.row
theorem bH{d:ε}{z:θ Oper}{A:L Oper}{h:Oper}{f:Act}{t:Exit->Act->ε->Prop}(a0:h.guard=η)(l o){m:TypeId}(a2:h.op=Op.call {callee:=Callee.builtin Builtin.append,args:=#[l,o],argTypes:=#[m,m]}){v e:E}(D:dK P m te n v){i:ζ}{p:L α}{s:L (L ζ)}(c)(a1:p.length=c)(a3:f.eval l=i)(k:cC e te n C d i p s)(R:dU T C)(V:¬T te){u:ι Addr}{F:E}{cs:L ζ}(B:α)(a5:f.eval o=.slice u 1 F)(x:cs.length=n)(a4:eF d u cs)(a6:∀a,mV e i d a->C a cs B)(W:(c+1)*v<=140737488355328)(Q:c+1<=maxLen)(X:e<=d.heap.size)(U:∀g b a,cC e te n C a (.slice g (c+1) b) (p++[B]) (s++[cs])->mV e i d a->c+1<=b->b<=maxLen->wpList P z t A (f.put h.dst (.slice g (c+1) b)) a):
  wpList P z t (h::A) f d:=by
 subst a1;refine eD a0 l o a2 D a3 k.row (m:=1) a5 (by rw[x,E.one_mul]) a4 W Q X λa7 a y w _=> ?_;have r:=k.On w;obtain⟨g,b,rfl,G,K⟩:=bB y;exact U g b a (k.push R V x (a6 a r) y w) r G K
theorem tQ{d:ε}{ops:θ Oper}{g:Oper}{f:Act}{t:Act->ε->Prop}{Q:Exit->Act->ε->Prop}{E:Prop}(a0:g.guard=η)(m p){o:TypeId}(a2:g.op=Op.call {callee:=Callee.builtin Builtin.append,args:=#[m,p],argTypes:=#[o,o]}){w e:Nat}(B:dK P o te n w){k:ζ}{r:L α}{u:L (L ζ)}(c)(a1:r.length=c)(a3:f.eval m=k)(l:cC e te n C d k r u)(R:dU T C)(V:¬T te){v:ι Addr}{D:Nat}{i:L ζ}(A:α)(a5:f.eval p=.slice v 1 D)(y:i.length=n)(a4:eF d v i)(a6:∀a,mV e k d a->C a i A)(W:(c+1)*w<=140737488355328)(K:c+1<=maxLen)(X:e<=d.heap.size)(U:∀h b a,cC e te n C a (.slice h (c+1) b) (r++[A]) (u++[i])->mV e k d a->c+1<=b->b<=maxLen->t (f.put g.dst (.slice h (c+1) b)) a):
  if Region.wanted g (yielded ops f.tmps)=γ then Oper.wp P g f d t Q else E:=by
 subst a1;refine jl a0 m p a2 B a3 l.row (m:=1) a5 (by rw[y,Nat.one_mul]) a4 W K X λa7 a z x _=> ?_;have s:=l.On x;obtain⟨h,b,rfl,F,G⟩:=bB z;exact U h b a (l.push R V y (a6 a s) z x) s F G
theorem jI{f:ε}{F:θ Oper}{G:L Oper}{m:Oper}{k:Act}{w:Exit->Act->ε->Prop}{b:α->L ζ}(a5:m.guard=η)(p t){r:TypeId}(a8:m.op=Op.call {callee:=Callee.builtin Builtin.append,args:=#[p,t],argTypes:=#[r,r]}){y i:E}(K:dK P r te n y)(z:∀h,(b h).length=n){s:ζ}{u a:L α}{v:L (L ζ)}(e c)(a7:u.length=e)(a6:a.length=c)(a9:k.eval p=s)(o:cC i te n (Pl b) f s u v){x:ι Addr}{R:E}(b1:k.eval t=.slice x c R)(b0:eF f x (a.map b).flatten)(a1:(e+c)*y<=140737488355328)(X:e+c<=maxLen)(a2:i<=f.heap.size)(a0:∀l d g,cC i te n (Pl b) g (.slice l (e+c) d) (u++a) (v++a.map b)->mV i s f g->e+c<=d->d<=maxLen->wpList P F w G (k.put m.dst (.slice l (e+c) d)) g):
  wpList P F w (m::G) k f:=by
 subst a7 a6;have a4:(a.map b).flatten.length=a.length*n:=by
  rw[iw (n:=n) (λU a3=>by obtain⟨h,_,rfl⟩:=dE.1 a3;exact z h),eo]
 refine eD a5 p t a8 K a9 o.row (m:=a.length) b1 a4 b0 a1 X a2 λb4 g D A _=> ?_;have Q:=o.app (M:=a.map b) (ys:=a) (Pl.aJ b (λ_=>False)) id sI (λb3 U h B b2=>by
  rw[fN,b2] at B;obtain rfl:=cI B;exact⟨z h,Y⟩) D A
 obtain⟨l,d,rfl,V,W⟩:=bB D;exact a0 l d g Q (o.On A) V W
theorem fF.src{g:α->L ζ}{m:ε}{h:ι Addr}{o t:E}{a:L α}(i:fF te n (Pl g) m h o t a)(r:∀b,(g b).length=n)(p:∀b,∀c∈g b,c.oneCell'=γ):eF m h (a.map g).flatten:=by
 refine⟨?_,λc b=> ?_⟩
 .by_cases h:a=[]
  .left;rw[h];rfl
  right;refine⟨_,(i.1.resolve_left h).1,λd c b=> ?_⟩;have l:∀e∈a.map g,e.length=n:=λh f=>by obtain⟨e,_,rfl⟩:=dE.1 f;exact r e
  have k:d<a.length*n:=by
   have:=(cj.1 b).1;rwa[iw l,eo] at this
  have s:0<n:=by
   rcases jc n with e|e
   .subst e;simp at k
   exact e
  obtain⟨a,e⟩:∃e,a[d / n]? =S e:=⟨_,cF (E.div_lt_of_lt_mul (by rw[lK];exact k))⟩;have a:=E.div_add_mod d n;rw[lK] at a;rw[<-a,sY l (by rw[fN,e];rfl) (E.mod_lt _ s)] at b
  have:=Sl.pl i e (d % n) c b;rw[eV];rwa[nT,a] at this
 obtain⟨a,f,e⟩:=L.mem_flatten.1 b;obtain⟨k,_,rfl⟩:=dE.1 f;exact p k c e
end
theorem dR{a b:κ}(c:a=b):Ending.returned (.bool a)=.returned (.bool b):=by rw[c]
theorem iB{a:IntKind}(b:i1=i2):Ending.returned (.int a i1)=.returned (.int a i2):=by rw[b]
theorem bJ(a:X[m]? =S x1):X.take (m+1)=X.take m++[x1]:=by
 rw[L.take_add_one,a];rfl
theorem aZ.nm{P:Program}{d:FuncId}{c:θ ζ}{a:Ending->ε->Prop}(e:∀b,b=W->aZ (Calls P d c b a)):aZ (Calls P d c W a):=e W Y
theorem AM{P:Program}(b:∀a,a=W->wpList P o1 Q r1 a1 a):wpList P o1 Q r1 a1 W:=b W Y
theorem cT{P:Program}{b:Code}(c:∀a,a=W->b.wp P Q a1 a):b.wp P Q a1 W:=c W Y
abbrev aQ:=Calls prog
abbrev dr(c:E)(b:θ ζ)(a:ε)(d:ζ):Prop:=aQ c b a λc b=>c=.returned d/\Fr j a b
theorem dy(a b:Nat)(c:a<b:=by omega):(0:Int)<=(a:Int)/\(a:Int)<(b:Int):=⟨Int.natCast_nonneg _,O⟩
theorem gE(b:L α)(a)(c:a<b.length):∃d,b[a]? =S d:=⟨_,cF c⟩
theorem Zv{e q:Prop}(d:World)(i:q)(h:∀a,d=a->q->e:=by
 intro a c f;refine cT (λl g=> ?_);obtain⟨k,b⟩:=M a.heap.size;rw[<-c] at b;rw[<-b];clear c a;revert b;revert k;revert g;revert l;exact f):e:=h d rfl i
theorem nqS{e q:Prop}(d:World)(i:q)(h:∀a,d=a->q->e:=by
 intro a c f;refine aZ.nm (λl g=> ?_);obtain⟨k,b⟩:=M a.heap.size;rw[<-c] at b;rw[<-b];clear c a;revert b;revert k;revert g;revert l;exact f):e:=h d rfl i
theorem sg{P:Program}{f:FuncId}{d:θ ζ}{c a:Ending->ε->Prop}(g:Calls P f d W a)(h:∀e b,a e b->c e b):aZ (Calls P f d W c):=g.mono h
section
variable {w:ε} {B:E} {T:TypeId} {v0 v1 v2 v3 v4 v5 v6 v7 v8:ζ} {l:L ζ}
theorem oK(a:aY w B (v0::v1::l).toArray T):w.cell? (H B 0)=S v0/\w.cell? (H B 1)=S v1/\∀b,w.frozen? (H B b)=δ:=⟨aj a 0,aj a 1,aG a⟩
theorem mD(a:aY w B (v0::v1::v2::l).toArray T):w.cell? (H B 0)=S v0/\w.cell? (H B 1)=S v1/\w.cell? (H B 2)=S v2/\∀b,w.frozen? (H B b)=δ:=⟨aj a 0,aj a 1,aj a 2,aG a⟩
theorem gZ(a:aY w B (v0::v1::v2::v3::l).toArray T):w.cell? (H B 0)=S v0/\w.cell? (H B 1)=S v1/\w.cell? (H B 2)=S v2/\w.cell? (H B 3)=S v3/\∀b,w.frozen? (H B b)=δ:=⟨aj a 0,aj a 1,aj a 2,aj a 3,aG a⟩
theorem Va(a:aY w B (v0::v1::v2::v3::v4::l).toArray T):w.cell? (H B 0)=S v0/\w.cell? (H B 1)=S v1/\w.cell? (H B 2)=S v2/\w.cell? (H B 3)=S v3/\w.cell? (H B 4)=S v4/\∀b,w.frozen? (H B b)=δ:=⟨aj a 0,aj a 1,aj a 2,aj a 3,aj a 4,aG a⟩
theorem pc6(a:aY w B (v0::v1::v2::v3::v4::v5::l).toArray T):w.cell? (H B 0)=S v0/\w.cell? (H B 1)=S v1/\w.cell? (H B 2)=S v2/\w.cell? (H B 3)=S v3/\w.cell? (H B 4)=S v4/\w.cell? (H B 5)=S v5/\∀b,w.frozen? (H B b)=δ:=⟨aj a 0,aj a 1,aj a 2,aj a 3,aj a 4,aj a 5,aG a⟩
theorem pc7(a:aY w B (v0::v1::v2::v3::v4::v5::v6::l).toArray T):w.cell? (H B 0)=S v0/\w.cell? (H B 1)=S v1/\w.cell? (H B 2)=S v2/\w.cell? (H B 3)=S v3/\w.cell? (H B 4)=S v4/\w.cell? (H B 5)=S v5/\w.cell? (H B 6)=S v6/\∀b,w.frozen? (H B b)=δ:=⟨aj a 0,aj a 1,aj a 2,aj a 3,aj a 4,aj a 5,aj a 6,aG a⟩
theorem pc8(a:aY w B (v0::v1::v2::v3::v4::v5::v6::v7::l).toArray T):w.cell? (H B 0)=S v0/\w.cell? (H B 1)=S v1/\w.cell? (H B 2)=S v2/\w.cell? (H B 3)=S v3/\w.cell? (H B 4)=S v4/\w.cell? (H B 5)=S v5/\w.cell? (H B 6)=S v6/\w.cell? (H B 7)=S v7/\∀b,w.frozen? (H B b)=δ:=⟨aj a 0,aj a 1,aj a 2,aj a 3,aj a 4,aj a 5,aj a 6,aj a 7,aG a⟩
theorem Vx(a:aY w B (v0::v1::v2::v3::v4::v5::v6::v7::v8::l).toArray T):w.cell? (H B 0)=S v0/\w.cell? (H B 1)=S v1/\w.cell? (H B 2)=S v2/\w.cell? (H B 3)=S v3/\w.cell? (H B 4)=S v4/\w.cell? (H B 5)=S v5/\w.cell? (H B 6)=S v6/\w.cell? (H B 7)=S v7/\w.cell? (H B 8)=S v8/\∀b,w.frozen? (H B b)=δ:=⟨aj a 0,aj a 1,aj a 2,aj a 3,aj a 4,aj a 5,aj a 6,aj a 7,aj a 8,aG a⟩
end
structure Gl(w:ε):Prop where
 tab:∀j,j<64->w.cell? (H 5 j)=S (.int .u8 (Lib.deBruijn64tab.getD j 0))
theorem Gl.fr{w a:ε}(c:Gl w)(b:Fr j w a):Gl a:=⟨λd a=>b.aF (c.tab d a) id⟩
def Hc(a:T):E:=if 0<=a/\a<64 then 2 ^ a.toNat else 0
theorem BQ(a:m<64):Hc m=2 ^ m:=by unfold Hc;rw[aS O];simp
theorem ye(a:m<64):2 ^ m<18446744073709551616:=jd (E.pow_lt_pow_right J a) eG
theorem Lg(a d):aQ 315 #[I a] d λc b=>c=.returned (.int .u64 (Hc a:T))/\d=b:=by
 by_cases d:a<0
 .delta aQ;go_in
  go_wp2;go_ret;exact⟨by rw[(show Hc a=0 by unfold Hc;rw[aR O])];rfl,Y⟩
 by_cases d:64<=a
 .delta aQ;go_in
  go_wp2;go_ret;exact⟨by rw[(show Hc a=0 by unfold Hc;rw[aR O])];rfl,Y⟩
 obtain⟨b,rfl⟩:∃c:E,a=c:=⟨a.toNat,O⟩;have c:b<64:=O;rw[BQ c]
 delta aQ;go_in
 go_wp2;go_ret;refine⟨iB ?_,Y⟩;have c:=ye c;have a:((2:T) ^ b)=((2 ^ b:E):T):=by rw[T.natCast_pow];rfl
 rw[qw,a];generalize 2 ^ b=a at c;omega
theorem Yb:((m&&&2 ^ q !=0):κ)=m.testBit q:=by
 rw[dS,gd];constructor
 .intro c
  cases d:m.testBit q
  .exfalso
   apply c;apply lI;intro b;rw[sX,sG];by_cases a:q=b
   .subst a;rw[d,κ.false_and,ti]
   rw[show decide (q=b)=δ by simpa using a,κ.and_false,ti]
  rfl
 intro b a
 have:=cH (λc=>E.testBit c q) a;simp only[sX,sG,b,decide_true,κ.and_true,ti] at this;cases this
theorem YN(a:m<18446744073709551616)(b:q<18446744073709551616):m|||q<18446744073709551616:=pD (n:=64) a b
theorem xF(a:E):((a:T) !=0)=(a !=0):=by
 rw[dS,gd,gd];omega
theorem wC(a:E):((a:T)==0)=(a==0):=by
 rw[dS,ef,ef];omega
theorem KL(d a:E)(k:d<18446744073709551616)(e:a<64)(b):aQ 272 #[.int .u64 d,I a] b λf c=>f=.returned (.bool (d.testBit a))/\b=c:=by
 have f:=ye e;obtain⟨g,c⟩:=M (2 ^ a);have HP:=Z c;have a:∀b,aQ 315 #[I a] b λi h=>i=.returned (.int .u64 (g:T))/\b=h:=λb=>by
  have:=Lg a b;rwa[BQ e,<-c] at this
 rw[<-c] at f;clear c
 delta aQ;go_in
 go_wp
 refine sg (a _) ?_;rintro a b ⟨rfl,rfl⟩;go_wp2;go_ret;refine⟨dR ?_,Y⟩;rw[bits_and_u64_nat d g k f,xF,HP.1];exact Yb
theorem wW(c a:E)(k:c<18446744073709551616)(e:a<64)(b):aQ 274 #[.int .u64 c,I a] b λf d=>f=.returned (.int .u64 ((c|||2 ^ a:E):T))/\b=d:=by
 have f:=ye e;obtain⟨g,d⟩:=M (2 ^ a);rw[<-d] at f |-;have a:∀b,aQ 315 #[I a] b λi h=>i=.returned (.int .u64 (g:T))/\b=h:=λb=>by
  have:=Lg a b;rwa[BQ e,<-d] at this
 clear d
 delta aQ;go_in
 go_wp
 refine sg (a _) ?_;rintro a b ⟨rfl,rfl⟩;go_wp2;go_ret;exact⟨iB (u64_or_nat c g k f),Y⟩
theorem aca(e:m<18446744073709551616)(g:q<18446744073709551616):((m&&&(18446744073709551615-q)==0):κ)=Fb m q:=by
 rw[dS,ef,sm];have c:∀a,a<64->(18446744073709551615-q).testBit a=!q.testBit a:=λb a=>by
  have:18446744073709551615-q=2 ^ 64-(q+1):=O;rw[this,E.testBit_two_pow_sub_succ (by exact g)];simp[a]
 constructor
 .intro d b a f
  have:=cH (λg=>E.testBit g b) d;simp only[sX,f,c b a,ti,nB] at this;simpa using this
 intro d;apply lI;intro b;rw[sX,ti];rcases dP b 64 with a|a
 .cases f:m.testBit b
  .rfl
  rw[c b a,d b a f];rfl
 rw[E.testBit_lt_two_pow (jd e (lj (n:=2) J a)),κ.false_and]
theorem KG(a b:E)(c:a<18446744073709551616)(d:b<18446744073709551616)(e):aQ 273 #[.int .u64 a,.int .u64 b] e λg f=>g=.returned (.bool (Fb a b))/\e=f:=by
 delta aQ;go_in
 go_wp2;go_ret;refine⟨dR ?_,Y⟩;rw[u64_andNot_nat a b c d,wC];exact aca c d
theorem To(a b:E)(d:a<18446744073709551616)(c:a≠0)(c:a&&&(18446744073709551616-a)=b):
  IntKind.u64.wrap (bits BinOp.and IntKind.u64 (a:T) (IntKind.u64.wrap (-(a:T)))*285870213051353865) / 288230376151711744=((b*285870213051353865 % 18446744073709551616 / 288230376151711744:E):T):=by
 have b:IntKind.u64.wrap (-(a:T))=((18446744073709551616-a:E):T):=by rw[qw];omega
 rw[b,bits_and_u64_nat a _ d O,c,qw];omega
theorem XU(a c b:E)(d)(e:((a:T)==0)=δ)
  (e:IntKind.u64.wrap (bits BinOp.and IntKind.u64 (a:T) (IntKind.u64.wrap (-(a:T)))*285870213051353865) / 288230376151711744=(b:T))
  (f:b<64)(f:c<64)(f:d.cell? (H 5 b)=S (.int .u8 c)):
  aQ 314 #[.int .u64 a] d λb a=>b=.returned (I c)/\d=a:=by
 delta aQ;go_in
 go_wp2_with (simp only[e]);go_ret;exact⟨Y,Y⟩
theorem abO(a:E)(g:a≠0)(f:a<18446744073709551616)(b)(h:Gl b):aQ 314 #[.int .u64 a] b λd c=>d=.returned (I (Lib.ctz 64 a))/\b=c:=by
 obtain⟨i,e⟩:=Lib.lowest_bit 64 a g f;obtain⟨d,k⟩:=Lib.deBruijn64_at _ e;have c:=h.tab _ d;rw[k] at c;exact XU a _ _ b sO (To a _ f g i) d e c
theorem Vp(u:m≠0)(t:m<18446744073709551616):Lib.ctz 64 m<64/\m.testBit (Lib.ctz 64 m)=γ/\(∀a,a<Lib.ctz 64 m->m.testBit a=δ)/\∀a,(m&&&(m-1)).testBit a=(m.testBit a&&a !=Lib.ctz 64 m):=by
 obtain⟨c,f,h⟩:=Lib.ctzFrom_spec 64 m O t;have ec:Lib.ctz 64 m=Lib.ctzFrom 64 m:=by simp[Lib.ctz,u]
 rw[ec];generalize v:Lib.ctzFrom 64 m=b at f h |-;have e:∀a,m.testBit a=if a<b then δ else(2*c+1).testBit (a-b):=λa=>by
  rw[f]
  have:=E.testBit_two_pow_mul_add (2*c+1) (i:=b) (b:=0) (oa b) a;rw[fI] at this;rw[this];split<;>simp
 have p:∀a,(m-1).testBit a=if a<b then γ else(2*c).testBit (a-b):=λa=>by
  have k:m-1=2 ^ b*(2*c)+(2 ^ b-1):=by
   have:=oa b;rw[f,E.mul_add,gA];omega
  rw[k,E.testBit_two_pow_mul_add (2*c) (i:=b) (b:=2 ^ b-1) (oB (oa b)) a];split
  .rename_i o;rw[E.testBit_two_pow_sub_one];simpa using o
  rfl
 refine⟨h,?_,λa s=> ?_,λa=> ?_⟩
 .rw[e,aR (E.lt_irrefl _),E.sub_self];simp
 .rw[e,aS s]
 rw[sX,e,p];by_cases d:a<b
 .rw[aS d,aS d];simp
 rw[aR d,aR d];by_cases g:a=b
 .subst g;simp
 obtain⟨i,r⟩:∃i,a-b=i+1:=⟨a-b-1,O⟩;rw[r,E.testBit_succ,E.testBit_succ];have l:(2*c+1) / 2=c:=O;have n:2*c / 2=c:=O;rw[l,n];have:(a !=b)=γ:=sU g;rw[this];simp
theorem xo(b a):∀c,a<c->b a=γ->(∀d,d<a->b d=δ)->(L.range c).filter b=a::(L.range c).filter (λc=>b c&&c !=a)
 |0,h,_,_=>by omega
 |c+1,h,hp,hl=>by
  rw[nE,L.filter_append,L.filter_append];by_cases d:a=c
  .subst d
   have e:(L.range a).filter (λe=>b e&&e !=a)=[]:=vD.2 (λf e=>by rw[hl f (sU e)];simp);rw[(vD.2 (λg f=>by rw[hl g (sU f)];simp)),e];simp[hp]
  rw[xo b a c O hp hl,im];have e:(c !=a)=γ:=by simpa using λe=>d e.symm
  have a:[c].filter (λd=>b d&&d !=a)=[c].filter b:=by simp[qg,e]
  rw[a]
theorem Om(b:m≠0)(a:m<18446744073709551616):cJ m=Lib.ctz 64 m::cJ (m&&&(m-1)):=by
 obtain⟨a,b,c,d⟩:=Vp b a;unfold cJ;rw[xo m.testBit _ 64 a b c];congr 1
 exact L.filter_congr (λa _=>(d a).symm)
theorem Gz:cJ 0=[]:=by simp[cJ]
theorem kU(a):(cJ a).length<=64:=by
 have:=pZ a.testBit (L.range 64);simpa[cJ] using this
theorem oG:dK prog 30 3 1 8:=dK.of underlying30 (z:=aI) kR Y J
theorem da:dU (λ_=>False) CI:=Pl.aJ _ _
theorem jR:dU (λ_=>False) CU:=Pl.aJ _ _
theorem LC(a:m≠0)(b:m<18446744073709551616):ζ.int .u64 (bits BinOp.and IntKind.u64 (m:T) (IntKind.u64.wrap ((m:T)-1)))=.int .u64 ((m&&&(m-1):E):T):=by
 have a:IntKind.u64.wrap ((m:T)-1)=((m-1:E):T):=by rw[qw];omega
 rw[a,bits_and_u64_nat m _ b O]
theorem rJ(b:E)(s:b<18446744073709551616)(e)(p:Gl e):aQ 271 #[.int .u64 b] e λd a=>∃c,d=.returned c/\Sl 3 1 CI a c (cU (cJ b))/\Fr j e a:=by
 obtain⟨n,r⟩:=M e.heap.size;have i:=Z r
 delta aQ;go_in
 go_wp2;go_loopg [0,3] 64 (λgk s0 s3 wr=>∃(a:E)(c:L E)(d:L (L ζ)),s0=.int .u64 a/\a<18446744073709551616/\c++cJ a=cJ b/\(cJ a).length<=gk/\cC n 3 1 CI wr s3 (cU c) d/\Fr j e wr)
 .exact⟨b,[],[],Y,s,Y,kU b,qG,rF⟩
 case round=>
  obtain⟨c,a,t,rfl,g,m,w,h,f⟩:=hrel;have k:=Z m;have e:a.length<=64:=by
   have:=cH L.length m
   have:=kU b;simp at*;omega
  have l:(cU a).length=a.length:=by simp[cU]
  obtain⟨u,v,rfl,-,-⟩:=h.shape l;by_cases d:c=0
  .subst d
   have o:N (a=cJ b):=Z (by have:=k.1;rwa[Gz,lh] at this);go_wp2;go_ret;exact⟨_,Y,by rw[<-o.1];exact h.read,f⟩
  have b:((c:T) !=0)=γ:=by rw[xF];simpa using d
  have b:=Z d;have HL:=(Om d g);have o:=Z (LC d g);clear d;go_wp
  refine sg (abO c b.1 g _ (p.fr f)) ?_;rintro b d ⟨rfl,rfl⟩;have b:(a.length+1)*8<=140737488355328:=O;have d:a.length+1<=maxLen:=mL;go_wp2_with (at_builtin;refine stop ?_);refine aZ.go (bH Y (.tmp 10) (.tmp 13) Y oG a.length l Y (h.fr da (tC.alloc _)) da id ((Lib.ctz 64 c:E):T) Y Y (eF.one _ _ _ Y) (λ_ _=>Y) b d ?p6 ?p7)
  case p6=>have:=f.size;have:=i.1;simp;omega
  case p7=>
   intro e h l d b _ _;have b:=(b.fr (gh i.1.symm) (f.alloc _));go_wp2;go_roundg (gk-1)
   .exact⟨c&&&(c-1),a++[Lib.ctz 64 c],_,o.1,E.lt_of_le_of_lt E.and_le_left g,by rw[dm,sV,<-HL];exact k.1,by have:=cH L.length HL;simp at this;omega,by have:=d;simp only[cU,nO,jC,nu] at this |-;exact this,b⟩
   have:=cH L.length HL;simp at this;omega
def kg(a:L E):E:=a.foldl (λa b=>a|||b) 0
theorem IL(a b):kg (a++[b])=kg a|||b:=by simp[kg,mf]
theorem Qf:∀{a:L E},(∀b∈a,b<18446744073709551616)->kg a<18446744073709551616:=by
 have d:∀(b:L E)(a:E),a<18446744073709551616->(∀c∈b,c<18446744073709551616)->b.foldl (λb c=>b|||c) a<18446744073709551616:=by
  intro a;induction a with
  |nil=>intro b a _;exact a
  |cons e a c=>intro f b a;exact c _ (YN b (a e sI)) (λc b=>a c (by simp[b]))
 intro b a;exact d b 0 J a
theorem Co(i a e)(k:Sl 336 1 CU e i a)(h:∀b∈a,b<18446744073709551616)(l:a.length<=1000000):aQ 311 #[i] e λc b=>c=.returned (.int .u64 (kg a:E))/\e=b:=by
 obtain⟨m,n,r,o,rfl,-,-,g⟩:=k;generalize e:a.length=d at l |-
 delta aQ;go_in
 go_wp2;go_loop [3,8] (λs3 e=>∃b:E,b<=d/\e=I b/\s3=.int .u64 (kg (a.take b):E)) (λ_ e=>d-(intOf e).toNat)
 .exact⟨0,nG,Y,Y⟩
 case round=>
  obtain⟨b,p,rfl,rfl⟩:=hrel;by_cases e:b<d
  .obtain⟨f,c⟩:=gE a b O
   obtain rfl:=g.addr c;have e:=g.u64 c;have⟨d,e⟩:=dy b d;have a:N (ζ.int .u64 (bits BinOp.or IntKind.u64 ((kg (a.take b):E):T) (f:T))=.int .u64 (kg (a.take (b+1)):E)):=Z (by
    rw[bJ c,IL,u64_or_nat _ f (Qf λd a=>h d (L.mem_of_mem_take a)) (h f (bQ c))])
   go_wp2;go_round
   case rel=>exact⟨b+1,O,by go_num,a.1⟩
   case measure=>simp[intOf];omega
  go_wp2;go_ret;exact⟨iB (by rw[(dq O)]),Y⟩
structure aX(w1:ε) where
 w:ε
 fr:Fr j w1 w
instance(a:ε):Nonempty (aX a):=⟨⟨a,Fr.refl j a⟩⟩
theorem aX.cell{a:Addr}(c:W.cell? a=S x)(b:aX W):b.w.cell? a=S x:=b.fr.aF c id
theorem bj{P:Program}{id:E}(e:P.follows .mixedOrders=γ)(d:Region.lexB .any r1.toArray=γ)
  (c:wpQuiet P r1.toArray (λa=>∃b:aX W,a=b.w) (λb=>∀a,(∃f:aX W,a=f.w)->Q .normal b a) r1 a1):(Code.region id r1.toArray γ).wp P Q a1 W:=
 wp_region_quiet (C:=λa=>∃b:aX W,a=b.w) e d ⟨⟨_,(Fr.refl j W).drew⟩,Y⟩ (sU c)
theorem aX.call{P:Program}{c:FuncId}{b:θ ζ}(a:aX W)(f:Calls P c b a.w λe d=>e=.returned x/\Fr j a.w d):
  Calls P c b a.w λc b=>c=.returned x/\∃c:aX W,b=c.w:=
 f.mono λ_ b ⟨c,d⟩=>⟨c,⟨b,a.fr.tr d⟩,Y⟩
theorem bI(a:∃b:aX W,V=b.w):Fr j W V:=by
 obtain⟨b,a⟩:=a;rw[a];exact b.fr
theorem aX.rU{P:Program}{c:FuncId}{b:θ ζ}(a:aX W)(f:Calls P c b a.w λe d=>e=.returned x/\a.w=d):
  Calls P c b a.w λc b=>c=.returned x/\∃c:aX W,b=c.w:=
 f.mono λ_ _ ⟨b,c⟩=>⟨b,a,c.symm⟩
theorem aX.at_(b:∀a,Fr j W a->G a)(a:aX W):G a.w:=b a.w a.fr
theorem bY(a b):(bF a b).length=a:=by simp[bF]
theorem cL{a:Rl}(b:q<m):(bF m a)[q]? =S (row m a q):=by simp[bF,b]
theorem Yc{a:Rl}(b:m<=64):∀c∈bF m a,c<18446744073709551616:=λa c=>by
 obtain⟨d,_,rfl⟩:=dE.1 c;exact dW b
def iM(a:E)(c:Rl)(e:ε)(d:ζ):Prop:=∃b,d=.agg #[I a,b]/\Sl 336 1 CU e b (bF a c)
theorem iM.fr{b:Rl}{w a:ε}(c:iM m b w x)(d:Fr j w a):iM m b a x:=by
 obtain⟨c,a,b⟩:=c;exact⟨c,a,b.f d⟩
theorem Gk(b:m<=64):∀(a:L E),(∀b∈a,b<2 ^ m)->kg a<2 ^ m:=by
 have d:∀(b:L E)(a:E),a<2 ^ m->(∀c∈b,c<2 ^ m)->b.foldl (λb c=>b|||c) a<2 ^ m:=by
  intro a;induction a with
  |nil=>intro b a _;exact a
  |cons e a c=>intro f b a;exact c _ (pD b (a e sI)) (λc b=>a c (by simp[b]))
 intro b a;exact d b 0 (oa m) a
theorem YS(a:m<=64)(b:q<2 ^ m):Fb q (2 ^ m-1)=γ:=sm.2 λc _ a=>by
 rw[E.testBit_two_pow_sub_one];simpa using Iz b a
theorem Nf(a:E)(e:a<=64)(b:ε):aQ 333 #[I a] b λd c=>d=.returned (.int .u64 ((2 ^ a-1:E):T))/\b=c:=by
 delta aQ;go_in
 go_wp2;go_ret;refine⟨iB ?_,Y⟩;have b:((2:T) ^ a)=((2 ^ a:E):T):=by rw[T.natCast_pow];rfl
 have c:=lj (n:=2) J e;have d:=oa a;rw[qw,qw,b];generalize 2 ^ a=a at c d;omega
theorem jr(a:E)(c:Rl)(d:a<=64)(b:ε)(e:ζ)(k:iM a c b e):dr 312 #[e] b (.bool γ):=by
 obtain⟨n,rfl,h⟩:=k;obtain⟨f,g,rfl,-,-⟩:=h.slice;rw[bY] at*;have HJ:∀e,Fr j b e->aQ 311 #[.slice f a g] e λk i=>k=.returned (.int .u64 (kg (bF a c):E))/\e=i:=(λe i=>Co _ _ e (h.f i) (Yc d) (by rw[bY];omega));have HN:=(λe=>Nf a d e);have l:kg (bF a c)<2 ^ a:=Gk d _ (λe i=>by obtain⟨m,_,rfl⟩:=dE.1 i;exact lJ _ _);have e:=lj (n:=2) J d;have HS:∀e,aQ 273 #[.int .u64 (kg (bF a c):E),.int .u64 ((2 ^ a-1:E):T)] e λi h=>i=.returned (.bool γ)/\e=h:=(λe=>by
  have:=KG (kg (bF a c)) (2 ^ a-1) O O e;rw[YS d l] at this;exact this)
 generalize c:kg (bF a c)=c at HJ HS;generalize c:2 ^ a-1=c at HN HS;have c:(0:T)<=(a:T):=jD;have c:(a:T)<=64:=O
 delta dr aQ;go_in
 go_upto_region 1 with fail;obtain⟨e,c⟩:=M b.heap.size;obtain⟨d,hw⟩:=M (b.alloc (.cells #[I a,.slice f a g] 355));rw[<-c,<-hw];have a:d.heap[e]? =S (.cells #[I a,.slice f a g] 355 (0,0)):=(hw▸bM c);have b:Fr j b d:=(hw▸(Fr.refl j b).alloc _);clear hw c;have c:=aX.cell (aj a 0);have d:=aX.cell (aj a 1);refine bj kR kR ?_;repeat(go_big_quiet_step (first|(go_at_call 311;exact aX.rU _ (HJ _ (b.step (aX.fr _))))|(go_at_call 333;exact aX.rU _ (HN _))|(go_at_call 273;exact aX.rU _ (HS _))))
 refine wpQuiet_nil ?_;intro e a;have i:=(b.step (bI a));clear a c d;go_wp2;go_ret;exact⟨Y,i⟩
def iO:Rl:=λ_ _=>δ
theorem abF(b a):row b iO a=0:=zS
theorem WM:(prog.info? 336).map (λa=>(a.zero,a.size,a.bytes))=S (S (.int .u64 0),1,8):=kR
theorem Ux(b a)(c:m<a):(madeCells #[b] a)[m]? =S b:=by simp[madeCells,c,E.mod_one]
theorem mG(a:E)(b:a<=64)(c:ε):aQ 306 #[I a] c λe d=>∃b,e=.returned (.tuple #[.agg #[I a,.slice (S (H b 0)) a a],aI])/\c.heap.size<=b/\d.heap[b]? =S (.cells (madeCells #[.int .u64 0] a) 336 (0,0))/\Fr j c d:=by
 obtain⟨h,d,e,f,g⟩:=lV WM;have b:∀b:ε,(Instr.makeSlice 353 (I a) (I a)).run prog b=.ok (.slice (S (H b.heap.size 0)) a a) (b.alloc (.cells (madeCells #[.int .u64 0] a) 336)):=λb=>by
  have:=run_make (P:=prog) (w:=b) 353 336 h (.int .u64 0) underlying353 d e .i64 .i64 a a O O (by rw[g];omega) O;simpa[f,ζ.cells] using this
 have b:(0:T)<=(a:T):=jD
 delta aQ;go_in
 go_wp2;refine aO (v:=.tuple #[.agg #[I a,.slice (S (H (c.heap.size+1) 0)) a a],aI]) (by simp[results,results306,go_sem]) Y ⟨_,Y,jz _,?_,?_⟩
 .exact bM sI
 exact((Fr.refl j c).alloc _).alloc _
def AP(a:L E):θ ζ:=(a.map (λ(a:E)=>ζ.int .u64 (a:T))).toArray
def Ub(c:ε)(a:E)(b:L E):Prop:=c.heap[a]? =S (.cells (AP b) 336 (0,0))
theorem Ub.cell(a:Ub W m B)(b:B[q]? =S n1):W.cell? (H m q)=S (.int .u64 (n1:T)):=by
 rw[aj a q];simp[AP,b]
theorem Ub.set{w:ε}(a:Ub w m B)(k x:E):Ub (w.setCell ⟨m,k,η⟩ (.int .u64 (x:T))) m (B.set k x):=by
 have:=aD a k (.int .u64 (x:T));unfold Ub;rw[this];simp[AP,lU]
theorem Ub.sl{a n:E}(c:Ub W a B)(g:B.length=n)(f:n<=maxLen):Sl 336 1 CU W (.slice (S (H a 0)) n n) B:=by
 subst g;refine⟨_,a,0,B.length,Y,eG,f,.inr ⟨Y,_,_,c⟩,λd a e=>⟨rh a,Y,Y,λa d b=> ?_⟩⟩;have d:a=0:=by have:=(cj.1 b).1;simp[rh] at this;exact this
 subst d
 have:=c.cell e;simp[rh] at b;subst b;simpa using this
theorem Ub.fr{w a:ε}{S:E->Prop}(c:Ub w m B)(b:Fr S w a)(d:¬S m):Ub a m B:=b.aB c d
theorem mY(a):madeCells #[ζ.int .u64 0] a=AP (L.replicate a 0):=by
 apply θ.ext
 .simp[madeCells,AP]
 intro c a b;simp[madeCells,AP,E.mod_one]
theorem vX(a):L.replicate a 0=bF a iO:=by
 apply lB;intro b;by_cases a:b<a
 .rw[cL a,abF];simp[a]
 simp[bF,a]
theorem kQ{P:Program}(s:o2.guard=η)(d f){e i:TypeId}(t:o2.op=.call {callee:=.builtin .copy,args:=#[d,f],argTypes:=#[e,i]}){elem:TypeId}(x:P.underlying e=S (.slice elem))(w:(P.info? elem).map (·.size)=S 1){g n m y:E}(r:a1.eval d=.slice (S ⟨g,0,η⟩) n m)(u:a1.eval f=.slice A n y){c:θ ζ}{k:TypeId}(h:W.heap[g]? =S (.cells c k (0,0)))(p:c.size=n)(a)(b:a.length=n)(v:eF W A a)(o:∀l,l.heap[g]? =S (.cells a.toArray k (0,0))->bT g W l->wpList P o1 Q r1 (a1.put o2.dst (goInt n)) l):wpList P o1 Q (o2::r1) a1 W:=by
 rcases v.1 with rfl|⟨z,rfl,C⟩
 .simp at b
  subst b;refine wpList_copy_nothing s d f e i t elem x w _ _ _ _ _ _ r u sI (o W ?_ rF);rw[h];simp at p;simp[p]
 refine wpList_copy_own s d f e i t elem x w g 0 n m z n y r u c k h a (by rw[b];exact(E.min_self n).symm) C O v.2 ?_;rw[b];have B:(c.toList.take 0++(a++c.toList.drop (0+n))).toArray=a.toArray:=by
  rw[mq sO];simp
 rw[B];refine o _ ?_ ?_
 .simp[ε.setRow,vB,h]
 exact⟨Y,Y,Y,by simp[ε.setRow],λD F b=>nF W g D _ b⟩
def oI(e:Rl)(c d:E):Rl:=λa b=>e a b||(a==c&&b==d)
theorem Dj{a:Rl}(i:q<m)(h:n1<m):(bF m a).set q (row m a q|||2 ^ n1)=bF m (oI a q n1):=by
 apply lB;intro b;by_cases f:b<m
 .rw[cL f]
  by_cases e:q=b
  .subst e
   rw[jU (by rw[bY];exact f)];(congr 1);apply lI;intro c;rw[lR,row,row,bR,bR,sG];by_cases g:c<m
   .by_cases d:n1=c
    .subst d;simp[h,oI]
    (have a:(c==n1)=δ:=by simpa using λh=>d h.symm);simp[g,d,oI,a]
   have:¬n1=c:=O;simp[g,this]
  rw[lQ e,cL f];congr 1
  refine gU λd c=> ?_;have a:(b==q)=δ:=by simpa using λc=>e c.symm
  simp[oI,a]
 have a:m<=b:=O;rw[jw (by simp[bY];exact a),jw (by rw[bY];exact a)]
theorem Zz(a):(a.map rh).flatten=(AP a).toList:=by
 induction a with
 |nil=>rfl
 |cons b c a=>simp[AP,rh] at a |-;exact a
theorem Pr:(prog.info? 336).map (·.size)=S 1:=kR
theorem wS(a e)(t:a<=64)(b g)(Q:b<a)(R:g<a)(f i)(A:iM a e f i):
  aQ 307 #[i,I b,I g] f λh d=>∃c,h=.returned (.tuple #[c,aI])/\iM a (oI e b g) d c/\Fr j f d:=by
 have G:=Z (λc(d:Fr j f c)=>jr a e t c i (A.fr d));obtain⟨a3,rfl,P⟩:=A;obtain⟨v,a1,a2,z,rfl,-,-,D⟩:=P;rw[bY] at*;have F:=Z (λc=>mG a t c);have w:=Q;have K:=R;have i:(0:T)<=(b:T):=jD;have i:(0:T)<=(g:T):=jD;have i:(b:T)<(a:T):=O;go_enter func307,ntmps307;go_wp2_with (go_at_call 312;refine stop ?_);obtain⟨c,h⟩:=M f.heap.size;obtain⟨i,d⟩:=M ((f.alloc (.cells #[I a,.slice v a z] 355)).alloc (.cells #[aI,aV] 355));rw[<-d];have l:Fr j f i:=(d▸((Fr.refl j f).alloc _).alloc _);have n:N (i.heap[c]? =S (.cells #[I a,.slice v a z] 355 (0,0))):=Z (d▸aC (bM h) _);have s:N (i.heap[c+1]? =S (.cells #[aI,aV] 355 (0,0))):=Z (d▸bM (by simp[h]));have p:N (i.heap.size=c+2):=Z (by rw[d];simp[h]);rw[<-h];have m:=Z h;clear d h;refine sg (G.1 i l) ?_;rintro i X ⟨rfl,d⟩;have o:=(l.step d);have⟨k,u⟩:=bD (d.aB n.1 id) (d.aB s.1 id);have r:c+2<=X.heap.size:=(gX d.size p.1);clear d l n s p;have d:=bx k.1;have h:=dh k.1;go_wp2_with (go_at_call 306;refine stop ?_);clear d h;refine sg (F.1 _) ?_;rintro i a0 ⟨q,rfl,s,n,d⟩;have p:=(o.step d);have⟨l,x,y⟩:=dt (d.aB k.1 id) (d.aB u.1 id) n;have h:c+2<=q:=oB r;have B:=ba n;clear d n s o k u r;have U:=bx l.1;have V:=dh l.1;have W:=λd=>dh (aC l.1 d);obtain⟨o,s⟩:=M a0.heap.size;have C:=bY a e;go_wp2_with (refine kQ Y (.tmp 41) (.tmp 43) Y (elem:=336) underlying353 Pr (g:=q) (n:=a) Y Y (aC y.1 _) (ns _ _) ((bF a e).map rh).flatten ?c1 ?c2 ?c3)
 case c1=>rw[Zz];simp[AP,C]
 case c2=>exact((D.f (p.alloc _)).src (g:=rh) (λ_=>Y) (λk i d=>by simp[rh] at d;subst d;rfl))
 case c3=>
  intro d u i;have r:Ub d q (bF a e):=(by rw[Zz] at u;exact u);have k:N (d.heap[o]? =S (.cells #[I a,.slice (S (H q 0)) a a] 355 (0,0))):=Z (i.aB (bM s) (λk=>by have:=B;omega));have n:=Z (i.aB (aC x.1 _) (λn=>by have:=h;omega));have z:=((p.alloc _).keep i (λz v=>by have:=h;have:=m.1;omega));have v:N (¬q=o):=Z (oB B);rw[<-s];clear s u i U V W l x y p C;have i:=bx k.1;have i:=dh k.1;have u:=r.cell (cL w);have i:d.frozen? (H q b)=δ:=aG r _;have l:N (∀i,aQ 274 #[.int .u64 (row a e b:E),I g] i λp l=>p=.returned (.int .u64 ((row a e b|||2 ^ g:E):T))/\i=l):=Z (λi=>wW _ _ (dW t) O i);obtain⟨i,p⟩:=M (row a e b);obtain⟨i,s⟩:=M (i|||2 ^ g);rw[<-p] at u l;rw[<-s] at l;have t:=Z (show i=row a e b|||2 ^ g by rw[s,p]);clear p s;go_wp2_with fail;refine uH 11 kR kR ?_;simp only[L.take_succ_cons,L.take_zero,L.drop_succ_cons,la];repeat still_step
  still_call ((l.1 _).mono λ_ _ ⟨l,p⟩=>⟨l,p.symm⟩)
  repeat still_step
  refine wpStill_nil ?_;obtain⟨u,l⟩:=M (d.setCell (H q b) (.int .u64 (i:T)));have l:∀l,(d.setCell (H q b) l).cell? (H o 0)=S (I a):=λp=>aj (bi k.1 _ (λl=>by have:=v.1;exact this l.symm) p) 0;have k:∀l,(d.setCell (H q b) l).cell? (H o 1)=S (.slice (S (H q 0)) a a):=λl=>aj (bi k.1 _ (λk=>by have:=v.1;exact this k.symm) l) 1;have k:∀k,(d.setCell (H q b) k).cell? (H (c+1) 0)=S aI:=λl=>aj (bi n.1 _ (λk=>by have:=h;simp at k;omega) l) 0;have k:∀k,(d.setCell (H q b) k).cell? (H (c+1) 1)=S aV:=λl=>aj (bi n.1 _ (λk=>by have:=h;simp at k;omega) l) 1;have k:∀k,d.frozen? (H (c+1) k)=δ:=λk=>aG n.1 k;have RB:∀k l,(((d.setCell (H q b) (.int .u64 (i:T))).setCell (H (c+1) 0) k).setCell (H (c+1) 1) l).heap[c+1]? =S (.cells #[k,l] 355 (0,0)):=λl o=>
   (aD (aD (bi n.1 _ (λk=>by have:=h;simp at k;omega) _) 0 l) 1 o).trans Y
  have k:=aj (RB (I a) (.slice (S (H q 0)) a a)) 0;have c1:=aj (RB (I a) (.slice (S (H q 0)) a a)) 1;have⟨C0,l⟩:=bD k c1;have s:N (∀n o,Ub (((d.setCell (H q b) (.int .u64 (i:T))).setCell (H (c+1) 0) n).setCell (H (c+1) 1) o) q (bF a (oI e b g))):=Z (λe g=>by
   have e:=r.set b i;rw[t.1,Dj w K] at e;rw[t.1];exact bi (bi e _ (λe=>by have:=h;simp at e;omega) _) _ (λe=>by have:=h;simp at e;omega) _)
  have p:N (∀e g,Fr j f (((d.setCell (H q b) (.int .u64 (i:T))).setCell (H (c+1) 0) e).setCell (H (c+1) 1) g)):=Z (λb d=>
   ((z.cN _ (by have:=h;have:=m.1;show _<=q;omega) _).cN _ (by have:=m.1;show _<=c+1;omega) _).cN _ (by have:=m.1;show _<=c+1;omega) _)
  clear RB k c1;go_wp2;refine aO (v:=.tuple #[.agg #[I a,.slice (S (H q 0)) a a],aI]) (by have b:=C0.1;have c1:=l.1;simp[results,results307,go_sem,b,c1]) Y ⟨_,Y,⟨_,Y,((s.1 _ _).sl (bY a _) (by simp[maxLen];omega)).f tC.drew⟩,(p.1 _ _).drew⟩
def km(c:E)(b:Rl):Rl:=λa d=>decide (a<c)&&b a d
theorem Fk(a)(b):bF a (km 0 b)=L.replicate a 0:=by
 rw[vX];exact pR λa _=>gU λa _=>by simp[km,iO]
theorem Ez(b)(e:q<m):(bF m (km q b)).set q (row m b q)=bF m (km (q+1) b):=by
 apply lB;intro a;by_cases c:a<m
 .rw[cL c]
  by_cases d:q=a
  .subst d
   rw[jU (by rw[bY];exact c)];exact cH S (gU λb _=>by simp[km])
  rw[lQ d,cL c];refine cH S (gU λb _=> ?_);have:decide (a<q)=decide (a<q+1):=by rw[decide_eq_decide];omega
  simp only[km,this]
 rw[jw (by simp[bY];omega),jw (by rw[bY];omega)]
theorem Lh(a)(b):bF a (km a b)=bF a b:=pR λc b=>gU λd _=>by
 have:c<a:=sU b;simp[km,this]
theorem abG(b)(c d)(a):row b c a|||row b d a=row b (qA c d) a:=Wt _ _ _
theorem MJ(a b):kg [a,b]=a|||b:=by simp[kg]
theorem ui(a q c:E)(b:a<18446744073709551616)(b:q<18446744073709551616)(b:ε)(e:aY b c #[.int .u64 (a:T),.int .u64 (q:T)] 336):
  aQ 311 #[.slice (S (H c 0)) 2 2] b λd c=>d=.returned (.int .u64 ((a|||q:E):T))/\b=c:=by
 have:=Co _ [a,q] b (Ub.sl (n:=2) e Y (by simp[maxLen])) (λb a=>by simp at a;rcases a with rfl|rfl<;>assumption) sI;rwa[MJ] at this
theorem zM(b)(n o)(r:b<=64)(a)(h c)(p:iM b n a h)(i:iM b o a c):dr 310 #[h,c] a (.bool γ):=by
 have w:=(λd(e:Fr j a d)=>jr b n r d h (p.fr e));have x:=(λd(e:Fr j a d)=>jr b o r d c (i.fr e));obtain⟨D,rfl,y⟩:=p;obtain⟨A,rfl,u⟩:=i;obtain⟨B,C,rfl,-,-⟩:=y.slice;obtain⟨s,t,rfl,-,-⟩:=u.slice;rw[bY] at*;rw[bY] at*
 delta dr aQ;go_in
 go_wp2_with fail;refine aZ.nm (λc g=> ?_);have l:Fr j a c:=(g▸((Fr.refl j a).alloc _).alloc _);have v:c.heap[a.heap.size+1]? =S (.cells #[I b,.slice s b t] 355 (0,0)):=(g▸bM sI);refine sg (w c l) ?_;rintro a z ⟨rfl,e⟩;have m:=(l.step e);have k:=(e.hs (g▸aC (bM Y) _));have d:=(e.hs v);have a:=bx k;have a:=bx d;have a:=dh d;go_wp2_with fail;refine sg (x z m) ?_;rintro a b ⟨rfl,f⟩;have a:=(f.hs d);have b:=bx (f.hs k);have b:=bx a;have a:=dh a;go_wp2;go_ret;exact⟨dR sI,(m.step f)⟩
theorem xI(a c h)(r:a<=64)(e f y)(c3:iM a c e f)(a6:iM a h e y):
  aQ 303 #[f,y] e λg k=>∃c2,g=.returned (.tuple #[c2,aI])/\iM a (qA c h) k c2/\Fr j e k:=by
 have RR:=Z (λw(c2:Fr j e w)=>zM a c h r w f y (c3.fr c2) (a6.fr c2));obtain⟨d9,rfl,d6⟩:=c3;obtain⟨d8,rfl,c8⟩:=a6;obtain⟨d3,F,P,a3,rfl,-,-,d5⟩:=d6;obtain⟨c6,A,B,R,rfl,-,-,c7⟩:=c8;rw[bY] at*;rw[bY] at*;have⟨X,Q,d0⟩:=dt d5 c7 (λw=>mG a r w)
 delta aQ;go_in
 go_wp2_with fail;refine aZ.nm (λy w=> ?_);have W:Fr j e y:=(w▸(((Fr.refl j e).alloc _).alloc _).alloc _);have a7:N (aY y e.heap.size #[I a,.slice d3 a a3] 355):=Z (w▸aC (aC (bM Y) _) _);have a9:N (y.heap[e.heap.size+1]? =S (.cells #[I a,.slice c6 a R] 355 (0,0))):=Z (w▸aC (bM sI) _);have b5:N (y.heap[e.heap.size+1+1]? =S (.cells #[aI,aV] 355 (0,0))):=Z (w▸bM sI);clear w;refine sg (RR.1 y W) ?_;rintro g w ⟨rfl,c⟩;have b1:=(W.step c);have⟨C,U,a1⟩:=dt (c.hs a7.1) (c.hs a9.1) (c.hs b5.1);clear W a7 a9 b5 c;have t:=bx C.1;have u:=dh C.1;have v:=dh U.1;have b3:=Z (ba a1.1);go_wp2_with fail;clear t u v;refine sg (d0.1 _) ?_;rintro g a5 ⟨q,rfl,K,c5,c⟩;have HQ:N (e.heap.size+1+1<q):=Z (oB b3.1);have a6:=(b1.step c);have⟨w,y,a7⟩:=dt (c.hs C.1) (c.hs U.1) (c.hs a1.1);clear b1 C U a1 b3 c;have C:=Z (c5);clear c5 K;have t:=bx w.1;have u:=dh w.1;have v:=dh y.1;obtain⟨x,U⟩:=M a5.heap.size;go_wp2_with fail;clear t u v;refine cT (λz W=> ?_);rw[<-U];have HM:N (q<x):=Z (oB (ba C.1));have c:Fr j a5 z:=W▸(Fr.refl j a5).alloc _;have a1:aY z x #[I a,.slice (S (H q 0)) a a] 355:=W▸bM U;clear W U;have b2:=(a6.step c);have⟨a8,b0,b6,U⟩:=gB (c.hs w.1) (c.hs y.1) (c.hs a7.1) (c.hs C.1);clear a6 w y a7 C c;have b4:=Z (a1);clear a1;have d1:N (Ub z q (bF a (km 0 (qA c h)))):=Z (by have:=U.1;rw[mY,<-Fk a (qA c h)] at this;exact this);clear U;go_loopg [8,23] a (λgk s8 a4 wr=>∃b:E,b+gk=a/\a4=I b/\bT q z wr/\Ub wr q (bF a (km b (qA c h))))
 .exact⟨0,du,Y,rF,d1.1⟩
 case round=>
  obtain⟨b,HK,rfl,i,c4⟩:=hrel;have l:=Z c4;have w:b<=a:=O;clear c4;by_cases p:b<a
  .have a0:=Z p
   (have⟨w,y⟩:=dy b a;obtain rfl:=X.1.addr (cL p);obtain rfl:=Q.1.addr (cL p);have s:=(b2.keep i (λa4 g=>by have:=HQ.1;omega));have D:=Z (i.aB a8.1 (λg=>by have:=HQ.1;omega));have V:=Z (i.aB b0.1 (λg=>by have:=HQ.1;omega));have a2:=Z (i.aB b6.1 (λg=>by have:=HQ.1;omega));have o:=Z (i.aB b4.1 (λg=>by have:=HM.1;omega));have c0:=(X.1.f s).u64 (cL p);have c1:=(Q.1.f s).u64 (cL p);have t:=bx D.1;have u:=dh D.1;have v:=dh V.1;have b7:=bx o.1;have b8:=dh o.1;have C:=dW (p:=c b) r;have K:=dW (p:=h b) r;have G:=Z (abG a c h b);obtain⟨m,w⟩:=M (row a c b);obtain⟨n,y⟩:=M (row a h b);have C:m<18446744073709551616:=w▸dW r;have K:n<18446744073709551616:=y▸dW r;rw[<-w] at c0 G;rw[<-y] at c1 G;have⟨r,U⟩:=bD w y;clear w y;have b9:=l.1.cell (cL p);have d7:∀d,(wr.alloc d).frozen? (H q b)=δ:=λd=>aG (aC l.1 d) _;have d4:∀d,(wr.alloc d).cell? (H q b)=S (.int .u64 (row a (km b (qA c h)) b:E)):=λd=>by rw[aj (aC l.1 d),<-aj l.1];exact b9);have p:N (∀d f,Fr j e ((wr.alloc d).setCell (H q b) f)):=Z (λd f=>(s.alloc d).cN _ (by have:=HQ.1;show _<=q;omega) f);have w:N (∀d f,(((wr.alloc d).setCell (H q b) f).drew.cell? (H x 1)=S (.slice (S (H q 0)) a a)/\((wr.alloc d).setCell (H q b) f).drew.cell? (H e.heap.size 1)=S (.slice (S (H F P)) a a3)/\((wr.alloc d).setCell (H q b) f).drew.cell? (H (e.heap.size+1) 1)=S (.slice (S (H A B)) a R)/\((wr.alloc d).setCell (H q b) f).drew.cell? (H F (P+b))=S (.int .u64 (m:E))/\((wr.alloc d).setCell (H q b) f).drew.cell? (H A (B+b))=S (.int .u64 (n:E)))):=Z (λd f=>⟨aj (bi (aC o.1 d) _ (by have:=HM.1;show ¬x=q;omega) f) 1,aj (bi (aC D.1 d) _ (by have:=HQ.1;show ¬_=q;omega) f) 1,aj (bi (aC V.1 d) _ (by have:=HQ.1;show ¬_=q;omega) f) 1,by rw[r.1];exact(X.1.f (p.1 d f)).u64 (cL a0.1),by rw[U.1];exact(Q.1.f (p.1 d f)).u64 (cL a0.1)⟩);go_wp2;(go_region_held3 (λk=>k.cell? (H x 1)=S (.slice (S (H q 0)) a a)/\k.cell? (H e.heap.size 1)=S (.slice (S (H F P)) a a3)/\k.cell? (H (e.heap.size+1) 1)=S (.slice (S (H A B)) a R)/\k.cell? (H F (P+b))=S (.int .u64 (m:E))/\k.cell? (H A (B+b))=S (.int .u64 (n:E))) (first|(exact w.1 _ _)|go_keep) ((go_at_call 311;refine(ui m n wr.heap.size C K (wr.alloc (.cells #[.int .u64 (m:T),.int .u64 (n:T)] 336)).drew (eR (w:=wr) Y _)).mono ?_;rintro g k ⟨rfl,rfl⟩)));have p:N (∀d,Ub ((wr.alloc d).setCell (H q b) (.int .u64 ((m|||n:E):T))) q (bF a (km (b+1) (qA c h)))):=Z (λd=>by
    have k:=Ub.set (l.1.fr ((Fr.refl j wr).alloc d) id) b (m|||n);rwa[G.1,Ez _ a0.1,<-G.1] at k)
   have k:N (∀d f,bT q z ((wr.alloc d).setCell (H q b) f)):=Z (λd f=>(i.alloc d).aK b f);clear t u v b7 b8;clear c0 c1 b9 d7 d4;go_wp2;go_roundg (gk-1)
   .exact⟨b+1,O,by go_num,(k.1 _ _).drew,(p.1 _).fr tC.drew id⟩
   omega
  have k:N (Ub wr q (bF a (qA c h))):=Z (by have:=l.1;rwa[show b=a from by omega,Lh] at this);have s:=(b2.keep i (λa4 g=>by have:=HQ.1;omega));have D:=Z (i.aB a8.1 (λg=>by have:=HQ.1;omega));have V:=Z (i.aB b0.1 (λg=>by have:=HQ.1;omega));have a2:=Z (i.aB b6.1 (λg=>by have:=HQ.1;omega));have o:=Z (i.aB b4.1 (λg=>by have:=HM.1;omega));clear l;have b7:=bx o.1;have b8:=dh o.1;obtain⟨b,d,f⟩:=oK a2.1;have RB:∀b d,((wr.setCell (H (e.heap.size+1+1) 0) b).setCell (H (e.heap.size+1+1) 1) d).heap[e.heap.size+1+1]? =S (.cells #[b,d] 355 (0,0)):=λb d=>(aD (aD a2.1 0 b) 1 d).trans Y;have⟨C0,g⟩:=bD (aj (RB (I a) (.slice (S (H q 0)) a a)) 0) (aj (RB (I a) (.slice (S (H q 0)) a a)) 1);clear RB;have f:¬q=e.heap.size+1+1:=oB HQ.1;have d2:N (∀b d,Ub ((wr.setCell (H (e.heap.size+1+1) 0) b).setCell (H (e.heap.size+1+1) 1) d) q (bF a (qA c h))):=Z (λb d=>bi (bi k.1 _ f b) _ f d);have c9:N (∀b d,Fr j e ((wr.setCell (H (e.heap.size+1+1) 0) b).setCell (H (e.heap.size+1+1) 1) d)):=Z (λb d=>(s.cN _ (by show _<=e.heap.size+1+1;omega) b).cN _ (by show _<=e.heap.size+1+1;omega) d);clear f;go_wp2;refine aO (v:=.tuple #[.agg #[I a,.slice (S (H q 0)) a a],aI]) (by have b:=C0.1;have c:=g.1;simp[results,results303,go_sem,b,c]) Y ⟨_,Y,⟨_,Y,(d2.1 _ _).sl (bY a _) (by simp[maxLen];omega)⟩,c9.1 _ _⟩
def fv(a:Tk):L ζ:=[I a.k,I a.f]
def CK:ε->L ζ->Tk->Prop:=Pl fv
instance:SC CK:=⟨λ_=>False,Pl.aJ _ _⟩
def CT(d:ε)(e:L ζ)(a:Tn):Prop:=∃c b,e=[I a.s,c,b]/\Sl 3 1 CI d c a.w/\Sl 203 2 CK d b a.r
def JQ(a:TypeId):Prop:=a=3\/a=203
theorem CT.aJ:dU JQ CT:=by
 rintro i l h k x b c ⟨g,f,a,d,e⟩;refine⟨g,f,a,d.aJ (Pl.aJ cW (λ_=>False)) b (λf d a=>c f d ?_),e.aJ (Pl.aJ fv (λ_=>False)) b (λd b a=>c d b ?_)⟩
 .exact .inl (a.resolve_right id)
 exact .inr (a.resolve_right id)
instance:SC CT:=⟨_,CT.aJ⟩
def eJ(d:ε)(c:ζ)(b:Hs):Prop:=∃a,c=.agg #[a]/\Sl 77 3 CT d a b
def hsT(a:TypeId):Prop:=a=77\/a=3\/a=203
theorem eJ.aJ{a:Hs}(e:eJ W x a)(d:Fr S1 W V)(f:∀c b,hsT c->fE c W b->¬S1 b):eJ V x a:=by
 obtain⟨c,a,b⟩:=e;exact⟨c,a,b.aJ CT.aJ d (λc b a=>f c b (a.imp id id))⟩
theorem eJ.fr{w a:ε}{b:Hs}(d:eJ w x b)(c:Fr j w a):eJ a x b:=d.aJ c (λ_ _ _ _ a=>a)
theorem fF.tn{c:Hs}(f:fF 77 3 CT W A m q c){a:Tn}(g:c[n1]? =S a):
  ∃c b,W.cell? (H m (q+n1*3))=S (I a.s)/\W.cell? (H m (q+n1*3+1))=S c/\W.cell? (H m (q+n1*3+2))=S b/\Sl 3 1 CI W c a.w/\Sl 203 2 CK W b a.r:=by
 obtain⟨k,-,⟨i,h,rfl,d,e⟩,b⟩:=f.2 n1 a g;exact⟨i,h,b 0 _ Y,b 1 _ Y,b 2 _ Y,d,e⟩
theorem fF.tk{b:L Tk}(c:fF 203 2 CK W A m q b){a:Tk}(d:b[n1]? =S a):
  W.cell? (H m (q+n1*2))=S (I a.k)/\W.cell? (H m (q+n1*2+1))=S (I a.f):=by
 have:=Sl.pl c d;exact⟨this 0 _ Y,this 1 _ Y⟩
section
open Go.RowKit Go.Shelf
attribute [local go_sem] mB
def nZ(d:L E)(b a:ε):Prop:=b.heap.size<=a.heap.size/\∀c∈d,a.heap[c]? =b.heap[c]?
theorem nZ.refl(b a):nZ b a a:=⟨eG,λ_ _=>Y⟩
def Itr(HS:ε->Prop)(p:E)(r:θ ζ)(o:α->ζ)(m:L α)(n:L E):Prop:=
 ∀(k i:E)(a:L α->L E->ε->Prop)(g:ε->Prop)(l:ε),
  (∀h e f c b,a h e c->Fr (λd=>d∈e) c b->(∀d∈f,d∈e\/(c.heap.size<=d/\d<b.heap.size))->a h f b)->
  (∀d c b,a d c b->HS b)->
  (∀e f b d c,m=e++f::b->a e d c->YieldAt Fence.wide (k-1) prog i #[o f] c λh b=>
   (h=.returned (.bool γ)/\a (e++[f]) d b/\nZ d c b)\/(h=.returned (.bool δ)/\g b))->
  a [] n l->
  CallsIn Fence.wide k prog p (#[.func (.yield i) #[] #[]]++r) l λc b=>(∃d,c=.returned d)/\((∃c,a m c b)\/g b)
def mark(a:E):Deferred:={target:=.collected a,args:=#[]}
def ZV(e:L α->L E->ε->Prop)(c:Code->L E->ε->Prop)(f:L α)(a:L E)(b:ε):Exit->Act->ε->Prop
 |.normal,_,d=>e f a d/\nZ a b d
 |.ret,_,d=>c .ret a d/\nZ a b d
 |.exit id,_,d=>c (.exit id) a d/\nZ a b d
 |.goto e,_,d=>c (.goto e) a d/\nZ a b d
 |_,_,_=>False
theorem yw{S:E->Prop}{W:ε}{l:E}(a)(b:S l):Fr S W (W.putObj l a):=
 ⟨Y,Y,Y,sI,λd a c=>ε.putObj_heap_other (λa=>c (a▸b))⟩
theorem vQ{HS:ε->Prop}{a8:θ ζ}{enc:α->ζ}{xs:L α}{bs0:L E}(e1:Itr HS m a8 enc xs bs0)
  {b8:Operand}{a9:θ Tmp}{assign body:Code}
  (e0:a1.eval b8=.func (.func m) #[] a8)(e3:a9.size=1)(d1:∀b7 W,(callFunc m b7).run prog W=.ok (.enter m b7) W)(c2:∀h∈bs0,h<W.heap.size)
  (t:L α->L E->ε->Prop)(P:Code->L E->ε->Prop)
  (a3:∀e a b1 b k,t e a b->Fr (λs=>s∈a) b k->(∀h∈b1,h∈a\/(b.heap.size<=h/\h<k.heap.size))->t e b1 k)
  (a4:∀r a b k,P r a b->Fr (λs=>s∈a) b k->P r a k)
  (d5:∀e a b,t e a b->HS b)(d2:t [] bs0 W)(Ib:L α->α->L E->Act->ε->Prop)
  (d3:∀e g a v b k,Ib e g a v b->Fr (λs=>s∈a) b k->Ib e g a v k)
  (d6:∀(c:E)(e:L α)(g:α)(K:L α)(a:L E)(b:ε)(b6:Act->ε->Prop),xs=e++g::K->t e a b->(∀v k,nZ a b k->Ib e g a v k->b6 v k)->
   assign.wpIn (Fence.wide.inRound c) 7 prog (Exit.then b6 (λ_ _ _=>False)) {tmps:=(a9.zip #[enc g]).foldl (λb0(e5,c9)=>b0.setIfInBounds e5 c9) a1.tmps,defers:=[]} b)
  (d7:∀(c:E)(e:L α)(g:α)(K:L α)(a:L E)(v:Act)(b:ε),xs=e++g::K->Ib e g a v b->
   body.wpIn (Fence.wide.inRound c) 7 prog (ZV t P (e++[g]) a b) v b)
  (d8:∀(d:E)(a:L E)(b:ε),W.heap.size<=d->d∈a->t xs a b->b.heap[d]? =some (.deferred (some []))->Q .normal {a1 with defers:=mark d::a1.defers} b)
  (e4:∀(d:E)(r:Code)(a:L E)(b:ε),W.heap.size<=d->d∈a->P r a b->b.heap[d]? =some (.deferred (some []))->r.wp prog Q {a1 with defers:=mark d::a1.defers} b):
  (Code.rangeFunc b8 a9 assign body).wp prog Q a1 W:=by
 refine(gS (n:=9)).1 (wpIn_rangeFunc ?_);intro fn d9;obtain⟨l,u⟩:∃l:LoopState->ι Code->Loop,l=λe7 e6=>{state:=e7,pending:=e6,fn,tmps:=a1.tmps,params:=a9,assign,body,defers:=W.heap.size}:=⟨_,Y⟩;obtain⟨p,U⟩:∃p,(W.alloc (.deferred (some []))).alloc (.loop (l .ready η))=p:=⟨_,Y⟩;have c0:p.heap[W.heap.size+1]? =some (.loop (l .ready η)):=by
  rw[<-U];have:=ε.alloc_heap_new (W.alloc (.deferred (some []))) (.loop (l .ready η));rwa[fL] at this
 have b9:p.heap[W.heap.size]? =some (.deferred (some [])):=by
  rw[<-U];exact(Below.heap_alloc _ _ _ sI).trans (ε.alloc_heap_new W _)
 obtain⟨c,c3⟩:=M (W.heap.size+1);obtain⟨d,a2⟩:=M W.heap.size;have f2:p.heap.size=W.heap.size+2:=by rw[<-U];simp
 have d4:t [] (c::d::bs0) p:=by
  refine a3 [] bs0 _ W p d2 ?_ ?_
  .rw[<-U];exact((Fr.refl _ W).alloc _).alloc _
  intro h f;simp only[cK] at f;rcases f with rfl|rfl|f
  .exact .inr ⟨O,O⟩
  .exact .inr ⟨O,O⟩
  exact .inl f
 rw[<-c3] at c0;rw[<-a2] at b9;have f4:c≠d:=O;refine⟨c,[{target:=.collected d,args:=#[]}],p,{target:=.fn (.func m) a8,args:=#[.func (.yield c) #[] #[]]},p,m,
  #[.func (.yield c) #[] #[]]++a8,p,?_,?_,?_,?_,λ_=>by decide,?_⟩
 .rw[<-U,u,c3,a2];exact run_enterLoop_outer _ _ _ _ _
 .simp only[resolve,e0]
  simp[go_sem]
 .intro f1 f3;trivial
 .simp[invoke,go_sem,d1]
 refine(e1 8 c
  (λe a b=>t e (c::d::a) b/\b.heap[c]? =some (.loop (l .ready η))/\b.heap[d]? =some (.deferred (some []))/\c ∉ a/\d ∉ a)
  (λb=>∃r a,P r (c::d::a) b/\b.heap[c]? =some (.loop (l .done (some r)))/\b.heap[d]? =some (.deferred (some [])))
  p ?_ ?_ ?_ ⟨d4,c0,b9,λB=>by have:=c2 _ B;omega,λB=>by have:=c2 _ B;omega⟩).mono ?_
 .rintro e a b1 b k ⟨x,D,a6,F,X⟩ b2 f
  have f5:=(fJ.1 D).1;have f7:=(fJ.1 a6).1;refine⟨a3 e _ _ b k x (b2.mono (λf8 _ b5=>by simp[b5])) ?_,b2.aB D F,b2.aB a6 X,?_,?_⟩
  .intro h a5
   simp only[cK] at a5;rcases a5 with rfl|rfl|a5
   .exact .inl sI
   .exact .inl sI
   exact(f h a5).imp (λg=>by simp[g]) id
  .intro B
   rcases f _ B with R|R
   .exact F R
   omega
  intro B;rcases f _ B with R|R
  .exact X R
  omega
 .rintro e a b ⟨x,_⟩
  exact d5 _ _ _ x
 ·
  rintro e g K a b c7 ⟨x,D,a6,F,X⟩;have c6:=(fJ.1 D).1;have c8:=run_yield (P:=prog) (args:=#[enc g]) D (by rw[u];exact e3.symm);rw[u] at c8;refine⟨fn,_,assign,body,c8,roundIn_of_wpIn d9 (d6 _ e g K (c::d::a) b _ c7 x ?_)⟩;intro d0 WA V YA;have f6:=V.1;have e2:nZ a b WA:=⟨V.1,λh f=>V.2 h (by simp[f])⟩;have c5:=(V.2 c sI).trans D;refine⟨_,run_beginRound c5 (by rw[u]),?_⟩;replace c6:c<WA.heap.size:=(fJ.1 c5).1;refine wpIn_mono (d7 _ e g K _ _ _ c7 (d3 e g (c::d::a) d0 WA _ YA (yw (S:=λs=>s∈c::d::a) (l:=c) (.loop {l .ready η with state:=.busy}) (jg ..)))) ?_;have fin:∀(i:ι Code)(n:ε),nZ (c::d::a) (WA.putObj c (.loop {l .ready η with state:=.busy})) n->
    (Instr.endRound c i).run prog n=.ok (.bool i.isNone) (n.putObj c (.loop (l (if i.isNone then .ready else .done) i)))/\
    Fr (λs=>s∈c::d::a) n (n.putObj c (.loop (l (if i.isNone then .ready else .done) i)))/\
    (n.putObj c (.loop (l (if i.isNone then .ready else .done) i))).heap[c]? =some (.loop (l (if i.isNone then .ready else .done) i))/\
    (n.putObj c (.loop (l (if i.isNone then .ready else .done) i))).heap[d]? =some (.deferred (some []))/\
    nZ a b (n.putObj c (.loop (l (if i.isNone then .ready else .done) i))):=λi n o=>by
   have c4:=(o.2 c sI).trans (ε.putObj_heap_same c6)
   have:=run_endRound (P:=prog) i c4;rw[u] at this |-;refine⟨this,yw _ sI,ε.putObj_heap_same (fJ.1 c4).1,(ε.putObj_heap_other O).trans ((o.2 d sI).trans ((ε.putObj_heap_other O).trans ((V.2 d sI).trans a6))),?_,?_⟩
   .have:=o.1
    simp at this |-;omega
   intro h f;have c1:h≠c:=λa0=>F (a0▸f);exact(ε.putObj_heap_other c1).trans ((o.2 h (by simp[f])).trans ((ε.putObj_heap_other c1).trans (e2.2 h f)))
  rintro a0 e9 n G;cases a0 with
  |normal=>
   obtain⟨y,o⟩:=G;obtain⟨C,w,A,z,a7⟩:=fin η n o;exact⟨_,_,C,.inl ⟨Y,⟨a3 _ _ _ _ _ y w (λh f=>.inl f),A,z,F,X⟩,a7⟩⟩
  |ret=>
   obtain⟨y,o⟩:=G;obtain⟨C,w,A,z,a7⟩:=fin (some .ret) n o;exact⟨_,_,C,.inr ⟨Y,.ret,a,a4 _ _ _ _ y w,A,z⟩⟩
  |exit id=>
   obtain⟨y,o⟩:=G;obtain⟨C,w,A,z,a7⟩:=fin (some (.exit id)) n o;exact⟨_,_,C,.inr ⟨Y,.exit id,a,a4 _ _ _ _ y w,A,z⟩⟩
  |goto b0=>
   obtain⟨y,o⟩:=G;obtain⟨C,w,A,z,a7⟩:=fin (some (.goto b0)) n o;exact⟨_,_,C,.inr ⟨Y,.goto b0,a,a4 _ _ _ _ y w,A,z⟩⟩
  |panic f0=>exact G.elim
  |outgrown=>exact G.elim
 rintro a0 e8 ⟨⟨c9,rfl⟩,(⟨a,x,b4,b3,F,X⟩|⟨r,a,b5,b4,b3⟩)⟩
 .refine⟨η,_,by have:=run_endLoop (P:=prog) b4 (by rw[u];simp);rw[u] at this;exact this,?_⟩
  exact d8 d _ _ (gh a2.symm) sI (a3 _ _ (c::d::a) _ _ x (yw _ sI) (λh f=>.inl f)) ((ε.putObj_heap_other O).trans b3)
 refine⟨some r,_,by have:=run_endLoop (P:=prog) b4 (by rw[u];simp);rw[u] at this;exact this,?_⟩;exact gS.2 (e4 d r _ _ (gh a2.symm) sI (a4 _ _ _ _ b5 (yw (S:=λs=>s∈c::d::a) _ sI)) ((ε.putObj_heap_other O).trans b3))
theorem abv{HS:ε->Prop}{D:θ ζ}{enc:α->ζ}{xs:L α}{bs0:L E}(a5:Itr HS m D enc xs bs0)
  {z:Operand}{u:θ Tmp}{w x:Code}
  (a4:a1.eval z=.func (.func m) #[] D)(a6:u.size=1)(F:∀v W,(callFunc m v).run prog W=.ok (.enter m v) W)(a2:∀i∈bs0,i<W.heap.size)
  (f:L α->L E->ε->Prop)(k:Code->L E->ε->Prop)
  (B:∀c b y a g,f c b a->Fr (λt=>t∈b) a g->(∀i∈y,i∈b\/(a.heap.size<=i/\i<g.heap.size))->f c y g)
  (U:∀l b a g,k l b a->Fr (λt=>t∈b) a g->k l b g)
  (R:∀c b a,f c b a->HS a)(K:f [] bs0 W)(s:α->Act)
  (V:∀(h:E)(d:α)(a:ε)(o:Act->ε->Prop),o (s d) a->
   w.wpIn (Fence.wide.inRound h) 7 prog (Exit.then o (λ_ _ _=>False)) {tmps:=(u.zip #[enc d]).foldl (λa9(a8,b0)=>a9.setIfInBounds a8 b0) a1.tmps,defers:=[]} a)
  (a0:∀(h:E)(c:L α)(d:α)(p:L α)(b:L E)(a:ε),xs=c++d::p->f c b a->
   x.wpIn (Fence.wide.inRound h) 7 prog (ZV f k (c++[d]) b a) (s d) a)
  (a3:∀(e:E)(b:L E)(a:ε),W.heap.size<=e->e∈b->f xs b a->a.heap[e]? =S (.deferred (S []))->Q .normal {a1 with defers:=mark e::a1.defers} a)
  (a7:∀(e:E)(l:Code)(b:L E)(a:ε),W.heap.size<=e->e∈b->k l b a->a.heap[e]? =S (.deferred (S []))->l.wp prog Q {a1 with defers:=mark e::a1.defers} a):
  (Code.rangeFunc z u w x).wp prog Q a1 W:=
 vQ a5 a4 a6 F a2 f k B U R K (λc d b r a=>r=s d/\f c b a) (λc d b r a g A G=>⟨A.1,B c b b a g A.2 G (λi X=>.inl X)⟩)
  (λh c d p b a o C n P=>V h d a o (P _ _ (nZ.refl _ _) ⟨Y,n⟩)) (λh c d p b r a C n=>by obtain⟨rfl,n⟩:=n;exact a0 h c d p b a C n) a3 a7
theorem eP{h:Func}{k:θ ζ}{e:Ending->ε->Prop}{v:ζ}{w0:ε}:∀(a:L E)(b:ε),a.Nodup->(∀c∈a,w0.heap.size<=c/\b.heap[c]? =S (.deferred (S [])))->Fr j w0 b->
  (∀c,Fr j w0 c->(∀d,d ∉ a->c.heap[d]? =b.heap[d]?)->(results h k).run prog c=.ok v c)->(∀c,Fr j w0 c->(∀d,d ∉ a->c.heap[d]? =b.heap[d]?)->e (.returned v) c)->LeavesInM Fence.wide 9 prog h k e (a.map mark) .returning b
 |[],a,_,_,b,d,c=>⟨v,d a b (λ_ _=>Y),c a b (λ_ _=>Y)⟩
 |a::c,g,e,i,b,m,l=>by
  obtain⟨h,d⟩:=i a (jg ..);have f:=mu.1 e;refine⟨sI,.inl ⟨a,_,Y,run_takeDeferred d,?_⟩⟩;have g:∀(e:ε),(∀d,d ∉ c->e.heap[d]? =(g.putObj a (.deferred η)).heap[d]?)->∀d,d ∉ a::c->e.heap[d]? =g.heap[d]? :=λh g e d=>by
   simp only[cK,not_or] at d;exact(g e d.2).trans (ε.putObj_heap_other d.1)
  refine eP c _ f.2 (λd e=> ?_) ?_ (λc h k=>m c h (g c k)) (λc h k=>l c h (g c k))
  .obtain⟨c,g⟩:=i d (jh _ e)
   exact⟨c,(ε.putObj_heap_other (λ(c:d=a)=>f.1 (c▸e))).trans g⟩
  exact⟨b.os,b.tape,b.output,sU b.size,λd a c=>(ε.putObj_heap_other O).trans (b.block d a c)⟩
theorem fC{e:FuncId}{a:Func}{d:Code}{b:θ ζ}{c:Ending->ε->Prop}(h:prog.funcs[e]? =S a)(g:a.body=S d)
  (f:d.wp prog (bodyPostM Fence.wide 9 prog a c) {tmps:=b++θ.replicate (a.ntmps-b.size) undef,defers:=[]} W):Calls prog e b W c:=
 (nH (n:=9)).1 (callsIn_of_wp_marks h g trivial (gS.2 f) Y)
end
theorem acd(b:e[m]? =S i1)(d:∀(a:E)(c:T),a<m->e[a]? =S c->c≠i1):ix e i1=(m:T):=by
 have a:=bQ b;unfold ix;rw[aS a];congr 1
 have c:=L.idxOf_lt_length_of_mem a;rcases E.lt_trichotomy (e.idxOf i1) m with a|a|a
 .exact(d _ _ a (by rw[cF c,L.getElem_idxOf c]) Y).elim
 .exact a
 exfalso;have a:=L.not_of_lt_findIdx (p:=(·==i1)) (xs:=e) (i:=m) a;rw[cj] at b;obtain⟨c,b⟩:=b;simp[b] at a
theorem Wg(b:∀(c:E)(a:T),e[c]? =S a->a≠i1):ix e i1= -1:=by
 unfold ix;rw[aR];intro a;obtain⟨c,a⟩:=kc a;exact b c i1 a Y
theorem Fv(b a):decide (0<=ix b a)=b.contains a:=by
 unfold ix;by_cases a:a∈b
 .rw[aS a];simp[a]
 rw[aR a];simp[a]
theorem zU(m e d g)(o:Sl 3 1 CI g m e):aQ 91 #[m,I d] g λb a=>b=.returned (I (ix e d))/\g=a:=by
 obtain⟨r,s,v,t,rfl,u,p,l⟩:=o;unfold maxLen at p;obtain⟨c,HN⟩:=M e.length;have m:c<=9223372036854775807:=O;rw[<-HN]
 delta aQ;go_in
 go_wp2;go_loopg [8] c (λgk a wr=>∃b:E,b+gk=c/\a=I b/\(∀(a:E)(f:T),a<b->e[a]? =S f->f≠d)/\g=wr)
 .exact⟨0,du,Y,λa f b=>by omega,Y⟩
 case round=>
  obtain⟨b,HK,rfl,h,rfl⟩:=hrel;have g:b<=c:=O;by_cases g:b<c
  .obtain⟨n,f⟩:=gE e b O
   obtain rfl:=l.addr f;have e:=l.int f;have⟨c,e⟩:=dy b c;by_cases i:d=n
   .subst i
    go_wp2;go_ret;exact⟨iB (acd f h).symm,Y⟩
   have c:(d==n)=δ:=sU i;go_wp2;go_roundg (gk-1)
   .exact⟨b+1,O,by go_num,λa d c k=>by
    rcases dP a b with c|c
    .exact h a d c k
    obtain rfl:a=b:=O;rw[f] at k;obtain rfl:=cI k;exact λb=>i b.symm,Y⟩
   omega
  go_wp2;go_ret;exact⟨iB (Wg λa c b=>h a c (oB ((cj.1 b).1)) b).symm,Y⟩
theorem dC(d b a c)(g:Sl 3 1 CI c d b):aQ 110 #[d,I a] c λf e=>f=.returned (.bool (b.contains a))/\c=e:=by
 have⟨c,e⟩:=bD (zU d b a c g) (Fv b a);generalize a:ix b a=a at c e
 delta aQ;go_in
 go_wp
 refine aZ.go (c.1.mono ?_);rintro a b ⟨rfl,rfl⟩;go_wp2;go_ret;exact⟨dR e.1,Y⟩
section
open Go.RowKit Go.Shelf
attribute [local go_sem] mB
def YT:T->L T->L κ
 |_,[]=>[]
 |last,a::b=>(decide (last<a)&&decide (a<16))::YT a b
def tP(b:Hs)(c:E):T->L Tk->L κ
 |_,[]=>[]
 |last,a::d=>(decide (last<a.k)&&decide (a.k<16)&&gH b c a)::tP b c a.k d
def tfl(b:Hs)(c:E)(a:Tn):L κ:=YT (-1) a.w++(tP b c (-1) a.r++[decide (0<=a.s)&&decide (a.s<8)])
def qz(a:Hs):E->L Tn->L κ
 |_,[]=>[]
 |n,b::c=>tfl a n b++qz a (n+1) c
def gD(a:Hs):L κ:=decide (a.length<=32)::qz a 0 a
theorem Jw:∀(b:L T)(a:T),(YT a b).all id=py 16 a b
 |[],_=>rfl
 |x::a,b=>by rw[YT,py,lM,Jw a x];rfl
theorem KU(a b):∀(d:L Tk)(c:T),(tP a b c d).all id=lX a b c d
 |[],_=>rfl
 |x::c,d=>by rw[tP,lX,lM,KU a b c x.k];rfl
theorem EL(a):∀(c:L Tn)(b:E),(qz a b c).all id=qC a b c
 |[],_=>rfl
 |t::c,b=>by
  rw[qz,qC,lZ,EL a c (b+1),tfl,lZ,lZ,Jw,KU,tR];simp[κ.and_assoc]
theorem wF(a):(gD a).all id=bm a:=by
 rw[gD,bm,lM,EL];rfl
def HF(c:ε)(B:E):ε->Prop:=Fr (λa=>a≠B/\∀b,hsT b->¬fE b c a) c
theorem gF(a:X[m]? =S x1):X.drop m=x1::X.drop (m+1):=by
 obtain⟨a,b⟩:=cj.1 a;rw[nR a,b]
theorem HF.tn{B:E}{c:Hs}(g:fF 77 3 CT W (S (H m q)) m q c){a:Tn}(h:c[n1]? =S a):
  ∃d k n c f i l e,a.w.length<=c/\c<=maxLen/\a.r.length<=e/\e<=maxLen/\∀b,HF W B b->b.cell? (H m (q+n1*3))=S (I a.s)/\b.cell? (H m (q+n1*3+1))=S (.slice d a.w.length c)/\
   b.cell? (H m (q+n1*3+2))=S (.slice f a.r.length e)/\Sl 3 1 CI b (.slice d a.w.length c) a.w/\fF 3 1 CI b d k n a.w/\fF 203 2 CK b f i l a.r:=by
 obtain⟨c,a,p,r,s,hw,d⟩:=g.tn h;have b:¬(m≠B/\∀a,hsT a->¬fE a W m):=λa=>a.2 77 (.inl Y) (g.uQ h);have e:=hw;have a:=d;obtain⟨i,l,A,o,rfl,x,y,u⟩:=hw;obtain⟨f,k,z,n,rfl,v,w,t⟩:=d;refine⟨i,l,A,o,f,k,z,n,x,y,v,w,λa a=>⟨a.aF p b,a.aF r b,a.aF s b,?_,?_,?_⟩⟩
 .exact e.aJ (Pl.aJ cW (λ_=>False)) a (λd n1 c b e=>e.2 d (.inr (.inl (c.resolve_right id))) b)
 .exact u.aJ (Pl.aJ cW (λ_=>False)) a (λd n1 c b e=>e.2 d (.inr (.inl (c.resolve_right id))) b)
 exact t.aJ (Pl.aJ fv (λ_=>False)) a (λc n1 b a d=>d.2 c (.inr (.inr (b.resolve_right id))) a)
theorem Gs(a F k c3)(d:aY F k #[c3] 54)(e2:Sl 77 3 CT F c3 a):
  Itr (HF F k) 109 #[aP k 0] ζ.bool (gD a) []:=by
 intro o e5 n c3 c4 h e f c;refine nH.2 ?_;obtain⟨d6,d7,e6,d8,rfl,e0,e1,l⟩:=e2;obtain⟨i,b⟩:=M a.length;rw[<-b] at e0 d;have⟨HLN,V,u,HS,X⟩:=va b l h e f;have W:N (∀g,HF F k g->aY g k #[.slice d6 i d8] 54):=Z (λm g=>g.aB d (λg=>g.1 Y));have m:=bx (W.1 _ (e _ _ _ c));obtain⟨d8,e0,c3,d6,r,g⟩:=f [] (decide (i<=32)) (qz a 0 a) [] c4 (by rw[b];rfl) c;unfold maxLen at e1;have p:decide ((i:T)<=32)=decide (i<=32):=decide_eq_decide.2 O;clear d l h e f c b;show aQ 109 #[.func (.yield e5) #[] #[],aP k 0] c4 _;go_enter func109,ntmps109;go_upto_region 0 with fail;refine(gS (n:=o)).1 ?_;gi_wp2;refine⟨λb=>by simp[Fence.wide] at b,g.mono ?_⟩;clear g;rintro c3 c4 (⟨rfl,b,d⟩|⟨rfl,b⟩)
 case' inr=>
  have c:=Z b;clear b;gi_wp2;go_wp2;refine aO (io Y _ _ _) Y ?_;exact⟨⟨_,Y⟩,.inr c.1⟩
 have b3:=Z b;clear b d r;clear m p;have f:=bx (W.1 _ (HS.1 _ _ _ b3.1));gi_wp2;go_wp2;go_loopg [3,4,5,7,9,10,21] i (λgk s3 s4 s5 s7 s9 s10 s21 wr=>∃(b:E)(c:L κ)(d:L E),b+gk=i/\s21=I b/\c++qz a b (a.drop b)=gD a/\n c d wr)
 .exact⟨0,_,_,du,Y,by rw[HLN.1];rfl,b3.1⟩
 case round=>
  obtain⟨b,R,A,d,rfl,e,c⟩:=hrel;have⟨HK,HP,a1⟩:=dt d e c;have b3:b<=i:=O;clear d e c f;obtain⟨c0,rfl⟩:=M gk;by_cases b3:b<i
  .obtain⟨c,d⟩:=gE a b jE
   obtain rfl:=V.1.addr d;have d2:N (∀(f:E)(g:Tn),a[f]? =S g->∃h,∀e,HF F k e->e.cell? (H d7 (e6+f*3+1))=S h/\Sl 3 1 CI e h g.w):=Z (λf g e=>by
    obtain⟨f,l,x,p,e,h,w,m,r,s,t,v,g⟩:=HF.tn (B:=k) V.1 e;exact⟨_,λe f=>⟨(g e f).2.1,(g e f).2.2.2.1⟩⟩)
   obtain⟨b6,c4,d7,b8,b5,c3,d6,b7,V,b3,k,F,e⟩:=HF.tn (B:=k) V.1 d;have a8:=Z e;have c9:N (R++(YT (-1) c.w++((tP a b (-1) c.r++[decide (0<=c.s)&&decide (c.s<8)])++qz a (b+1) (a.drop (b+1))))=gD a):=Z (by
    rw[<-HP.1];(congr 1);rw[gF d,qz,tfl];simp only[dm])
   obtain⟨l,m,p,-,-,-⟩:=e wr (HS.1 _ _ _ a1.1);obtain⟨s,g⟩:=M c.w.length;obtain⟨r,f⟩:=M c.r.length;rw[<-g] at m V;rw[<-f] at p k;have⟨a9,HNR⟩:=bD g f;obtain⟨h,k⟩:=M c.s;rw[<-k] at l;have d1:=Z k;have⟨V,c3⟩:=dy b i;unfold maxLen at b3 F;clear g f k d e;go_wp2;refine cT (λk f=> ?_);obtain⟨q,e⟩:=M wr.heap.size;have d4:=dL f e;have d3:N (n R (q::A) k):=Z (by
    refine u.1 _ _ _ _ _ a1.1 (by rw[f];exact cZ) (λg d=> ?_);simp only[cK] at d;rcases d with rfl|d
    .exact .inr ⟨gh e.symm,by rw[f,e];simp⟩
    exact .inl d)
   rw[<-e];clear f e l m p;go_loopg [5,7,29] s (λgk s5 s7 s29 wr=>∃(e:E)(f:T)(g:L κ),e+gk=s/\s29=I e/\s5=I f/\
    g++(YT f (c.w.drop e)++((tP a b (-1) c.r++[decide (0<=c.s)&&decide (c.s<8)])++qz a (b+1) (a.drop (b+1))))=gD a/\n g (q::A) wr/\
    aY wr q #[I h,.slice b6 s b8,.slice b5 r b7] 77)
   .exact⟨0, -1,R,du,Y,Y,c9.1,d3.1,d4.1⟩
   case round=>
    obtain⟨c5,e3⟩:=M wr;subst e3;obtain⟨p,c2,y,e,rfl,rfl,g,f,l⟩:=hrel;have⟨HJ,b0,a3,Q⟩:=gB e g f l;have k:p<=s:=O;clear e g f l;by_cases k:p<s
    .obtain⟨e,f⟩:=gE c.w p (oB a9.1)
     obtain⟨-,-,-,-,g,-⟩:=a8.1 c5 (HS.1 _ _ _ a3.1);obtain rfl:=g.addr f;have t:=g.int f;have m:N (y++(decide (c2<e)&&decide (e<16))::(YT e (c.w.drop (p+1))++((tP a b (-1) c.r++[decide (0<=c.s)&&decide (c.s<8)])++qz a (b+1) (a.drop (b+1))))=gD a):=Z (by
      rw[<-b0.1];(congr 1);rw[gF f,YT,im])
     have⟨k,B⟩:=dy p s;clear g f;obtain⟨C,D,k,B,l,f⟩:=X.1 y _ _ (q::A) c5 m.1.symm a3.1;by_cases x:c2<e
     .have v:=cD x
      rw[v,nB] at l f;go_upto_region 8 with fail;refine(gS (n:=o)).1 ?_;gi_wp2;refine⟨λg=>by simp[Fence.wide] at g,f.mono ?_⟩;clear f t;rintro k B (⟨rfl,g,w⟩|⟨rfl,g⟩)
      case' inr=>
       have z:=Z g;clear g;gi_wp2;go_wp2;refine aO (io Y _ _ _) Y ?_;exact⟨⟨_,Y⟩,.inr z.1⟩
      have⟨z,k⟩:=bD g w;clear g w l;have g:=Z ((k.1.2 q (jg ..)).trans Q.1);gi_wp2;go_wp2;go_roundg (gk-1)
      .exact⟨p+1,e,y++[decide (e<16)],oB HJ.1,by go_num,Y,by have:=m.1;rw[v] at this;rw[dm];simpa using this,z.1,g.1⟩
      have:=HJ.1;omega
     have g:=bV x;rw[g,κ.false_and] at l f;go_upto_region 8 with fail;refine(gS (n:=o)).1 ?_;gi_wp2;refine⟨λk=>by simp[Fence.wide] at k,f.mono ?_⟩;clear f t;rintro k w (⟨rfl,f,t⟩|⟨rfl,f⟩)
     case' inr=>
      have v:=Z f;clear f;gi_wp2;go_wp2;refine aO (io Y _ _ _) Y ?_;exact⟨⟨_,Y⟩,.inr v.1⟩
     have⟨v,k⟩:=bD f t;clear f t l;have f:=Z ((k.1.2 q (jg ..)).trans Q.1);gi_wp2;go_wp2;go_roundg (gk-1)
     .exact⟨p+1,e,y++[δ],oB HJ.1,by go_num,Y,by have:=m.1;rw[g] at this;rw[dm];simpa using this,v.1,f.1⟩
     have:=HJ.1;omega
    have c8:N (y++(tP a b (-1) c.r++([decide (0<=c.s)&&decide (c.s<8)]++qz a (b+1) (a.drop (b+1))))=gD a):=Z (by
     have:=b0.1;rw[mq (oB a9.1)] at this;simpa[YT] using this)
    have e:=iU Q.1;(go_wp);clear e;go_loopg [5,9,10,48] r (λgk s5 s9 s10 s48 wr=>∃(e:E)(f:T)(g:L κ)(k:L E),e+gk=r/\s48=I e/\s5=I f/\
     g++(tP a b f (c.r.drop e)++([decide (0<=c.s)&&decide (c.s<8)]++qz a (b+1) (a.drop (b+1))))=gD a/\n g (q::k) wr/\
     aY wr q #[I h,.slice b6 s b8,.slice b5 r b7] 77)
    .exact⟨0, -1,y,A,du,Y,Y,c8.1,a3.1,Q.1⟩
    case round=>
     obtain⟨a7,e4⟩:=M wr;subst e4;obtain⟨m,x,f,v,e,rfl,rfl,l,g,t⟩:=hrel;have⟨HI,b1,a2,b4⟩:=gB e l g t;have k:m<=r:=O;clear e l g t;by_cases k:m<r
     .obtain⟨g,l⟩:=gE c.r m Sh
      obtain⟨-,-,-,-,-,t⟩:=a8.1 a7 (HS.1 _ _ _ a2.1);obtain rfl:=t.addr l;obtain⟨w,B⟩:=t.tk l;have d0:N (f++(decide (x<g.k)&&decide (g.k<16)&&gH a b g)::(tP a b g.k (c.r.drop (m+1))++([decide (0<=c.s)&&decide (c.s<8)]++qz a (b+1) (a.drop (b+1))))=gD a):=Z (by
       rw[<-b1.1];(congr 1);rw[gF l,tP];simp)
      obtain⟨e,p⟩:=M g.k;obtain⟨G,k⟩:=M g.f;rw[<-p] at w;rw[<-k] at B;have⟨b2,z⟩:=bD p k;have⟨r,s⟩:=dy m r;clear t l p k;go_upto_region 15 with fail;refine cT (λU t=> ?_);obtain⟨C,l⟩:=M a7.heap.size;have a5:=dL t l;have FB:=cY t;have a0:N (n f (C::q::v) U):=Z (by
       refine u.1 _ _ _ _ _ a2.1 (FB.mono (λ_ _ k=>k.elim)) (λk d=> ?_);simp only[cK] at d;rcases d with rfl|rfl|d
       .exact .inr ⟨gh l.symm,by rw[t,l];simp⟩
       .exact .inl sI
       exact .inl (by simp[d]))
      have d5:=Z (FB.hs b4.1);rw[<-l];clear t l w B;have t:=aX.cell (aj a5.1 0);have w:=aX.cell (aj a5.1 1);have B:=aX.cell (aj (W.1 _ (HS.1 _ _ _ a0.1)) 0);go_cut [10] (λs10 k=>s10=.bool (gH a b g)/\Fr j U k)
      .by_cases a4:G= -1
       .subst a4
        have l:N (gH a b g=γ):=Z (by unfold gH;rw[<-z.1];rfl);refine bj kR kR ?_;(repeat(go_big_quiet_step (fail)));refine wpQuiet_nil ?_;intro p k;have p:=bI k;clear k t w B;go_wp2;go_meet;exact⟨by rw[l.1];try simp,p⟩
       have K:(G== -1)=δ:=sU a4;by_cases a6:0<=G
       .obtain⟨l,rfl⟩:∃k:E,G=(k:T):=⟨G.toNat,O⟩
        have c6:=cD a6;by_cases b9:(l:T)<(i:T)
        .have c7:=cD b9
         (obtain⟨D,P⟩:=gE a l jE;have c1:tx a (l:T)=D:=by unfold tx;simp[L.getD,P]);by_cases d9:(l:T)=(b:T)
         .obtain rfl:b=l:=O
          have i:((b:T) !=(b:T))=δ:=sI;have k:N (gH a b g=δ):=Z (by unfold gH;rw[<-z.1,K,i];simp);refine bj kR kR ?_;(repeat(go_big_quiet_step (fail)));refine wpQuiet_nil ?_;intro p i;have p:=bI i;clear i t w B;go_wp2;go_meet;exact⟨by rw[k.1];try simp,p⟩
         have i:((l:T) !=(b:T))=γ:=sU d9;have y:N (gH a b g=D.w.contains e):=Z (by
          unfold gH;rw[<-z.1,K,i,c1,<-b2.1,c6,<-HLN.1,c7];simp)
         obtain⟨k,i⟩:=d2.1 l D P;obtain⟨p,r⟩:=i U (HS.1 _ _ _ a0.1);have k:N (∀l:aX U,aQ 110 #[k,I e] l.w λF s=>F=.returned (.bool (D.w.contains e))/\l.w=s):=Z (λl=>dC k D.w e l.w (r.f l.fr));have l:=aX.cell p;clear P c1 i r p;refine bj kR kR ?_;(repeat(go_big_quiet_step ((go_at_call 110;exact aX.rU _ (k.1 _)))));refine wpQuiet_nil ?_;intro k i;have k:=bI i;clear i t w B;go_wp2;go_meet;exact⟨by rw[y.1];try simp,k⟩
        have i:=bV b9;have k:N (gH a b g=δ):=Z (by unfold gH;rw[<-z.1,K,<-HLN.1,i];simp);refine bj kR kR ?_;(repeat(go_big_quiet_step (fail)));refine wpQuiet_nil ?_;intro l i;have l:=bI i;clear i t w B;go_wp2;go_meet;exact⟨by rw[k.1];try simp,l⟩
       have i:=bV a6;have k:N (gH a b g=δ):=Z (by unfold gH;rw[<-z.1,K,i];simp);refine bj kR kR ?_;(repeat(go_big_quiet_step (fail)));refine wpQuiet_nil ?_;intro l i;have l:=bI i;clear i t w B;go_wp2;go_meet;exact⟨by rw[k.1];try simp,l⟩
      obtain⟨c7,i⟩:=M wc;rw[<-i] at hcut |-;clear i;obtain⟨rfl,l⟩:=hcut;have⟨k,P,a4⟩:=dt (u.1 _ _ _ _ _ a0.1 (l.mono (λ_ _ i=>i.elim)) (λi d=>.inl d)) (l.hs a5.1) (l.hs d5.1);clear l;have i:=bx P.1;obtain⟨t,g⟩:=M (gH a b g);have i:=Z g;rw[<-g];have K:N (f++(decide (x<e)&&decide (e<16)&&t)::(tP a b e (c.r.drop (m+1))++([decide (0<=c.s)&&decide (c.s<8)]++qz a (b+1) (a.drop (b+1))))=gD a):=Z (by rw[i.1,b2.1];exact d0.1);obtain⟨k,p,c,i,w,l⟩:=X.1 f _ _ (C::q::v) c7 K.1.symm k.1;clear g;by_cases a6:x<e
      .by_cases c1:e<16
       .have c:=cD c1
        have c:=cD a6;rw[show(decide (x<e)&&decide (e<16)&&t)=t by simp[*]] at w l;go_upto_region 16 with fail;refine(gS (n:=o)).1 ?_;gi_wp2;refine⟨λc=>by simp[Fence.wide] at c,l.mono ?_⟩;clear l;rintro c d9 (⟨rfl,B,b9⟩|⟨rfl,B⟩)
        case' inr=>
         have c6:=Z B;clear B;gi_wp2;go_wp2;refine aO (io Y _ _ _) Y ?_;exact⟨⟨_,Y⟩,.inr c6.1⟩
        have⟨g,c⟩:=bD B b9;clear B b9 w;have i:=bx ((c.1.2 C sI).trans P.1);have b9:=Z ((c.1.2 q sI).trans a4.1);have B:N (n (f++[t]) (q::v) d9):=Z (u.1 _ _ _ _ _ g.1 rF (λc d=>.inl (by simp only[cK] at d |-;exact .inr d)));gi_wp2;go_wp2;go_roundg (gk-1)
        .exact⟨m+1,e,f++[t],_,oB HI.1,by go_num,Y,by have:=K.1;rw[dm];simpa[*] using this,B.1,b9.1⟩
        have:=HI.1;omega
       have c:=bV c1;have c:=cD a6;rw[show(decide (x<e)&&decide (e<16)&&t)=δ by simp[*]] at w l;go_upto_region 16 with fail;refine(gS (n:=o)).1 ?_;gi_wp2;refine⟨λc=>by simp[Fence.wide] at c,l.mono ?_⟩;clear l;rintro c d9 (⟨rfl,B,b9⟩|⟨rfl,B⟩)
       case' inr=>
        have c6:=Z B;clear B;gi_wp2;go_wp2;refine aO (io Y _ _ _) Y ?_;exact⟨⟨_,Y⟩,.inr c6.1⟩
       have⟨g,c⟩:=bD B b9;clear B b9 w;have i:=bx ((c.1.2 C sI).trans P.1);have b9:=Z ((c.1.2 q sI).trans a4.1);have B:N (n (f++[δ]) (q::v) d9):=Z (u.1 _ _ _ _ _ g.1 rF (λc d=>.inl (by simp only[cK] at d |-;exact .inr d)));gi_wp2;go_wp2;go_roundg (gk-1)
       .exact⟨m+1,e,f++[δ],_,oB HI.1,by go_num,Y,by have:=K.1;rw[dm];simpa[*] using this,B.1,b9.1⟩
       have:=HI.1;omega
      have c:=bV a6;rw[show(decide (x<e)&&decide (e<16)&&t)=δ by simp[*]] at w l;go_upto_region 16 with fail;refine(gS (n:=o)).1 ?_;gi_wp2;refine⟨λc=>by simp[Fence.wide] at c,l.mono ?_⟩;clear l;rintro c c1 (⟨rfl,l,B⟩|⟨rfl,l⟩)
      case' inr=>
       have b9:=Z l;clear l;gi_wp2;go_wp2;refine aO (io Y _ _ _) Y ?_;exact⟨⟨_,Y⟩,.inr b9.1⟩
      have⟨g,c⟩:=bD l B;clear l B w;have i:=bx ((c.1.2 C sI).trans P.1);have w:=Z ((c.1.2 q sI).trans a4.1);have l:N (n (f++[δ]) (q::v) c1):=Z (u.1 _ _ _ _ _ g.1 rF (λc d=>.inl (by simp only[cK] at d |-;exact .inr d)));gi_wp2;go_wp2;go_roundg (gk-1)
      .exact⟨m+1,e,f++[δ],_,oB HI.1,by go_num,Y,by have:=K.1;rw[dm];simpa[*] using this,l.1,w.1⟩
      have:=HI.1;omega
     have t:N (f++((decide (0<=h)&&decide (h<8))::qz a (b+1) (a.drop (b+1)))=gD a):=Z (by
      have:=b1.1;rw[mq Sh,<-d1.1] at this;simpa[tP] using this)
     have w:=bx b4.1;obtain⟨i,k,c,d,l,e⟩:=X.1 f _ _ (q::v) a7 t.1.symm a2.1;by_cases B:0<=h
     .have c:=cD B
      rw[show(decide (0<=h)&&decide (h<8))=decide (h<8) by simp[*]] at l e;go_upto_region 19 with fail;refine(gS (n:=o)).1 ?_;gi_wp2;refine⟨λc=>by simp[Fence.wide] at c,e.mono ?_⟩;clear e w;rintro c d (⟨rfl,g,z⟩|⟨rfl,g⟩)
      case' inr=>
       have C:=Z g;clear g;gi_wp2;go_wp2;refine aO (io Y _ _ _) Y ?_;exact⟨⟨_,Y⟩,.inr C.1⟩
      have⟨c,d⟩:=bD g z;clear g z l;gi_wp2;go_wp2;go_roundg (c0-1)
      .exact⟨b+1,f++[decide (h<8)],_,oB HK.1,by go_num,by have:=t.1;rw[dm];simpa[*] using this,c.1⟩
      have:=HK.1;omega
     have c:=bV B;rw[show(decide (0<=h)&&decide (h<8))=δ by simp[*]] at l e;go_upto_region 19 with fail;refine(gS (n:=o)).1 ?_;gi_wp2;refine⟨λc=>by simp[Fence.wide] at c,e.mono ?_⟩;clear e w;rintro c d (⟨rfl,e,g⟩|⟨rfl,e⟩)
     case' inr=>
      have w:=Z e;clear e;gi_wp2;go_wp2;refine aO (io Y _ _ _) Y ?_;exact⟨⟨_,Y⟩,.inr w.1⟩
     have⟨c,d⟩:=bD e g;clear e g l;gi_wp2;go_wp2;go_roundg (c0-1)
     .exact⟨b+1,f++[δ],_,oB HK.1,by go_num,by have:=t.1;rw[dm];simpa[*] using this,c.1⟩
     have:=HK.1;omega
  have c:N (R=gD a):=Z (by
   have:=HP.1;rw[mq jE] at this;simpa[qz] using this)
  go_wp2;go_end0
  exact⟨⟨_,Y⟩,.inl ⟨A,c.1▸a1.1⟩⟩
end
section
open Go.RowKit Go.Shelf
attribute [local go_sem] mB
theorem Iq(b a):aQ 75 #[.agg #[b]] a λd c=>d=.returned (.func (.func 109) #[] #[aP a.heap.size 0])/\c=a.alloc (.cells #[b] 54):=by
 delta aQ;go_in
 go_wp2;go_ret;exact⟨Y,Y⟩
theorem dV(e n d)(x:eJ d n e):dr 44 #[n] d (.bool (bm e)):=by
 obtain⟨k,rfl,HS⟩:=x;refine fC func44 Y ?_;simp only[ntmps44,ko,bW,fq,E.reduceAdd,E.reduceSub,lL,lz,lE,lF,eW,im];go_wp2_with fail;refine aZ.nm (λt h=> ?_);refine sg (Iq k t) ?_;rintro n f ⟨rfl,i⟩;obtain⟨n,a⟩:=M t.heap.size;obtain⟨b,c⟩:=M (d.heap.size+1);have m:n=b+1:=by rw[a,c,h];simp
 have t:=dL i a;have l:aY f b #[.bool δ] 4:=(by rw[i,c];exact aC (h▸bM sI) _);have g:Fr j d f:=(by rw[i,h];exact(cZ.alloc _).alloc _);have x:=(HS.f g);rw[<-a];have A:d.heap.size<=b:=O;have B:=ba l;clear h i a;go_wp2_with fail;rw[<-c,<-m];have A:=A;clear c m;refine abv (xs:=gD e) (enc:=ζ.bool) (bs0:=[]) (Gs e f n k t.1 x) Y Y (λa c=>by simp[go_sem]) sI
  (λm i h=>(∀a∈m,a=γ)/\Fr j f h/\∀c∈i,f.heap.size<=c)
  (λm i h=>m=.ret/\bm e=δ/\bT b f h/\aY h b #[.bool δ] 4/\∀c∈i,f.heap.size<=c)
  ?hG ?hX ?hS ⟨sI,rF,sI⟩
  (λa=>{tmps:=#[.agg #[k],aP d.heap.size 0,aP b 0,.bool a,.agg #[k],.func (.func 109) #[] #[aP n 0],.bool a,undef,undef],defers:=[]}) ?assign ?body ?done ?stop
 case hG=>
  rintro s r n p m ⟨k,f,h⟩ i o;refine⟨k,f.keep i h,λc k=> ?_⟩;rcases o c k with i|i
  .exact h c i
  have:=f.size;omega
 case hX=>
  rintro t n k f ⟨rfl,m,r,s,h⟩ i;refine⟨Y,m,r.trans i (λ_ _ a=>a) (λp f a=> ?_),i.aB s (λa=> ?_),h⟩
  .have:=h p a;omega
  have:=h _ a;omega
 case hS=>
  rintro n i h ⟨k,f,m⟩;exact f.mono (λ_ _ a=>a.elim)
 case assign=>
  intro k a i h f;gi_wp2;exact f
 case body=>
  rintro n u a t k f s ⟨r,h,i⟩;have m:=(h.hs l);have f:=aG m 0;have f:=bx m;cases a with
  |true=>
   gi_wp2;refine⟨⟨λk f=> ?_,h,i⟩,nZ.refl _ _⟩;simp only[cB,cX] at f;exact f.elim (r k) id
  |false=>
   have HF:bm e=δ:=(by
    rw[<-wF,s];simp)
   gi_wp2;refine⟨⟨Y,HF,?_,?_,i⟩,?_⟩
   .exact(h.mono (λ_ _ a=>a.elim)).aK 0 _
   .have:=aD m 0 (.bool δ)
    simpa using this
   refine⟨by simp[ε.setCell],λc o=> ?_⟩;exact Below.heap_setCell _ _ _ _ (by have:=i c o;show c≠b;omega)
 case done=>
  rintro f n k v o ⟨c,s,h⟩ u;have i:=(s.hs l);have k:=aG i 0;have k:=bx i;have HT:bm e=γ:=(by
   rw[<-wF,fY];exact λa e=>c a e)
  clear c h;go_wp2;refine eP (v:=.bool γ) (w0:=d) [f] _ sI (λr h=> ?_) ?_ (λc e m=> ?_) (λe c _=>⟨by rw[HT],c⟩)
  .rw[cX] at h
   subst h;exact⟨bX g.size v,(Below.heap_setCell _ _ _ _ (by show r≠b;omega)).trans u⟩
  .exact g.keep ((s.mono (λ_ _ a=>a.elim)).aK 0 _) (λp a=>by omega)
  simp[results,results44,go_sem,(aj ((m b sO).trans (aD i 0 (.bool γ))) 0)]
 case stop=>
  rintro i e c a z f ⟨rfl,s,u,v,y⟩ w;clear y;go_wp2;refine eP (v:=.bool δ) (w0:=d) [i] _ sI (λr h=> ?_) ?_ (λa c m=> ?_) (λc a _=>⟨by rw[s],a⟩)
  .rw[cX] at h
   subst h;exact⟨bX g.size z,w⟩
  .exact g.keep u (λp a=>by omega)
  simp[results,results44,go_sem,(aj ((m b sO).trans v) 0)]
end
def GB(a:E)(d:Rl)(c:ε)(e:E):Prop:=∃b,aY c e #[I a,b] 355/\Sl 336 1 CU c b (bF a d)
theorem GB.aJ{b:Rl}(d:GB m b W q)(c:Fr S1 W V)(e:¬S1 q)(g:∀a,fE 336 W a->¬S1 a):GB m b V q:=by
 obtain⟨h,b,d⟩:=d;refine⟨h,c.aB b e,d.aJ jR c (λc b a f=>g b ?_)⟩;rcases a with rfl|a
 .exact f
 exact a.elim
theorem GB.fr{b:Rl}{w a:ε}(d:GB m b w q)(c:Fr j w a):GB m b a q:=d.aJ c id (λ_ _ a=>a)
def lp(b:Rl)(a:T×T):Rl:=if 0<=a.1/\a.1≠a.2 then oI b a.1.toNat a.2.toNat else b
theorem xm(c:E)(b:Rl)(P:c<=64)(f g:T)(t:f<c)(t:0<=g)(t:g<c)(e:E)(m:ε)(w:GB c b m e):
  aQ 336 #[I f,I g,aP e 0] m λk t=>(∃Q,k=.returned Q)/\GB c (lp b (f,g)) t e/\bT e m t:=by
 have v:=Z w;obtain⟨z,p,F⟩:=w;have C:=bx p;have D:=dh p;by_cases x:0<=f
 .obtain⟨a,rfl⟩:∃a:E,f=(a:T):=⟨f.toNat,O⟩
  obtain⟨d,rfl⟩:∃d:E,g=(d:T):=⟨g.toNat,O⟩;by_cases l:(a:T)=(d:T)
  .have i:N (lp b ((a:T),(d:T))=b):=Z (by unfold lp;rw[aR];simp[l])
   have B:((a:T) !=(d:T))=δ:=sU l
   delta aQ;go_in
   go_wp2;(go_end0);exact⟨⟨_,Y⟩,by rw[i.1];exact v.1,rF⟩
  have i:(lp b ((a:T),(d:T))=oI b a d):=(by unfold lp;rw[aS ⟨x,l⟩];simp);have B:((a:T) !=(d:T))=γ:=sU l
  delta aQ;go_in
  go_wp2_with fail;refine aZ.go ((wS c b P a d O O m (.agg #[I c,z]) ⟨z,Y,F⟩).mono ?_);rintro k r ⟨l,rfl,⟨R,rfl,s⟩,u⟩;have A:=Z s;have h:=(u.hs p);obtain⟨o,U,V,n,rfl,-,-,-⟩:=s;have m:∀l,r.frozen? (H e l)=δ:=λl=>aG h l;have C:=bx h;have D:=dh h;go_wp2;go_end0
  have y:bT e r ((r.setCell (H e 0) (I c)).setCell (H e 1) (.slice o (bF c (oI b a d)).length n)):=(rF.aK 0 _).aK 1 _;refine⟨⟨_,Y⟩,?_,u.trans y (λ_ _ a=>a.elim) (λ_ _ a=>a)⟩;rw[i];refine⟨.slice o (bF c (oI b a d)).length n,?_,A.1.aJ jR y (λl e e K k=> ?_)⟩
  .have:=aD (aD h 0 (I c)) 1 (.slice o (bF c (oI b a d)).length n)
   simpa using this
  have G:=e.resolve_right id;subst G;exact K.ne ⟨_,_,k▸h⟩ J Y
 have i:N (lp b (f,g)=b):=Z (by unfold lp;rw[aR];simp[x])
 delta aQ;go_in
 go_wp2;go_end0
 exact⟨⟨_,Y⟩,by rw[i.1];exact v.1,rF⟩
def iz(a:Hs):E:=if bm a then a.length else 0
def mO(b:Hs)(a:L (T×T)):Rl:=if bm b then a.foldl lp iO else iO
theorem Rb(c)(r)(o)(W)(f)(e)(h:∀h e,(callFunc o h).run prog e=.ok (.enter o h) e)(P:eJ e r c)
  (R:bm c=γ->∀(h:E)(l:ε),Fr j e l->GB c.length iO l h->e.heap.size<=h->
   aQ o (#[.func (.func 336) #[] #[aP h 0]]++W) l λb y=>(∃r,b=.returned r)/\GB c.length (f.foldl lp iO) y h/\bT h l y):
  aQ 327 #[r,.func (.func o) #[] W] e λb l=>∃h,b=.returned h/\iM (iz c) (mO c f) l h/\Fr j e l:=by
 have C:=P;obtain⟨c6,rfl,p⟩:=P;obtain⟨b7,b8,c5,c0,rfl,b1,c2,c1⟩:=p;generalize b5:c.length=d at C R b1 |-
 delta aQ;go_in
 go_wp2_with fail;refine aZ.nm (λo l=> ?_);obtain⟨r,h⟩:=M e.heap.size;rw[<-h];generalize y:r+1=a;have a0:=uV l h;have a5:aY o a #[aI,aV] 355:=(by rw[l];exact bM sO);have z:=lq l;have l:e.heap.size<=a:=O;clear h;refine sg (dV c _ o (C.fr z)) ?_;rintro b X ⟨rfl,u⟩;have A:=(z.step u);have a1:=(u.hs a0.1);have s:=(u.hs a5);have Q:(prog.info? 355).map (·.size)=S 2:=kR;cases i:bm c
 .have g:iz c=0/\mO c f=iO:=(by unfold iz mO;rw[i];exact⟨Y,Y⟩)
  obtain⟨a8,a9,b6⟩:=oK s;clear i;go_wp2;have k:((X.setCell (H a 0) aI).setCell (H a 1) aV).heap[a]? =S (.cells #[aI,aV] 355 (0,0)):=by
   have:=aD (aD s 0 aI) 1 aV;simpa using this
  refine aO (gp Y _ _ a 355 _ (0,0) _ Y k underlying355 Y (by rw[Q];rfl)) Y ⟨_,Y,?_,?_⟩
  .rw[g.1,g.2]
   exact⟨_,Y,dJ⟩
  exact A.keep ((rF.aK (q:=a) 0 _).aK 1 _) (λV b=>by omega)
 have g:iz c=d/\mO c f=f.foldl lp iO:=(by unfold iz mO;rw[i,<-b5];exact⟨Y,Y⟩);have c:d<=32:=oB (bK i);have a4:=(R i);have a7:=bx a1;go_wp2_with fail;refine sg (mG d O X) ?_;rintro b w ⟨K,rfl,c3,a3,F⟩;have o:=(A.step F);have k:=(F.hs s);go_wp2_with fail;obtain⟨l,c⟩:=M (w.alloc (.cells #[I d,.slice (S (H K 0)) d d] 355));obtain⟨h,i⟩:=M w.heap.size;rw[<-c,<-i];have B:=(o.step (cY c));have a6:aY l a #[aI,aV] 355:=(by rw[c];exact aC k _);have b3:h≠a:=oB (ba k);have k:GB d iO l h:=(by
  have r:Ub w K (bF d iO):=by rw[<-vX];unfold Ub;rw[a3,mY]
  refine⟨_,by rw[c];exact bM i,?_⟩;rw[c];exact(r.sl (bY _ _) (by unfold maxLen;omega)).f cZ)
 have r:e.heap.size<=h:=oB o.size;clear c i;refine(a4 h l B k r).mono ?_;rintro b x ⟨⟨c,rfl⟩,b2,G⟩;have a2:=(B.keep G (λV b=>by omega));have t:=(G.aB a6 (λb=>b3 b.symm));obtain⟨s5,v,U⟩:=b2;have D:=U;have a7:=bx v;obtain⟨m,b9,c4,n,rfl,-,-,-⟩:=U;generalize e:(bF d (L.foldl lp iO f)).length=c at v D;have e:=dh v;obtain⟨a8,a9,b6⟩:=oK t;go_wp2;have e:((x.setCell (H a 0) (I d)).setCell (H a 1) (.slice m c n)).heap[a]? =S (.cells #[I d,.slice m c n] 355 (0,0)):=by
  have:=aD (aD t 0 (I d)) 1 (.slice m c n);simpa using this
 have p:bT a x ((x.setCell (H a 0) (I d)).setCell (H a 1) (.slice m c n)):=(rF.aK 0 _).aK 1 _;refine aO (gp Y _ _ a 355 _ (0,0) _ Y e underlying355 Y (by rw[Q];rfl)) Y ⟨_,Y,?_,a2.keep p (λV b=>by omega)⟩;rw[g.1,g.2];refine⟨_,Y,D.aJ jR p (λc a a b4 b=> ?_)⟩;have b0:=a.resolve_right id;subst b0;exact b4.ne ⟨_,_,b▸t⟩ J Y
theorem zA{a:Hs}{b:Tn}(c:a[m]? =S b):tx a (m:T)=b:=by unfold tx;simp[L.getD,c]
def below(b:T->κ)(a:E):L T:=(cU (L.range a)).filter b
theorem GU(b a):below b (a+1)=below b a++if b (a:T) then[(a:T)] else[]:=by
 unfold below cU;rw[nE,nO,L.filter_append];congr 1
 simp only[jC,nu,qg,L.filter_nil]
theorem Oz(b a):(below b a).length<=a:=by
 have:=pZ b (cU (L.range a));simpa[below,cU] using this
def df(a:Hs)(b:T):L T:=if bm a then kJ a b else[]
theorem uM(a c y i)(v:eJ i y a):aQ 201 #[y,I c] i λe d=>∃b,e=.returned b/\Sl 3 1 CI d b (df a c)/\Fr j i d:=by
 have s:=v;obtain⟨a8,rfl,K⟩:=v;obtain⟨P,V,a5,a0,rfl,F,a4,p⟩:=K;generalize G:a.length=d at s F |-
 delta aQ;go_in
 go_wp2_with fail;refine aZ.nm (λv e=> ?_);obtain⟨i,b⟩:=M i.heap.size;rw[<-b];have A:=dL e b;have o:=cY e;clear e b;refine sg (dV a _ v (s.fr o)) ?_;rintro i z ⟨rfl,u⟩;have k:=(o.step u);cases l:bm a
 .have b:df a c=[]:=(by unfold df;rw[l];rfl)
  go_wp2;go_ret;exact⟨_,Y,by rw[b];exact dJ,k⟩
 have D:df a c=below (λb=>(tx a b).w.contains c) d:=(by unfold df;rw[l,<-G];rfl);have i:d<=32:=oB (bK l);have i:=bx (u.hs A.1);obtain⟨i,r⟩:=M z.heap.size;go_wp2_with fail;go_loopg [5,14] d (λgk s5 s14 wr=>∃(b:E)(e:L (L ζ)),b+gk=d/\s14=I b/\cC i 3 1 CI wr s5 (below (λf=>(tx a f).w.contains c) b) e/\Fr j z wr)
 .exact⟨0,[],du,Y,qG,rF⟩
 case round=>
  obtain⟨b,C,HJ,rfl,g,f⟩:=hrel;obtain⟨x,h⟩:∃e,(below (λi=>(tx a i).w.contains c) b).length=e:=⟨_,Y⟩;obtain⟨Q,a1,rfl,-,-⟩:=g.shape h;have i:b<=d:=O;have i:x<=b:=by rw[<-h];exact Oz _ _
  by_cases i:b<d
  .obtain⟨n,m⟩:=gE a b O
   (obtain rfl:=p.addr m;obtain⟨s,p,i,l,o,e,w⟩:=(p.f (k.step f)).tn m;have B:=e;obtain⟨U,X,a7,a3,rfl,-,-,-⟩:=e;obtain⟨R,W,a6,a2,rfl,-,-,-⟩:=w;have t:below (λe=>(tx a e).w.contains c) (b+1)=below (λe=>(tx a e).w.contains c) b++if n.w.contains c then[(b:T)] else[]:=(by rw[GU,zA m]));have⟨a,i⟩:=dy b d;go_wp2_with fail;refine aZ.nm (λi a=> ?_);have e:=cY a;clear a;refine sg (dC _ n.w c i (B.f e)) ?_;rintro a i ⟨rfl,rfl⟩;cases w:n.w.contains c
   .go_wp2
    go_roundg (gk-1)
    .exact⟨b+1,C,O,by go_num,by rw[t,w];simp only[kv,iG,lh];exact g.fr da e,f.step e⟩
    omega
   go_wp2_with (at_builtin;refine stop ?_);refine aZ.go (bH Y (.tmp 23) (.tmp 25) Y oG x h Y ((g.fr da e).fr da (tC.alloc _)) da id (b:T) Y Y (eF.one _ _ _ Y) (λ_ _=>Y) O mL ?p6 ?p7)
   case p6=>have:=f.size;have:=e.size;have:=r;simp;omega
   case p7=>
    intro i l m a c _ _;go_wp2;go_roundg (gk-1)
    .exact⟨b+1,_,O,by go_num,by rw[t,w];exact a,(c.fr (gh r.symm) ((f.step e).alloc _))⟩
    omega
  have e:b=d:=O;go_wp2;go_ret;exact⟨_,Y,by rw[D,<-e];exact h▸g.read,k.step f⟩
theorem kO:∀(a:L (T×T))(d:Rl)(b c:E),(a.foldl lp d) b c=(d b c||a.any (λa=>decide (0<=a.1/\a.1≠a.2/\a.1.toNat=b/\a.2.toNat=c)))
 |[],a,b,c=>by simp
 |a::b,c,e,f=>by
  rw[pQ,kO b,L.any_cons,<-κ.or_assoc];congr 1
  unfold lp;by_cases b:0<=a.1/\a.1≠a.2
  .rw[aS b]
   unfold oI;(congr 1);rw[dS];simp only[bA,ef,cS];constructor
   .rintro⟨c,d⟩;exact⟨b.1,b.2,c.symm,d.symm⟩
   rintro⟨-,-,c,d⟩;exact⟨c.symm,d.symm⟩
  rw[aR b];have:decide (0<=a.1/\a.1≠a.2/\a.1.toNat=e/\a.2.toNat=f)=δ:=bV (λa=>b ⟨a.1,a.2.1⟩);rw[this,κ.or_false]
theorem Hh{d c:Rl}(e:∀a b,a<m->b<m->d a b=c a b):bF m d=bF m c:=by
 unfold bF;apply pR;intro d b;rw[eC] at b;unfold row;apply lI;intro c;rw[bR,bR];by_cases a:c<m
 .rw[e d c b a]
 simp[a]
theorem iM.congr{c f':Rl}(e:iM m c W x)(d:∀a b,a<m->b<m->c a b=f' a b):iM m f' W x:=by
 obtain⟨c,a,b⟩:=e;exact⟨c,a,Hh d▸b⟩
def ND(c:Hs)(b a:E):L (T×T):=(L.range a).flatMap λ(a:E)=>if(tx c (a:T)).s=(tx c (b:T)).s then[((a:T),(b:T))] else[]
def Vw(b:Hs)(a:E):L (T×T):=(L.range a).flatMap λa=>ND b a a
theorem Cy(b)(a c):ND b a (c+1)=ND b a c++if(tx b (c:T)).s=(tx b (a:T)).s then[((c:T),(a:T))] else[]:=by
 unfold ND;rw[nE,ny];simp
theorem Uc(b)(a):Vw b (a+1)=Vw b a++ND b a a:=by
 unfold Vw;rw[nE,ny];simp
theorem abR(b)(i:bm b=γ)(c l)(B)(f)(s:GB b.length iO f c)(a:aY f l #[B] 54)(a3:Sl 77 3 CT f B b)(a6:c≠l):
  aQ 328 #[.func (.func 336) #[] #[aP c 0],aP l 0] f λe d=>(∃g,e=.returned g)/\GB b.length ((Vw b b.length).foldl lp iO) d c/\bT c f d:=by
 obtain⟨Q,V,b5,W,rfl,a4,a5,u⟩:=a3;obtain⟨e,d⟩:=M b.length;have l:e<=32:=oB (bK i);rw[<-d] at a4 a s;rw[<-d];have HLN:=Z d;have G:=s;have F:=Z a;obtain⟨l,h,-⟩:=s;have v:N (∀g,bT c f g->fF 77 3 CT g Q V b5 b):=Z (λk g=>u.aJ CT.aJ g (λn m l k g=>k.ne ⟨_,_,g▸h⟩ (by rcases l with rfl|rfl|rfl<;>decide) Y));have g:=bx a;unfold maxLen at a5;clear d h a i
 delta aQ;go_in
 go_wp2_with fail;clear g;go_loopg [10] e (λgk s10 wr=>∃a:E,a+gk=e/\s10=I a/\GB e ((Vw b a).foldl lp iO) wr c/\bT c f wr)
 .exact⟨0,du,Y,G,rF⟩
 case round=>
  obtain⟨a,HK,rfl,n,h⟩:=hrel;have l:a<=e:=O;obtain⟨a2,rfl⟩:=M gk;by_cases l:a<e
  .obtain⟨t,d⟩:=gE b a jE
   obtain rfl:=u.addr d;obtain⟨s,l,i,o,p,b2,b0⟩:=(v.1 _ h).tn d;obtain⟨U,c1,c7,a0,rfl,-,-,-⟩:=b2;obtain⟨R,b9,c5,X,rfl,-,-,-⟩:=b0;have z:=Z (zA d);obtain⟨k,g⟩:=M t.s;rw[<-g] at i;have x:=Z g;have⟨a7,a8⟩:=dy a e;have l:(a:T)<=(W:T):=O;have m:=λm=>bx (aC (h.aB F.1 (λl=>a6 l.symm)) m);clear d g;go_wp2_with fail;refine cT (λl d=> ?_);obtain⟨q,g⟩:=M wr.heap.size;have C:bT c f l:=(by rw[d];exact h.alloc _);have K:=dL d g;have D:GB e ((Vw b a).foldl lp iO) l c:=(by rw[d];exact n.fr cZ);have a9:q≠c:=by
    obtain⟨r,l,-⟩:=n
    have:=ba l;omega
   rw[<-g];clear d g i o p m;go_loopg [5,6,20] a (λgk s5 s6 s20 wr=>∃d:E,d+gk=a/\s20=I d/\GB e ((Vw b a++ND b a d).foldl lp iO) wr c/\bT c f wr/\
    aY wr q #[I k,.slice U t.w.length a0,.slice R t.r.length X] 77)
   .exact⟨0,du,Y,by have:=D;simpa[ND] using this,C,K.1⟩
   case round=>
    obtain⟨f,b4⟩:=M wr;subst b4;obtain⟨d,HJ,rfl,o,i,g⟩:=hrel;have p:=Z g;have f:d<=a:=O;clear g;by_cases f:d<a
    .obtain⟨b6,g⟩:=gE b d jE
     obtain⟨l,f,r,A,a1,b3,b1⟩:=(v.1 _ i).tn g;obtain⟨b8,c2,c8,c4,rfl,-,-,-⟩:=b3;obtain⟨b7,c0,c6,c3,rfl,-,-,-⟩:=b1;have y:=Z (zA g);obtain⟨s2,f⟩:=M b6.s;rw[<-f] at r;have w:=Z f;have⟨l,s⟩:=dy d a;have l:=λl=>bx (aC p.1 l);clear g f;by_cases g:s2=k
     .have f:(s2==k)=γ:=sU g
      have P:N (ND b a (d+1)=ND b a d++[((d:T),(a:T))]):=Z (by rw[Cy,aS (by rw[y.1,z.1,<-w.1,<-x.1];exact g)]);clear g;go_wp2_with fail;refine aZ.nm (λs f=> ?_);have m:=cY f;clear f r A a1 l;refine sg (xm e _ O (d:T) (a:T) O a7 a8 c s (o.fr m)) ?_;rintro f a1 ⟨⟨l,rfl⟩,A,r⟩;have f:GB e ((Vw b a++ND b a (d+1)).foldl lp iO) a1 c:=(by rw[P.1,<-dm,mf (l':=[((d:T),(a:T))])];exact A);have c:=((i.step m).tr r);have l:=Z (r.aB (m.hs p.1) (λl=>a9 l));clear A r;go_wp2;go_roundg (gk-1)
      .exact⟨d+1,O,by go_num,f,c,l.1⟩
      omega
     have c:(s2==k)=δ:=sU g;have b:N (ND b a (d+1)=ND b a d):=Z (by rw[Cy,aR (by rw[y.1,z.1,<-w.1,<-x.1];exact g),lh]);clear g;go_wp2;go_roundg (gk-1)
     .exact⟨d+1,O,by go_num,by rw[b.1];exact o.fr cZ,i.alloc _,aC p.1 _⟩
     omega
    have b:N (d=a):=Z O;go_wp2;go_roundg (a2-1)
    .exact⟨a+1,O,by go_num,by rw[Uc];have:=o;rwa[b.1] at this,i⟩
    omega
  have d:N (a=e):=Z O;go_wp2;go_end0
  exact⟨⟨_,Y⟩,by have:=n;rwa[d.1] at this,h⟩
def Vm(a:Hs):L (T×T):=Vw a a.length
theorem abD{s q:Prop}(K:q)(b:q->s:=by
 intro w b a6 k C;obtain⟨t,rfl,HS⟩:=C;have v:=(show(prog.info? 355).map (·.size)=some 2 by kernel_rfl);first|go_enter func304,ntmps304|go_enter func305,ntmps305|go_enter func308,ntmps308
 go_wp2_with fail;refine aZ.nm (λG c=> ?_);obtain⟨f,g⟩:=M k.heap.size;rw[<-g];generalize h:f+1=i;have l:=uV c g;have x:=dL (q:=i) c sO;have m:=lq c;have a0:k.heap.size<=i:=O;have o:=HS.f m;clear c g h;refine sg (Rb b _ _ #[aP f 0] _ G (λQ k=>by simp[go_sem]) ⟨t,rfl,o⟩ (λh z y a B X=>w b h z f t y B (a.hs l.1) (o.f a) (oB (ba l.1)))) ?_;rintro e a8 ⟨a7,rfl,⟨s2,rfl,r⟩,a⟩;have p:=r;have d:=(a.hs x.1);have u:=m.step a;obtain⟨P,R,a4,W,rfl,-,-,-⟩:=r;obtain⟨U,V,a9⟩:=oK d;obtain⟨a3,n⟩:=M (iz b);rw[<-n] at p |-;clear a;go_wp2;refine aO (gp rfl _ _ i 355 _ (0,0) _ rfl (sU (aD (aD d 0 _) 1 _)) underlying355 rfl (by rw[v];rfl)) rfl ⟨_,rfl,?_,u.keep ((rF.aK 0 _).aK 1 _) (λa1 e=>by omega)⟩;rw[<-n];refine⟨_,rfl,p.aJ jR ((rF.aK 0 _).aK 1 _) (λa5 a2 F D e=> ?_)⟩;have A:=F.resolve_right id;subst A;exact D.ne ⟨_,_,e▸d⟩ J rfl):s:=b K
def aaO(d:E)(e:Hs->L (T×T)):Prop:=∀(a:Hs)(c:ζ)(b:ε),eJ b c a->aQ d #[c] b λf d=>∃c,f=.returned c/\iM (iz a) (mO a (e a)) d c/\Fr j b d
theorem abE:aaO 304 Vm:=abD abR
theorem aaY(c:Hs)(a b:E)(p:a<c.length)(k:b<c.length):((Vm c).foldl lp iO) a b=soR c a b:=by
 rw[kO,dS];simp only[iO,κ.false_or,eH,cS,soR,bA,ef];unfold Vm Vw ND;simp only[ke,eC];constructor
 .rintro⟨⟨l,m⟩,⟨s,o,r,i,e⟩,n,f,d,g⟩
  split at e
  .rename_i h
   simp only[cX,gW] at e;obtain⟨rfl,rfl⟩:=e;simp only[gu] at d g;subst d g;exact⟨i,h⟩
  simp at e
 rintro⟨f,d⟩;refine⟨((a:T),(b:T)),⟨b,k,a,f,?_⟩,O,sO,sI,sI⟩;rw[aS d];simp
def ZG(a:E)(b:L Tk):L (T×T):=b.map λb=>(b.f,(a:T))
def Yt(b:Hs)(a:E):L (T×T):=(L.range a).flatMap λ(a:E)=>ZG a (tx b (a:T)).r
def Pn(a:Hs):L (T×T):=Yt a a.length
theorem Pj(b:Hs)(a:E):Yt b (a+1)=Yt b a++ZG a (tx b (a:T)).r:=by
 unfold Yt;rw[nE,ny];simp
theorem VW{a:Hs}(f:bm a=γ){d:Tn}(c:a[m]? =S d){b:Tk}(e:b∈d.r):b.f<(a.length:T):=by
 have a:=(cj.1 c).1;have a:=js f (t:=(m:T)) O O (x:=b) (by rw[zA c];exact e);omega
theorem abo(c:Hs)(A:bm c=γ)(a o:E)(B:ζ)(e:ε)(s:GB c.length iO e a)(r:aY e o #[B] 54)(X:Sl 77 3 CT e B c)(B:a≠o):
  aQ 329 #[.func (.func 336) #[] #[aP a 0],aP o 0] e λd b=>(∃f,d=.returned f)/\GB c.length ((Yt c c.length).foldl lp iO) b a/\bT a e b:=by
 obtain⟨P,y,b0,b5,rfl,a1,a2,l⟩:=X;obtain⟨d,b⟩:=M c.length;have o:d<=32:=oB (bK A);rw[<-b] at a1 r s;rw[<-b];have HLN:=Z b;have G:=s;have o:=Z r;obtain⟨o,t,-⟩:=s;have b2:N (∀f,bT a e f->fF 77 3 CT f P y b0 c):=Z (λg f=>l.aJ CT.aJ f (λk i h g f=>g.ne ⟨_,_,f▸t⟩ (by rcases h with rfl|rfl|rfl<;>decide) Y));have o:=bx r;unfold maxLen at a2;clear b
 delta aQ;go_in
 go_wp2_with fail;go_loopg [10] d (λgk s10 wr=>∃b:E,b+gk=d/\s10=I b/\GB d ((Yt c b).foldl lp iO) wr a/\bT a e wr)
 .exact⟨0,du,Y,G,rF⟩
 case round=>
  obtain⟨b,HK,rfl,v,i⟩:=hrel;have o:b<=d:=O;obtain⟨W,rfl⟩:=M gk;by_cases o:b<d
  .obtain⟨f,k⟩:=gE c b jE
   obtain rfl:=l.addr k;obtain⟨G,B,o,r,s,a8,a7⟩:=l.tn k;have l:¬y=a:=λg=>(l.uQ k).ne ⟨_,_,g▸t⟩ J Y;have U:=i.aF o l;have o:=i.aF r l;have l:=i.aF s l;obtain⟨b3,b4,b9,b7,rfl,-,-,-⟩:=a8;obtain⟨Q,R,b1,b6,rfl,b8,a6,a0⟩:=a7;have K:(∀g,bT a e g->fF 203 2 CK g Q R b1 f.r):=(λh g=>by
    exact a0.aJ (Pl.aJ fv (λ_=>False)) g (λo n l h g=>h.ne ⟨_,_,g▸t⟩ (by rcases l with rfl|m;decide;exact m.elim) Y))
   generalize g:f.s=l at U;have⟨a4,a5⟩:=dy b d;clear g;go_wp2_with fail;(refine cT (λl g=> ?_);obtain⟨q,h⟩:=M wr.heap.size;have D:bT a e l:=(by rw[g];exact i.alloc _);have o:=dL g h;have F:GB d ((Yt c b).foldl lp iO) l a:=(by rw[g];exact v.fr cZ);rw[<-h];clear g h;obtain⟨h,g⟩:=M f.r.length;have HNR:=Z g;have l:h<=9223372036854775807:=by unfold maxLen at a6;omega);rw[<-g] at o |-;clear g;go_loopg [6,18] h (λgk s6 s18 wr=>∃g:E,g+gk=h/\s18=I g/\GB d ((Yt c b++ZG b (f.r.take g)).foldl lp iO) wr a/\bT a e wr)
   .exact⟨0,du,Y,by have:=F;simpa[ZG] using this,D⟩
   case round=>
    obtain⟨c,a9⟩:=M wr;subst a9;obtain⟨g,HJ,rfl,w,p⟩:=hrel;have c:g<=h:=O;by_cases c:g<h
    .obtain⟨n,m⟩:=gE f.r g Sh
     have z:=K _ p;obtain rfl:=z.addr m;obtain⟨c,l⟩:=z.tk m;have e:n.f<(d:T):=gX ((λo e=>VW A k e) n (bQ m)) HLN.1;have x:N (ZG b (f.r.take (g+1))=ZG b (f.r.take g)++[(n.f,(b:T))]):=Z (by rw[bJ m];simp[ZG]);obtain⟨m,C⟩:=n;simp only at c l e x;have⟨c,h⟩:=dy g h;go_wp2_with fail;refine aZ.nm (λh c=> ?_);have u:=cY c;clear c;refine sg (xm d _ O C (b:T) e a4 a5 a h (w.fr u)) ?_;rintro a e ⟨⟨c,rfl⟩,a3,V⟩;go_wp2;go_roundg (gk-1)
     .exact⟨g+1,O,by go_num,(by rw[x.1,<-dm,mf (l':=[(C,(b:T))])];exact a3),((p.step u).tr V)⟩
     omega
    have a:(f.r.take g=f.r):=(by apply dq;have:=HNR.1;omega);go_wp2;go_roundg (W-1)
    .exact⟨b+1,O,by go_num,by rw[Pj,(zA k)];have:=w;rwa[a] at this,p⟩
    omega
  have f:(b=d):=O;go_wp2;go_end0
  exact⟨⟨_,Y⟩,by have:=v;rwa[f] at this,i⟩
theorem aaF:aaO 305 Pn:=abD abo
theorem aax(b:Hs)(c a:E)(m:c<b.length)(k:a<b.length):((Pn b).foldl lp iO) c a=wrR b c a:=by
 rw[kO,dS];simp only[iO,κ.false_or,eH,cS,wrR,bA,ef,gd];unfold Pn Yt ZG;simp only[ke,eC,dE];constructor
 .rintro⟨⟨b,m⟩,⟨o,n,l,i,e⟩,f,g,h,d⟩
  simp only[gW] at e;obtain⟨rfl,rfl⟩:=e;simp only[gu] at f g h d;subst d;exact⟨O,l,i,O⟩
 rintro⟨f,e,d,b⟩;exact⟨((c:T),(a:T)),⟨a,k,e,d,by rw[b]⟩,sI,sO,sI,sI⟩
structure Mt(n0:E)(te:TypeId)(w w':ε):Prop where
 fr:Fr (λk=>n0<=k/\fE te w k) w w'
 kind:∀(k:E)(cs:θ ζ),w.heap[k]? =S (.cells cs te (0,0))->∃cs':θ ζ,w'.heap[k]? =S (.cells cs' te (0,0))/\cs'.size=cs.size
theorem Mt.Rf(a:Fr j W V):Mt m t W V:=
 ⟨a.mono (λ_ _ b=>b.elim),λd b c=>⟨b,a.aB c id,Y⟩⟩
theorem Mt.trans(a:Mt m t W V)(b:Mt m t V U):Mt m t W U:=by
 refine⟨⟨b.fr.os.trans a.fr.os,b.fr.tape.trans a.fr.tape,b.fr.output.trans a.fr.output,bX a.fr.size b.fr.size,λc e f=> ?_⟩,λc g h=> ?_⟩
 .have d:=a.fr.block c e f
  refine(b.fr.block c (jd e a.fr.size) (λe=>f ⟨e.1,?_⟩)).trans d;obtain⟨U,e,f⟩:=e.2;exact⟨U,e,d▸f⟩
 obtain⟨a,e,d⟩:=a.kind c g h;obtain⟨a,c,b⟩:=b.kind c a e;exact⟨a,c,b.trans d⟩
theorem Mt.abN{e:θ ζ}(g:W.heap[q]? =S (.cells e t (0,0)))(k:m<=q){d:θ ζ}(l:d.size=e.size)(h:V.heap[q]? =S (.cells d t (0,0)))(f:Fr (λc=>c=q) W V):Mt m t W V:=by
 refine⟨f.mono (λb _ a=> ?_),λc i b=> ?_⟩
 .subst a;exact⟨k,_,_,g⟩
 by_cases a:c=q
 .subst a
  rw[g] at b;simp only[fZ,Obj.cells.injEq] at b;obtain⟨rfl,-⟩:=b;exact⟨_,h,l⟩
 exact⟨i,f.aB b a,Y⟩
theorem Mt.back(a:Mt W.heap.size t W V):Fr j W V:=a.fr.mono (λb a c=>by omega)
theorem Mt.sl{n:E}{b:TypeId->Prop}{a:TypeId}(f:Mt m a W V)(e:dU b C)(c:t≠a)(d:¬b a)(a:Sl t n C W x X):Sl t n C V x X:=
 a.aJ e f.fr (λg f e b a=>b.ne a.2 (λa=>e.elim (λb=>c (b.symm.trans a)) (λb=>d (a▸b))) Y)
theorem pM{P:Program}{h:TypeId->Prop}(k:o2.guard=η)(d f){e:TypeId}(B:o2.op=Op.call {callee:=Callee.builtin Builtin.append,args:=#[d,f],argTypes:=#[e,e]})(l:dK P e t m q)(a)(z:X.length=a)(D:a1.eval d=x)(n:cC n1 t m C W x X L1)(r:dU h C)(u:¬h t)(g:α)(G:a1.eval f=.slice A 1 n2)(y:Y1.length=m)(F:eF W A Y1)(K:∀b,mV n1 x W b->C b Y1 g)(v:(a+1)*q<=140737488355328)(p:a+1<=maxLen)(w:n1<=W.heap.size)(s:∀i c b,cC n1 t m C b (.slice i (a+1) c) (X++[g]) (L1++[Y1])->mV n1 x W b->a+1<=c->c<=maxLen->K1 (a1.put o2.dst (.slice i (a+1) c)) b):Oper.wp P o2 a1 W K1 Q:=by
 have o:=tQ (ops:=#[]) (E:=True) k d f B l a z D n r u g G y F K v p w s (Q:=Q);rwa[aS (by simp[Region.wanted,k])] at o
section
variable {P:Program} {ops:θ Oper} {Q:Exit->Act->ε->Prop}
def gC(ops:θ Oper)(a:E):ι Tmp:=(ops[a]?).bind (·.dst)
def VC(d:E->ζ)(b:E)(c:ζ):E->ζ:=λa=>if a=b then c else d a
theorem Vn(c a b):VC c a b a=b:=by simp[VC]
theorem Ji{c:E->ζ}{b a:E}{e:ζ}(d:a≠b):VC c b e a=c a:=by simp[VC,d]
def gj(ops:θ Oper)(b:Act)(c:E->ζ)(a:E->κ):E->Act
 |0=>b
 |n+1=>if a n=γ then(gj ops b c a n).put (gC ops n) (c n) else gj ops b c a n
theorem uN(a:Act)(b:ι Tmp)(c:ζ):(a.put b c).defers=a.defers:=by cases b<;>rfl
theorem Mx(a:Act)(b:ι Tmp)(c:ζ):(a.put b c).tmps.size=a.tmps.size:=by cases b<;>simp[Act.put]
theorem lH(a:Act)(c:E->ζ)(b:E->κ):∀d,(gj ops a c b d).defers=a.defers
 |0=>rfl
 |d+1=>by rw[gj];split;rw[uN,lH a c b d];exact lH a c b d
theorem mF(a:Act)(c:E->ζ)(b:E->κ):∀d,(gj ops a c b d).tmps.size=a.tmps.size
 |0=>rfl
 |d+1=>by rw[gj];split;rw[Mx,mF a c b d];exact mF a c b d
theorem qR(c){σ σ':E->ζ}{L L':E->κ}:∀b,(∀a,a<b->L a=L' a/\(L a=γ->σ a=σ' a))->gj ops c σ L b=gj ops c σ' L' b
 |0,_=>rfl
 |b+1,h=>by
  obtain⟨d,e⟩:=h b O;rw[gj,gj,(qR c b (λa g=>h a O)),<-d];split
  .rename_i f;rw[e f]
  rfl
theorem sk(b:Act)(c:ι Tmp)(f:ζ)(a:E):(b.put c f).tmps[a]? =if c=S a/\a<b.tmps.size then S f else b.tmps[a]? :=by
 cases c with
 |none=>simp[Act.put]
 |some e=>
  by_cases d:e=a
  .subst d
   by_cases a:e<b.tmps.size
   .simp[Act.put,a]
   simp[Act.put,a]
  simp[Act.put,d,ew d]
theorem mP(b:Act)(f:E->ζ)(c:E->κ)(a:E):∀e,(∀d,d<e->gC ops d≠S a)->(gj ops b f c e).tmps[a]? =b.tmps[a]?
 |0,_=>rfl
 |e+1,h=>by
  have d:=mP b f c a e (λa b=>h a O);rw[gj];split
  .rw[sk,aR (λa=>h e O a.1),d]
  exact d
theorem tK(c:Act)(f:E->ζ)(d:E->κ)(b a:E)(l:gC ops a=S b)(k:d a=γ):∀g,a<g->(∀e,e<g->e≠a->gC ops e≠S b)->(gj ops c f d g).tmps[b]? =if b<c.tmps.size then S (f a) else η
 |0,h,_=>by omega
 |e+1,hn,hu=>by
  rw[gj];by_cases i:e=a
  .subst i
   rw[aS k,sk,l,mF];by_cases g:b<c.tmps.size
   .simp[g]
   have:=mP c f d b e (λm n=>hu m O O);rw[this,aR (λm=>g m.2),aR g,kC O]
  have g:=tK c f d b a l k e O (λa b=>hu a O);split
  .rw[sk,aR (λa=>hu e O i a.1),g]
  exact g
theorem EY(e){g:E->ζ}{d L':E->κ}{b:E}{v:ζ}(l:d b=δ)(m:L' b=γ)(i:∀c,c≠b->L' c=d c)(n:∀c,c≠b->∀k,gC ops b=S k->gC ops c≠S k):
  ∀a,b<a->gj ops e (VC g b v) L' a=(gj ops e g d a).put (gC ops b) v
 |0,h=>by omega
 |a+1,hn=>by
  rw[gj,gj];by_cases f:a=b
  .subst f
   rw[aS m,aR (by rw[l];exact pz),Vn];rw[qR (ops:=ops) (σ:=VC g a v) (σ':=g) (L:=L') (L':=d) e a (λc o=>⟨i c O,λ_=>Ji O⟩)]
  rw[EY e l m i n a O,i a f,Ji f];split
  .exact Act.put_comm _ _ _ (n a f)
  rfl
def sy(a:Oper):L E:=(a.after.toList.filter (Region.binds .any)).map (·.on)
def UM(ops:θ Oper)(b:L (L E))(a:E)(d:Oper):κ:=
 (sy d).all (λc=>decide (c<a))&&(b.getD a []).all (λc=>(sy d).contains c||(sy d).any (λe=>(b.getD e []).contains c))&&
 (b.getD a []).all (λc=>decide (c<a))&&
 (L.range ops.size).all (λc=>match gC ops c with|none=>γ|some e=>decide (c=a)||(!(d.looksAt ops).contains e||(b.getD a []).contains c||(b.getD c []).contains a&&decide (a<c))&&!(gC ops a==S e))&&
 (match gC ops a with|none=>γ|some a=>!(d.looksAt ops).contains a)
def Gv(ops:θ Oper)(b:L (L E)):κ:=Region.noSelect ops&&(L.range ops.size).all (λa=>match ops[a]? with|none=>γ|some c=>UM ops b a c)
structure ZF(ops:θ Oper)(D:L (L E))(i:E)(o:Oper):Prop where
 lt:∀e∈o.after,Region.binds .any e=γ->e.on<i
 dep:∀k∈D.getD i [],∃e∈o.after,Region.binds .any e=γ/\(k=e.on\/k∈D.getD e.on [])
 below:∀k∈D.getD i [],k<i
 looks:∀k d,gC ops k=S d->k≠i->d∈o.looksAt ops->k∈D.getD i []\/(i∈D.getD k []/\i<k)
 own:∀d,gC ops i=S d->d ∉ o.looksAt ops
 adx:∀k d,gC ops k=S d->k≠i->gC ops i≠S d
theorem xR{b:E}{d:Tmp}(a:gC ops b=S d):b<ops.size:=by
 unfold gC at a;cases c:ops[b]? with
 |none=>rw[c] at a;cases a
 |some a=>exact(fJ.1 c).1
theorem pt{c:Oper}{b:E}:b∈sy c↔∃a∈c.after,Region.binds .any a=γ/\a.on=b:=by
 simp[sy,and_assoc]
theorem Ih{i:L (L E)}{e:E}{k:Oper}(m:UM ops i e k=γ):ZF ops i e k:=by
 simp only[UM,bA,fY,cS,eN,eH,jW] at m;obtain⟨⟨⟨⟨p,r⟩,s⟩,m⟩,l⟩:=m;have o:∀a b,gC ops a=S b->a≠e->(b∈k.looksAt ops->a∈i.getD e []\/(e∈i.getD a []/\e<a))/\gC ops e≠S b:=λa b c h=>by
  have:=m a (eC.2 (xR c));rw[c] at this;simp only[eN,cS,bA,qh,jW] at this;rcases this with e|⟨i,n⟩
  .exact absurd e h
  refine⟨λg=> ?_,λd=> ?_⟩
  .rcases i with(f|f)|f
   .have:(k.looksAt ops).contains b=γ:=sU g
    rw[f] at this;cases this
   .exact .inl f
   exact .inr f
  rw[d] at n;simp at n
 refine⟨λd f e=>p _ (pt.2 ⟨d,f,e,Y⟩),λa e=> ?_,s,λa b c h g=>(o a b c h).1 g,λb c g=> ?_,λa b c h=>(o a b c h).2⟩
 .rcases r a e with f|⟨a,u,v⟩
  .obtain⟨d,t,n,rfl⟩:=pt.1 f
   exact⟨d,t,n,.inl Y⟩
  obtain⟨d,t,n,rfl⟩:=pt.1 u;exact⟨d,t,n,.inr v⟩
 rw[c] at l;simp at l;exact l g
theorem Ef(e:Act)(m:E->ζ)(d:E->κ)(c b:E)(g:d b=δ)(i:∀l,l≠b->gC ops l≠S c):∀a,(gj ops e m d a).tmps[c]? =e.tmps[c]?
 |0=>rfl
 |a+1=>by
  have k:=Ef e m d c b g i a;rw[gj];split
  .rename_i h
   (have n:a≠b:=λf=>by rw[f,g] at h;cases h);rw[sk,aR (λf=>i a n f.1),k]
  exact k
def Ig(P:Program)(ops:θ Oper)(Q:Exit->Act->ε->Prop)(k:E->ε->ε->Prop)(f:ε->Prop)(e:L (L E))(g:E->(E->ζ)->ε->Prop)(i:E->ζ)(c:E)(d:Oper)(b:Act):Prop:=
 ∀a,f a->(∀f∈e.getD c [],g f i a)->∀f:Act->ε->Prop,(∀h e,k c a e->g c (VC i c h) e->f (b.put d.dst h) e)->
  if Region.wanted d (yielded ops b.tmps)=γ then Oper.wp P d b a f Q else f (b.put d.dst undef) a
def kA(P:Program)(ops:θ Oper)(Q:Exit->Act->ε->Prop)(k:L E)(g:E->ε->ε->Prop)(e:E->ε->Prop)(h:ε->Prop)(f:L (L E))(b:E->(E->ζ)->ε->Prop)(a:E->ζ):E->L Oper->Act->Prop
 |i,[],l=>∀d,h d->(∀c,c<i->c ∉ k->b c a d)->Q .normal l d
 |i,d::l,c=>Ig P ops Q g (e i) f b a i d c/\kA P ops Q k g e h f b a (i+1) l (c.put d.dst (a i))
theorem tu{r:L E}{o:E->ε->ε->Prop}{m:E->ε->Prop}{p:ε->Prop}{n:L (L E)}{g:E->(E->ζ)->ε->Prop}{c:E->ζ}{e:Act}:
  ∀(f:L Oper)(b:E),(∀a,f[a]? =ops[b+a]?)->kA P ops Q r o m p n g c b f (gj ops e c (λ_=>γ) b)->
   (∀a d,b<=a->ops[a]? =S d->Ig P ops Q o (m a) n g c a d (gj ops e c (λ_=>γ) a))/\(∀d,p d->(∀h,h<b+f.length->h ∉ r->g h c d)->Q .normal (gj ops e c (λ_=>γ) (b+f.length)) d)
 |[],b,k,g=>by
  refine⟨λa i h f=> ?_,λd i h=>g d i h⟩
  have:=k (a-b);rw[show b+(a-b)=a from by omega,f] at this;simp at this
 |k::l,b,m,g=>by
  obtain⟨v,g⟩:=g;have s:ops[b]? =S k:=by have:=m 0;simpa using this.symm
  have c:(gj ops e c (λ_=>γ) b).put k.dst (c b)=gj ops e c (λ_=>γ) (b+1):=by
   rw[gj,aS Y,gC,s];rfl
  rw[c] at g;obtain⟨w,x⟩:=tu l (b+1) (λa=>by have:=m (a+1);rw[show b+(a+1)=b+1+a from by omega] at this;simpa using this) g;refine⟨λa t c f=> ?_,λd i h=> ?_⟩
  .by_cases u:a=b
   .subst u
    rw[s] at f;obtain rfl:=cI f;exact v
   exact w a t O f
  have:=x d i (λc d a=>h c sO a);rwa[show b+1+l.length=b+(k::l).length from by simp;omega] at this
theorem MP{b c:Act}{a:E}(d:b.tmps[a]? =c.tmps[a]?):b.eval (.tmp a)=c.eval (.tmp a):=by simp[Act.eval,d]
theorem Cl{b c:Act}(g:b.tmps.size=c.tmps.size){a:ι Tmp}{e d:ζ}(f:b.put a e=b.put a d):c.put a e=c.put a d:=by
 cases a with
 |none=>rfl
 |some a=>
  by_cases d:a<b.tmps.size
  .have b:=cH (λb:Act=>b.tmps[a]?) f
   simp only[sk,ll,d,eX,fZ] at b;rw[b]
  have a:c.tmps.size<=a:=by rw[<-g];exact E.le_of_not_lt d
  simp only[Act.put];rw[θ.setIfInBounds_eq_of_size_le a,θ.setIfInBounds_eq_of_size_le a]
theorem Yy{a:Oper}{b e:Act}{f:ε}{k:Act->ε->Prop}(o:execOp e.eval a=execOp b.eval a)(p:b.tmps.size=e.tmps.size)(n:b.defers=e.defers)
  (m:∀d(c i:Act) f,c.defers=i.defers->Q (.panic d) c f->Q (.panic d) i f)
  (c:Oper.wp P a b f (λi d=>∃g,i=b.put a.dst g/\k (e.put a.dst g) d) Q):Oper.wp P a e f k Q:=by
 have l:∀h d,(∃g,b.put a.dst h=b.put a.dst g/\k (e.put a.dst g) d)->k (e.put a.dst h) d:=λi d ⟨h,g,e⟩=>by
  rw[Cl p g];exact e
 unfold Oper.wp at*;rw[o];generalize (execOp b.eval a).run P f=s at*;cases s with
 |ok r d=>
  cases r<;>simp only[Oper.upon] at c |-
  case value a=>exact l _ _ c
  case skip=>exact l _ _ c
  case defer a=>
   obtain⟨a,g,_⟩:=c;have a:=cH (λa:Act=>a.defers) g;simp only[uN] at a
   have:=cH L.length a;simp at this
  case enter b a=>
   refine Calls.mono c λg a h=> ?_;cases g with
   |returned a=>exact l _ _ h
   |panicked a=>exact m _ _ _ _ n h
   |outgrown=>exact h
  case row row a=>exact Rows.mono c λb a h=>l _ _ h
 |halt r d=>
  cases r<;>simp only[Oper.upon] at c |-
  case panic a=>exact m _ _ _ _ n c
def Ie(a:E)(b:θ κ):E:=((L.range a).filter (λa=>!b.getD a δ)).length
theorem Ss{c:E}{b:θ κ}{a:E}(f:a<c)(e:b.size=c)(i:b.getD a δ=δ):Ie c (b.setIfInBounds a γ)<Ie c b:=by
 unfold Ie;have n:∀c,(!(b.setIfInBounds a γ).getD c δ)=(!b.getD c δ&&!decide (c=a)):=λc=>by
  by_cases d:c=a
  .subst d
   simp[e,f]
  rw[getD_set_ne δ (dX d)];simp[d]
 have l:∀(c:L E),a∈c->(c.filter (λd=>!b.getD d δ&&!decide (d=a))).length<(c.filter (λc=>!b.getD c δ)).length:=by
  intro p;induction p with
  |nil=>intro d;cases d
  |cons h g o=>
   intro m;have k:∀(d:L E),(d.filter (λc=>!b.getD c δ&&!decide (c=a))).length<=(d.filter (λc=>!b.getD c δ)).length:=λd=>by
    induction d with
    |nil=>simp
    |cons e q d=>
     simp only[qg];by_cases c:(!b.getD e δ)=γ
     .rw[c]
      by_cases e:e=a
      .simp[e];simp at d;omega
      simp[e];simp at d;omega
     rw[κ.not_eq_true] at c;rw[c];simp;simp at d;omega
   by_cases d:h=a
   .subst d
    have:=k g;simp only[qg,i];simp;simp at this;omega
   have c:a∈g:=by
    rcases cK.1 m with c|c
    .exact absurd c.symm d
    exact c
   have:=o c;simp only[qg];by_cases c:(!b.getD h δ)=γ
   .rw[c];simp[d];simp at this;omega
   rw[κ.not_eq_true] at c;rw[c];simp;simp at this;omega
 have a:(λc=>!(b.setIfInBounds a γ).getD c δ)=(λc=>!b.getD c δ&&!decide (c=a)):=funext n;rw[a];exact l _ (eC.2 f)
theorem Mb{d:E}{c:θ κ}(b:Ie d c=0):∀a,a<d->c.getD a δ=γ:=λa c=>by
 unfold Ie at b
 have:=vD.1 (fH b) a (eC.2 c);simpa using this
theorem Yl{dd ms:L E}{T:E->ε->ε->Prop}{pre:L E}{base0 base:ε->Prop}{D:L (L E)}{G:E->(E->ζ)->ε->Prop}{a:Act}
  (f8:Region.noSelect ops=γ)(a4:∀c i,ops[c]? =S i->ZF ops D c i)(d9:∀c3(a a0:Act) f,a.defers=a0.defers->Q (.panic c3) a f->Q (.panic c3) a0 f)
  (e0:∀c f l,base f->T c f l->base l)(e1:∀c f l,c ∉ ms->base0 f->T c f l->base0 l)(g1:∀c∈pre,∀q∈ms,c=q\/c∈D.getD q [])(e4:∀b∈dd,∀c∈ms,∀g,b∈D.getD g []->g∈D.getD c []\/g=c)(g2:∀c b e f l,c≠b->c ∉ D.getD b []->(b ∉ dd\/c ∉ ms)->G b e f->T c f l->G b e l)(f4:∀b e d3 f,(∀g,g=b\/g∈D.getD b []->e g=d3 g)->G b e f->G b d3 f)
  (hw:∀e,kA P ops Q dd T (λc=>if c∈pre then base0 else base) base D G e 0 ops.toList a):
  ∀(x:E)(d:θ κ)(e:E->ζ)(f:ε),d.size=ops.size->Ie ops.size d<=x->(∀b,d.getD b δ=γ->∀g∈D.getD b [],d.getD g δ=γ)->base f->((∀q∈ms,d.getD q δ=δ)->base0 f)->
   (∀b,b<ops.size->d.getD b δ=γ->(b ∉ dd\/∀c∈ms,d.getD c δ=δ)->G b e f)->wpAny P .any ops Q x d (gj ops a e (λb=>d.getD b δ) ops.size) f:=by
 have d1:∀e,(∀g i,ops[g]? =S i->Ig P ops Q T (if g∈pre then base0 else base) D G e g i (gj ops a e (λ_=>γ) g))/\(∀f,base f->(∀b,b<ops.size->b ∉ dd->G b e f)->Q .normal (gj ops a e (λ_=>γ) ops.size) f):=λe=>by
  obtain⟨F,d8⟩:=tu (ops:=ops) ops.toList 0 (λg=>by simp) (hw e);refine⟨λg i n=>F g i nG n,λf r u=> ?_⟩
  have:=d8 f r (λb h w=>u b (sU h) w);simpa using this
 have c4:∀(d:θ κ)(e:E->ζ)(f:ε),(∀b,b<ops.size->d.getD b δ=γ)->base f->(∀b,b<ops.size->d.getD b δ=γ->(b ∉ dd\/∀c∈ms,d.getD c δ=δ)->G b e f)->
   Q .normal (gj ops a e (λb=>d.getD b δ) ops.size) f:=λd e f A r u=>by
  rw[qR (ops:=ops) (σ:=e) (σ':=e) (L':=λ_=>γ) a ops.size (λb h=>⟨A b h,λ_=>Y⟩)];exact(d1 e).2 f r (λb h w=>u b h (A b h) (.inl w))
 have f7:∀(d:θ κ),d.size=ops.size->Region.ready .any ops d=[]->∀b,b<ops.size->d.getD b δ=γ:=λd K W b=>by
  induction b using E.strongRecOn with
  |_ b c2=>
   intro h;obtain⟨i,n⟩:∃i,ops[b]? =S i:=⟨_,ju h⟩;cases A:d.getD b δ with
   |true=>rfl
   |false=>
    have:b∈Region.ready .any ops d:=mem_ready.2 ⟨getD_in O A,i,n,λk a2 r=>c2 _ ((a4 b i n).lt k a2 r) (oB ((a4 b i n).lt k a2 r))⟩;rw[W] at this;cases this
 intro x;induction x with
 |zero=>
  intro d e f K c5 z r b1 u;have A:=Mb (E.le_zero.1 c5);refine⟨?_,c4 d e f A r u⟩;cases W:Region.ready .any ops d with
  |nil=>rfl
  |cons a7 h0=>
   (have c1:a7∈Region.ready .any ops d:=by rw[W];simp);obtain⟨F,i,n,_⟩:=mem_ready.1 c1
   have:=A a7 (fJ.1 n).1;rw[getD_both F] at this;cases this
 |succ x c2=>
  intro d e f K c5 z r b1 u;refine⟨λW=>c4 d e f (f7 d K W) r u,λc e9=> ?_⟩;obtain⟨g4,i,n,e5⟩:=mem_ready.1 e9;have o:=getD_both g4;have b4:c<ops.size:=(fJ.1 n).1;have B:=a4 c i n;have a9:∀b∈D.getD c [],d.getD b δ=γ:=λb h=>by
   obtain⟨k,a2,e2,b5⟩:=B.dep b h;have F:=e5 k a2 e2;rcases b5 with rfl|b5
   .exact F
   exact z _ F _ b5
  have e6:i.dst=gC ops c:=by rw[gC,n];rfl
  have b6:∀m,m∈i.looksAt ops->(gj ops a e (λb=>d.getD b δ) ops.size).tmps[m]? =(gj ops a e (λ_=>γ) c).tmps[m]? :=λm w=>by
   by_cases b2:∃b,gC ops b=S m
   .obtain⟨b,h⟩:=b2
    have f0:b≠c:=λk=>B.own m (k▸h) w;have a6:∀g,g≠b->gC ops g≠S m:=λg p k=>by
     obtain⟨g7,f9⟩:∃i,ops[b]? =S i:=⟨_,ju (xR h)⟩;exact(a4 b g7 f9).adx g m k p h
    rcases B.looks b m h f0 w with c6|⟨a3,g8⟩
    .rw[tK (ops:=ops) a e _ m b h (a9 b c6) ops.size (xR h) (λg _ p=>a6 g p),tK (ops:=ops) a e (λ_=>γ) m b h Y c (B.below b c6) (λg _ p=>a6 g p)]
    have f2:d.getD b δ=δ:=by
     cases f3:d.getD b δ
     .rfl
     rw[z b f3 c a3] at o;cases o
    rw[Ef (ops:=ops) a e _ m b f2 a6 ops.size,mP (ops:=ops) a e _ m c (λg p=>a6 g O)]
   rw[mP (ops:=ops) a e _ m ops.size (λb _ k=>b2 ⟨b,k⟩),mP (ops:=ops) a e _ m c (λb _ k=>b2 ⟨b,k⟩)]
  obtain⟨C,V⟩:=M (gj ops a e (λb=>d.getD b δ) ops.size);obtain⟨R,a1⟩:=M (gj ops a e (λ_=>γ) c);have e3:(if c∈pre then base0 else base) f:=by
   by_cases k:c∈pre
   .simp only[k,eX]
    refine b1 (λq t=> ?_);cases v:d.getD q δ
    .rfl
    rcases g1 c k q t with y|y
    .rw[y,v] at o;cases o
    rw[z q v c y] at o;cases o
   simp only[k,iG];exact r
  have d0:=(d1 e).1 c i n f e3 (λb h=>u b (oB (B.below b h)) (a9 b h) (by
   by_cases c7:b∈dd
   .refine .inr (λq t=> ?_)
    cases v:d.getD q δ
    .rfl
    rcases e4 b c7 q t c h with y|y
    .rw[z q v c y] at o;cases o
    rw[y,v] at o;cases o
   exact .inl c7))
  rw[<-V,<-a1] at b6;rw[<-a1] at d0;rw[<-V];have e7:execOp C.eval i=execOp R.eval i:=execOp_congr i (λd5 d4=>Region.noSelect_spec f8 c i d5 d4 n) (λa7 c1=>by
   cases a7 with
   |tmp X=>exact MP (b6 X (L.mem_append_left _ (tp.2 ⟨.tmp X,sU c1,Y⟩)))
   |_=>rfl)
  have g5:Region.wanted i (yielded ops C.tmps)=Region.wanted i (yielded ops R.tmps):=by
   unfold Region.wanted;cases e8:i.guard with
   |none=>rfl
   |some d7=>
    obtain⟨a8,g9⟩:=d7;have g6:yielded ops C.tmps a8=yielded ops R.tmps a8:=by
     unfold yielded;cases g3:(ops[a8]?).bind (·.dst) with
     |none=>rfl
     |some X=>
      (have:X∈i.looksAt ops:=by unfold Oper.looksAt;rw[e8];exact L.mem_append_right _ (by simp[g3]));simp only[ι.bind_some,b6 X this]
    simp only[g6]
  have d2:R.tmps.size=C.tmps.size:=by rw[a1,V,mF,mF]
  have f6:∀s l,T c f l->G c (VC e c s) l->wpAny P .any ops Q x (d.setIfInBounds c γ) (C.put i.dst s) l:=λs l U b0=>by
   (have b7:∀b,b≠c->(d.setIfInBounds c γ).getD b δ=d.getD b δ:=λb h=>getD_set_ne δ (dX h);have b9:(d.setIfInBounds c γ).getD c δ=γ:=by simp[K,b4]);rw[V,e6,<-EY (ops:=ops) (v:=s) (L':=λb=>(d.setIfInBounds c γ).getD b δ) a o b9 b7 (λb h m w k=>B.adx b m k h w) ops.size b4];refine c2 _ _ l (by simp[K]) (oB (Ss b4 K o)) (λb h g p=> ?_) (e0 c f l r U) (λt=>e1 c f l (λb3=>by have:=t c b3;rw[b9] at this;cases this) (b1 (λq b8=>by
    cases v:d.getD q δ
    .rfl
    rw[<-t q b8];exact(getD_set_true v).symm)) U) (λb f1 h c9=> ?_)
   .refine getD_set_true ?_
    by_cases k:b=c
    .subst k;exact a9 g p
    exact z b (by rw[<-b7 b k];exact h) g p
   by_cases k:b=c
   .subst k;exact b0
   (have c8:d.getD b δ=γ:=by rw[<-b7 b k];exact h);(have a3:c ∉ D.getD b []:=λf5=>by rw[z b c8 c f5] at o;cases o);have g0:b ∉ dd\/∀q∈ms,d.getD q δ=δ:=c9.imp id (λt q b8=>by
    cases v:d.getD q δ
    .rfl
    rw[<-t q b8];exact(getD_set_true v).symm)
   refine f4 b e _ l (λg p=>(Ji ?_).symm) (g2 c b e f l (dX k) a3 (c9.imp id (λt b3=>by have:=t c b3;rw[b9] at this;cases this)) (u b f1 c8 g0) U);rcases p with rfl|p
   .exact k
   exact λd6=>a3 (d6▸p)
  have a5:=d0 (λa0 l=>∃s,a0=R.put i.dst s/\wpAny P .any ops Q x (d.setIfInBounds c γ) (C.put i.dst s) l) (λs l U b0=>⟨s,Y,f6 s l U b0⟩);unfold wpOp;simp only[n,g5];split
  .rename_i c0
   rw[aS c0] at a5;exact .inl (Yy e7 d2 (by rw[a1,V,lH,lH]) d9 a5)
  rename_i c0;rw[aR c0] at a5;obtain⟨s,k,h⟩:=a5;rw[Cl d2 k];exact h
inductive bG
 |w0
 |w1 (i:E) (R:ζ->ε->Prop)
 |w2 (i j:E) (R:ζ->ζ->ε->Prop)
 |w3 (i j k:E) (R:ζ->ζ->ζ->ε->Prop)
def bG.at:bG->(E->ζ)->ε->Prop
 |.w0,_,_=>True
 |.w1 b a,d,c=>a (d b) c
 |.w2 c d b,a,e=>b (a c) (a d) e
 |.w3 c d e b,a,f=>b (a c) (a d) (a e) f
def bG.reads:bG->L E
 |.w0=>[]
 |.w1 a _=>[a]
 |.w2 a b _=>[a,b]
 |.w3 a b c _=>[a,b,c]
theorem bG.loc{c:bG}{f d:E->ζ}{e:ε}(a:∀b∈c.reads,f b=d b)(b:c.at f e):c.at d e:=by
 cases c with
 |w0=>trivial
 |w1 d c=>simp only[bG.reads,cX,dg] at a;simp only[bG.at] at b |-;rw[<-a];exact b
 |w2 c d e=>
  simp only[bG.at] at b |-;rw[<-(a c (by simp[bG.reads])),<-(a d (by simp[bG.reads]))];exact b
 |w3 c d e f=>
  simp only[bG.at] at b |-;rw[<-(a c (by simp[bG.reads])),<-(a d (by simp[bG.reads])),<-(a e (by simp[bG.reads]))];exact b
def yR(a:L (L E)):E->L (L E)->κ
 |_,[]=>γ
 |k,b::c=>b.all (λb=>decide (b=k)||(a.getD k []).contains b)&&yR a (k+1) c
def kZ(a:E->bG->Prop):E->L bG->Prop
 |_,[]=>True
 |i,b::c=>a i b/\kZ a (i+1) c
theorem OU{p:E->bG->Prop}(c:∀a,p a .w0):∀(a:L bG)(b:E),kZ p b a->∀d,p (b+d) (a.getD d .w0)
 |[],a,_,b=>by simpa using c (a+b)
 |g::r,a,h,0=>h.1
 |g::r,a,h,b+1=>by
  have:=OU c r (a+1) h.2 b;rw[show a+(b+1)=a+1+b from by omega];simpa using this
theorem Ad{d:L (L E)}:∀(e:L bG)(a:E),yR d a (e.map bG.reads)=γ->∀c b,b∈(e.getD c .w0).reads->b=a+c\/b∈d.getD (a+c) []
 |[],a,_,c,b,hj=>by simp[bG.reads] at hj
 |g::r,b,h,0,a,hj=>by
  simp only[jC,yR,bA,fY,eN,cS,jW] at h;exact h.1 a (sU hj)
 |g::r,a,h,b+1,c,hj=>by
  simp only[jC,yR,bA] at h
  have:=Ad r (a+1) h.2 b c (sU hj);rw[show a+(b+1)=a+1+b from by omega];exact this
def bG.Fy(e:ε->ε->Prop)(b:bG):Prop:=∀d c a,b.at d c->e c a->b.at d a
def ddB(b:E)(a:L (L E))(c e:L E):κ:=decide (a.length<=b)&&c.all (λd=>e.all (λc=>(L.range b).all (λb=>!(a.getD b []).contains d||(a.getD c []).contains b||decide (b=c))))
theorem rgG{id:E}{i:Act}{d:ε}{e:L Oper}(D:P.follows .mixedOrders=γ)(m g r:L E)(l:E->ε->ε->Prop)(h:ε->ε->Prop)(c:L (L E))(f:L bG)(Rd:L (L E))
  (s:Gv e.toArray c=γ)(t:ddB c.length c m g=γ)(R:r.all (λa=>g.all (λq=>decide (a=q)||(c.getD q []).contains a))=γ)(z:yR c 0 Rd=γ)(A:f.map bG.reads=Rd)(y:∀n(k b:Act) d,k.defers=b.defers->Q (.panic n) k d->Q (.panic n) b d)
  (u:∀k b,Fr j k b->h k b)(v:∀b k n,h b k->h k n->h b n)(F:∀a∈g,∀b k,l a b k->h b k)
  (W:kZ (λ_ b=>b.Fy (Fr j)) 0 f)
  (X:∀a∈g,kZ (λb k=>a≠b->a ∉ c.getD b []->b ∉ m->k.Fy (l a)) 0 f)
  (w:∀k,kA P e.toArray Q m (λa=>if a∈g then l a else Fr j) (λa=>if a∈r then Fr j d else h d) (h d) c (λb=>(f.getD b .w0).at) k 0 e i):(Code.region id e.toArray γ).wp P Q i d:=by
 simp only[Gv,bA,fY,eC] at s;obtain⟨G,K⟩:=s;refine wp_region_any D ?_;have x:i=gj e.toArray i (λ_=>undef) (λb=>(θ.replicate e.toArray.size δ).getD b δ) e.toArray.size:=by
  have:∀k,gj e.toArray i (λ_=>undef) (λb=>(θ.replicate e.toArray.size δ).getD b δ) k=i:=λk=>by
   induction k with
   |zero=>rfl
   |succ n k=>rw[gj,aR (by rw[sH];exact pz),k]
  exact(this _).symm
 have U:∀b,(f.getD b .w0).Fy (Fr j):=λb=>by
  have:=OU (p:=λ_ k=>k.Fy (Fr j)) (λ_=>λ_ _ _ _ _=>trivial) f 0 W b;exact this
 have V:∀a∈g,∀b,a≠b->a ∉ c.getD b []->b ∉ m->(f.getD b .w0).Fy (l a):=λa k b=>by
  have:=OU (p:=λb n=>a≠b->a ∉ c.getD b []->b ∉ m->n.Fy (l a)) (λ_ _ _ _=>λ_ _ _ _ _=>trivial) f 0 (X a k) b;rwa[de] at this
 have a0:=Yl (pre:=r) (base0:=Fr j d) (dd:=m) (ms:=g) (T:=λa=>if a∈g then l a else Fr j) (base:=h d) (D:=c) (G:=λb=>(f.getD b .w0).at) (a:=i) G (λa i h=>Ih (by have:=K a (fJ.1 h).1;rw[h] at this;exact this)) y
  (λa i m l h=>by
   by_cases i:a∈g
   .simp only[i,eX] at h;exact v _ _ _ l (F a i _ _ h)
   simp only[i,iG] at h;exact v _ _ _ l (u _ _ h))
  (λa l m k i h=>by simp only[k,iG] at h;exact i.step h)
  (λa k q h=>by
   have:=(fY.1 ((fY.1 R) a k)) q h;simpa using this)
  (λb C a k o p=>by
   simp only[ddB,bA,fY,eC,eN,qh,cS] at t;have B:o<c.length:=by
    rcases dP o c.length with h|h
    .exact h
    rw[show c.getD o []=[] from by simp[L.getD,jw h]] at p;cases p
   rcases t.2 b C a k o B with(n|n)|n
   .have:(c.getD o []).contains b=γ:=sU p
    rw[n] at this;cases this
   .exact .inl (sU n)
   exact .inr n)
  (λa b m k l p n o i h=>by
   by_cases c:a∈g
   .simp only[c,eX] at h;exact V a c b p n (o.resolve_right (λa=>a c)) m k l i h
   simp only[c,iG] at h;exact U b m k l i h)
  (λb i a h g c=>bG.loc (λa h=>g a (by have:=Ad f 0 (A▸z) b a h;rwa[de] at this)) c) (sU w) e.toArray.size (θ.replicate e.toArray.size δ) (λ_=>undef) {d with drawn:=d.drawn+1} sI (by unfold Ie;exact bX (pZ _ _) sI)
  (λb n=>by rw[sH] at n;cases n) (u _ _ (Fr.refl j d).drew) (λ_=>(Fr.refl j d).drew) (λb _ n _=>by rw[sH] at n;cases n)
 rwa[<-x] at a0
theorem iR{id:E}{k:Act}{c:ε}{f:L Oper}(e g:L E)(a:ε->ε->Prop)(b:L (L E))(d:L bG)(Rd:L (L E))
  (t:P.follows .mixedOrders=γ)(m:Gv f.toArray b=γ)(n:ddB b.length b e g=γ)(p:yR b 0 Rd=γ)(r:d.map bG.reads=Rd)(o:∀l(i h:Act) c,i.defers=h.defers->Q (.panic l) i c->Q (.panic l) h c)
  (s:∀i h,Fr j i h->a i h)(w:∀h i l,a h i->a i l->a h l)
  (u:kZ (λ_ h=>h.Fy (Fr j)) 0 d)
  (v:∀i∈g,kZ (λh l=>i≠h->i ∉ b.getD h []->h ∉ e->l.Fy a) 0 d)
  (h:∀l,kA P f.toArray Q e (λi=>if i∈g then a else Fr j) (λ_=>a c) (a c) b (λi=>(d.getD i .w0).at) l 0 f k):(Code.region id f.toArray γ).wp P Q k c:=
 rgG t e g [] (λ_=>a) a b d Rd m n Y p r o s w (λ_ _ _ _ a=>a) u v (λa=>by simpa only[L.not_mem_nil,iG] using h a)
end
theorem rY:type_of% (And.intro rA (And.intro rB (And.intro rC (And.intro @bG.at.eq_1 (And.intro @bG.at.eq_2 (And.intro @bG.at.eq_3 (And.intro @bG.at.eq_4 (And.intro @VC.eq_1 (And.intro @Act.put.eq_1 @Act.put.eq_2))))))))):=⟨rA,rB,rC,@bG.at.eq_1,@bG.at.eq_2,@bG.at.eq_3,@bG.at.eq_4,@VC.eq_1,@Act.put.eq_1,@Act.put.eq_2⟩
theorem Ca(c:p0:=by
 intro f d b e a;simp only[rX,reduceIte,Nat.reduceEqDiff,Nat.reduceMul] at d b a |-
 (try simp only[b] at a)
 go_simp;exact a _ _ rF rfl):p0:=c
theorem Lu(a:p0:=by first|exact λ_ _ _ a _=>a|exact λ_ _ _ _ _=>trivial):p0:=a
theorem wZ(a:p0:=by first|exact λa=>absurd rfl a|exact λ_ a=>absurd J a|exact λ_ _ a=>absurd J a|exact λ_ _ _ _ _ _ a _=>a|exact λ_ _ _ _ _ a _=>a|exact λ_ _ _ _ _ _ _=>trivial):p0:=a
theorem Il(b:p0:=by
 and_intros;all_goals first
  |trivial
  |exact Lu
  |(intro _ _ _ b a
    simp only[bG.at] at b |-;(repeat(with_reducible first|refine Exists.elim b (λ_ b=> ?_)|refine And.elim (λ_ b=> ?_) b));repeat' first
     |with_reducible assumption
     |with_reducible apply Exists.intro
     |with_reducible refine And.intro ?_ ?_
     |exact Fr.hs a ‹_›
     |exact Sl.f ‹_› a
     |exact cC.f ‹_› a
     |exact eJ.fr ‹_› a
     |exact iM.fr ‹_› a
     |exact FG.fr ‹_› a
     |exact jm.fr ‹_› a
     |exact SB.fr ‹_› a
     |exact WV.fr ‹_› a
     |exact WN.fr ‹_› a
     |exact qx.fr NC.aJ ‹_› a
     |exact Bv.fr NC.aJ ‹_› a
     |exact qx.fr np.aJ ‹_› a
     |exact Bv.fr np.aJ ‹_› a
     |exact Fr.owns a ‹_› (λ_ _ c=>c)
     |exact RT.fr ‹_› a
     |exact Fu.fr ‹_› a)):p0:=b
theorem stM(b:p0:=by
 intro c a;simp only[rB] at a;first|subst a|(rcases a with rfl|rfl|rfl)|(rcases a with rfl|rfl)
 all_goals(and_intros<;>first|trivial|exact wZ)):p0:=b
theorem rhS{d q:Prop}(i:q)(h:q->d:=by
 intro e g c a f b;simp only[rX,reduceIte,Nat.reduceEqDiff,Nat.reduceMul,HS] at c a b |-
 (try revert a)
 revert b;revert f;revert c;revert g;exact e):d:=h i
theorem IG{d q:Prop}(i:q)(h:q->d:=by
 intro e g c a f b;simp only[rX,reduceIte,Nat.reduceEqDiff,Nat.reduceMul] at c a b |-
 (try simp only[a] at b |-)
 (try clear a)
 revert b;revert f;revert c;revert g;exact e):d:=h i
theorem VN{h q:Prop}(g:Nat)(n:q)(m:∀c,c=g->q->h:=by
 intro c d i l f a k b;have e:=a c (by subst d;decide);subst d;simp only[rX,reduceIte,Nat.reduceEqDiff,Nat.reduceMul] at f e a b |-
 (try simp only[a] at b |-)
 (try clear a)
 revert e;revert b;revert k;revert f;revert l;exact i):h:=m g rfl n
theorem re1{f q:Prop}(e:Nat)(l:q)(i:∀b,b=e->q->f:=by
 intro b a g h k d;have c:=d b (by subst a;decide) (by subst a;decide);subst a;simp only[rX,reduceIte,Nat.reduceEqDiff,Nat.reduceMul] at c;clear d;simp only[Act.put,rC];revert c;revert k;revert h;exact g):f:=i e rfl l
theorem rb2{m q:Prop}(k l:Nat)(s:q)(r:∀c,c=k->∀d,d=l->q->m:=by
 intro c e d f n p i a o b;have g:=a c (by subst e;decide);have h:=a d (by subst f;decide);subst e;subst f;simp only[rX,reduceIte,Nat.reduceEqDiff,Nat.reduceMul] at i g h a b |-
 (try simp only[a] at b |-)
 (try clear a)
 revert h;revert g;revert b;revert o;revert i;revert p;exact n):m:=r k rfl l rfl s
theorem rc2{m q:Prop}(k l:Nat)(s:q)(r:∀b,b=k->∀c,c=l->q->m:=by
 intro b d c e n p i a o h;have f:=a b (by subst d;decide);have g:=a c (by subst e;decide);subst d;subst e;simp only[rX,reduceIte,Nat.reduceEqDiff,Nat.reduceMul] at i f g a h |-;revert g;revert f;revert h;revert o;revert a;revert i;revert p;exact n):m:=r k rfl l rfl s
theorem re2{k q:Prop}(h i:Nat)(p:q)(n:∀d,d=h->∀e,e=i->q->k:=by
 intro d a e b l m o c;have f:=c d (by subst a;decide) (by subst a;decide);have g:=c e (by subst b;decide) (by subst b;decide);subst a;subst b;simp only[rX,reduceIte,Nat.reduceEqDiff,Nat.reduceMul] at f g;clear c;simp only[Act.put,rC];revert g;revert f;revert o;revert m;exact l):k:=n h rfl i rfl p
theorem rb3{p q:Prop}(m n o:Nat)(v:q)(u:∀c,c=m->∀d,d=n->∀e,e=o->q->p:=by
 intro c f d g e ec r t l a s b;have h:=a c (by subst f;decide);have i:=a d (by subst g;decide);have k:=a e (by subst ec;decide);subst f;subst g;subst ec;simp only[rX,reduceIte,Nat.reduceEqDiff,Nat.reduceMul] at l h i k a b |-
 (try simp only[a] at b |-)
 (try clear a)
 revert k;revert i;revert h;revert b;revert s;revert l;revert t;exact r):p:=u m rfl n rfl o rfl v
theorem re3{n q:Prop}(k l m:Nat)(t:q)(r:∀d,d=k->∀e,e=l->∀f,f=m->q->n:=by
 intro d b e c f ec o p s a;have g:=a d (by subst b;decide) (by subst b;decide);have h:=a e (by subst c;decide) (by subst c;decide);have i:=a f (by subst ec;decide) (by subst ec;decide);subst b;subst c;subst ec;simp only[rX,reduceIte,Nat.reduceEqDiff,Nat.reduceMul] at g h i;clear a;simp only[Act.put,rC];revert i;revert h;revert g;revert s;revert p;exact o):n:=r k rfl l rfl m rfl t
theorem aar(a:E->ζ):∃s0 s1 s2 s3 s4 s5 s6 s7 s8 s9,a 0=s0/\a 1=s1/\a 2=s2/\a 3=s3/\a 4=s4/\a 5=s5/\a 6=s6/\a 7=s7/\a 8=s8/\a 9=s9:=⟨_,_,_,_,_,_,_,_,_,_,Y,Y,Y,Y,Y,Y,Y,Y,Y,Y⟩
theorem acm(a:E->ζ):∃s0 s1 s2 s3 s4 s5 s6 s7 s8 s9 s10,a 0=s0/\a 1=s1/\a 2=s2/\a 3=s3/\a 4=s4/\a 5=s5/\a 6=s6/\a 7=s7/\a 8=s8/\a 9=s9/\a 10=s10:=⟨_,_,_,_,_,_,_,_,_,_,_,Y,Y,Y,Y,Y,Y,Y,Y,Y,Y,Y⟩
theorem adt(a:E->ζ):∃s0 s1 s2 s3 s4 s5 s6 s7 s8 s9 s10 s11 s12 s13,a 0=s0/\a 1=s1/\a 2=s2/\a 3=s3/\a 4=s4/\a 5=s5/\a 6=s6/\a 7=s7/\a 8=s8/\a 9=s9/\a 10=s10/\a 11=s11/\a 12=s12/\a 13=s13:=⟨_,_,_,_,_,_,_,_,_,_,_,_,_,_,Y,Y,Y,Y,Y,Y,Y,Y,Y,Y,Y,Y,Y,Y⟩
theorem adN(a:E->ζ):∃s0 s1 s2 s3 s4 s5 s6 s7 s8 s9 s10 s11 s12 s13 s14 s15 s16 s17 s18,a 0=s0/\a 1=s1/\a 2=s2/\a 3=s3/\a 4=s4/\a 5=s5/\a 6=s6/\a 7=s7/\a 8=s8/\a 9=s9/\a 10=s10/\a 11=s11/\a 12=s12/\a 13=s13/\a 14=s14/\a 15=s15/\a 16=s16/\a 17=s17/\a 18=s18:=⟨_,_,_,_,_,_,_,_,_,_,_,_,_,_,_,_,_,_,_,Y,Y,Y,Y,Y,Y,Y,Y,Y,Y,Y,Y,Y,Y,Y,Y,Y,Y,Y⟩
theorem iM.mt{a:Rl}(c:iM m a W x)(b:Mt q t W V)(d:(336:TypeId)≠t):iM m a V x:=by
 obtain⟨f,rfl,e⟩:=c;exact⟨f,Y,b.sl jR d id e⟩
theorem Yo(a:Hs):iz a<=64:=by
 unfold iz;split
 .rename_i b;have:=bK b;omega
 omega
def jo(a:Hs):Rl:=qA (mO a (Vm a)) (mO a (Pn a))
theorem Bf{c:θ ζ}(f:c.size=2)(d e:ζ):(c.setIfInBounds 0 d).setIfInBounds 1 e=#[d,e]:=by
 obtain⟨c⟩:=c
 match c,f with
 |[a,b],_=>rfl
theorem wP(b:Hs)(A:ζ)(c:ε)(h:eJ c A b):aQ 265 #[A] c λd e=>∃a,d=.returned a/\iM (iz b) (jo b) e a/\Fr j c e:=by
 have C:=h;obtain⟨f,rfl,U⟩:=h
 delta aQ;go_in
 go_wp2_with fail;refine cT (λh a=> ?_);obtain⟨q,g⟩:=M c.heap.size;rw[<-g];generalize i:q+1=e;have l:=lq a;have A:aY h q #[f] 54:=by rw[a];exact aC (bM g) _
 have D:aY h e #[aI,aV] 355:=by rw[a];exact bM sO
 have m:=(C.fr l);have c:c.heap.size<=e:=O;have K:(prog.info? 355).map (·.size)=S 2:=kR;have n:h.cell? (H q 0)=S f:=(aj A 0);clear a g i;refine iR [] [9] (Mt h.heap.size 355) [[],[0],[],[2],[0,1,2,3],[0,1,2,3,4],[0,1,2,3,4,5],[0,1,2,3,4,5],[],[0,1,2,3,4,5,6,8],[0,1,2,3,4,5,7]] [.w1 0 (λc _=>c=.agg #[f]),.w1 1 (λc a=>iM (iz b) (mO b (Vm b)) a c),.w1 2 (λc _=>c=.agg #[f]),.w1 3 (λc a=>iM (iz b) (mO b (Pn b)) a c),.w1 4 (λc a=>∃g,c=.tuple #[g,aI]/\iM (iz b) (jo b) a g),.w1 5 (λc a=>∃g,c=.tuple #[g,aI]/\iM (iz b) (jo b) a g),.w1 6 (λc a=>iM (iz b) (jo b) a c),.w1 7 (λc _=>c=aI),.w1 8 (λc a=>∃g i,c=aP g 0/\h.heap.size<=g/\aY a g i 355/\i.size=2),.w2 8 6 (λA c a=>∃g h i,A=aP g 0/\c=.agg #[h,i]/\aY a g #[h,i] 355),.w1 10 (λc _=>c=aI)] [[0],[1],[2],[3],[4],[5],[6],[7],[8],[8,6],[10]] kR kR kR kR Y (λ_ _ _ _ d c=>⟨d.symm.trans c.1,c.2⟩) (λ_ _ c=>Mt.Rf c) (λ_ _ _ c g=>c.trans g) ?hstab ?hstabM ?walk
 case hstab=>exact Il
 case hstabM=>
  intro c g;simp only[rB] at g;subst g;refine⟨?_,?_,?_,?_,?_,?_,?_,?_,?_,?_,?_,trivial⟩<;>first|exact wZ|(intro _ _ _ k i h c g;simp only[bG.at] at c |-;exact c.mt g J)|(intro _ _ _ k h g c i;simp only[bG.at] at c |-;obtain⟨c,g,h⟩:=c;exact⟨c,g,h.mt i J⟩)|(intro _ _ _ i h g c p;simp only[bG.at] at c |-;obtain⟨c,g,h,i,k,o⟩:=c;obtain⟨g,k,p⟩:=p.kind c g k;exact⟨c,g,h,i,k,by rw[p];exact o⟩)
 case walk=>
  intro c;obtain⟨s0,s1,s2,s3,s4,s5,s6,s7,s8,s9,s10,HS⟩:=acm c;refine⟨?_,?_,?_,?_,?_,?_,?_,?_,?_,?_,?_,?_⟩
  ·
   intro a g i h c;simp only[rY,ξ,HS] at c |-;have g:a.cell? (H q 0)=S f:=g.back.aF n id;go_simp;exact c _ _ rF Y
  ·
   intro a k c h i;have g:=c 0 J;simp only[rA,bG.at,HS] at g;simp only[rY,ξ,HS] at i |-;subst g;go_simp;go_at_call 304;refine(abE b _ a (m.fr (k.back))).mono ?_;rintro d c ⟨g,rfl,p,o⟩;exact i _ _ o p
  ·
   intro a g i h c;simp only[rY,ξ,HS] at c |-;have f:a.cell? (H q 0)=S f:=g.back.aF n id;go_simp;exact c _ _ rF Y
  ·
   intro a k c f i;have g:=c 2 J;simp only[rA,bG.at,HS] at g;simp only[rY,ξ,HS] at i |-;subst g;go_simp;go_at_call 305;refine(aaF b _ a (m.fr (k.back))).mono ?_;rintro d c ⟨f,rfl,p,o⟩;exact i _ _ o p
  ·
   intro a h c f p;have g:=c 0 J;have i:=c 1 J;have k:=c 2 J;have o:=c 3 J;simp only[rA,bG.at,HS] at g i k o;simp only[rY,ξ,HS] at p |-;subst g k;go_simp;go_at_call 303;refine(xI (iz b) _ _ (Yo b) a _ _ i o).mono ?_;rintro d c ⟨f,rfl,s,r⟩;exact p _ _ r ⟨_,Y,s⟩
  ·
   intro a h c f o;have g:=c 0 J;have f:=c 1 J;have i:=c 2 J;have h:=c 3 J;have k:=c 4 J;simp only[rA,bG.at,HS] at g f i h k;simp only[rY,ξ,HS] at o |-;subst g i;go_simp;exact o _ _ rF k
  ·
   intro a h c f o;have g:=c 0 J;have f:=c 1 J;have i:=c 2 J;have h:=c 3 J;have m:=c 4 J;have k:=c 5 J;simp only[rA,bG.at,HS] at g f i h m k;simp only[rY,ξ,HS] at o |-;subst g i;obtain⟨r,rfl,p⟩:=k;go_simp;exact o _ _ rF p
  ·
   intro a h c f o;have g:=c 0 J;have f:=c 1 J;have i:=c 2 J;have h:=c 3 J;have m:=c 4 J;have k:=c 5 J;simp only[rA,bG.at,HS] at g f i h m k;simp only[rY,ξ,HS] at o |-;subst g i;obtain⟨p,rfl,r⟩:=k;go_simp;exact o _ _ rF Y
  ·
   intro a g h f c;simp only[rY,ξ,HS] at c |-;go_simp;exact c _ _ cZ ⟨_,_,Y,g.fr.size,bM Y,Y⟩
  ·
   intro a h c f u;have p:=c 0 J;have f:=c 1 J;have r:=c 2 J;have h:=c 3 J;have m:=c 4 J;have n:=c 5 J;have s:=c 6 J;have t:=c 8 J;simp only[rA,bG.at,HS] at p f r h m n s t;simp only[rY,ξ,HS] at u |-;subst p r;obtain⟨k,o,rfl,y,g,v⟩:=t;obtain⟨G,rfl,z⟩:=s;obtain⟨w,B,F,x,rfl,-,-,-⟩:=z;have c:a.cell? (H k 0)=o[0]? :=aj g 0;have f:a.cell? (H k 1)=o[1]? :=aj g 1;have h:=aG g;rw[ju O] at c f;go_simp;have i:=aD (aD g 0 (I (iz b:T))) 1 (.slice w (bF (iz b) (jo b)).length x);rw[(Bf v _ _)] at i;exact u undef _ (Mt.abN g y (by rw[v];rfl) i ((rF.aK 0 _).aK 1 _)) ⟨_,_,_,Y,Y,i⟩
  ·
   intro a h c f o;have g:=c 0 J;have f:=c 1 J;have i:=c 2 J;have h:=c 3 J;have m:=c 4 J;have n:=c 5 J;have k:=c 7 J;simp only[rA,bG.at,HS] at g f i h m n k;simp only[rY,ξ,HS] at o |-;subst g i k;go_simp;exact o _ _ rF Y
  intro a w c;have p:=c 0 J J;have f:=c 1 J J;have s:=c 2 J J;have h:=c 3 J J;have m:=c 4 J J;have n:=c 5 J J;have t:=c 6 J J;have u:=c 7 J J;have A:=c 8 J J;have v:=c 9 J J;have r:=c 10 J J;simp only[rA,bG.at,HS] at p f s h m n t u A v r;simp only[Act.put,rC,HS];subst p s u r;obtain⟨Q,V,X,rfl,rfl,x⟩:=v;obtain⟨c,o,z⟩:=t;simp only[ku,kI,iY,gT] at o;obtain⟨rfl,rfl⟩:=o;have B:=(l.step w.back);have k:=(w.back.hs D);have F:=z;obtain⟨g,R,W,i,rfl,-,-,-⟩:=z;have c:=bx x;have c:=dh x;obtain⟨c,f,h⟩:=oK k;go_wp2;have c:((a.setCell (H e 0) (I (iz b:T))).setCell (H e 1) (.slice g (bF (iz b) (jo b)).length i)).heap[e]? =S (.cells #[I (iz b:T),.slice g (bF (iz b) (jo b)).length i] 355 (0,0)):=by
   have:=aD (aD k 0 (I (iz b:T))) 1 (.slice g (bF (iz b) (jo b)).length i);simpa using this
  have y:bT e a ((a.setCell (H e 0) (I (iz b:T))).setCell (H e 1) (.slice g (bF (iz b) (jo b)).length i)):=(rF.aK 0 _).aK 1 _;refine aO (gp Y _ _ e 355 _ (0,0) _ Y c underlying355 Y (by rw[K];rfl)) Y ⟨_,Y,⟨_,Y,F.aJ jR y (λb a a P d=> ?_)⟩,B.keep y (λc d=>by omega)⟩;have G:b=336:=a.resolve_right id;subst G;exact P.ne ⟨_,_,d▸k⟩ J Y
theorem Tb{P:Program}{b:Code}(c:∀a,a=W->Code.rounds P b Q m a1 a):Code.rounds P b Q m a1 W:=c W Y
theorem vZ(a:E)(c d:Rl)(a8:a<=64)(h:ε)(R:ζ)(o:E)(y:iM a c h R)(a6:GB a d h o):aQ 264 #[R,.slice (S (H o 0)) 1 1] h λb o=>∃C,b=.returned C/\iM a (qA c d) o C/\Fr j h o:=by
 have V:=y;obtain⟨r,rfl,i⟩:=y;obtain⟨b8,b9,p,c1,rfl,-,-,-⟩:=i;obtain⟨o,W,P⟩:=a6;have a0:=P;obtain⟨b4,b5,b7,b6,rfl,-,-,-⟩:=P;have a7:(prog.info? 355).map (·.size)=S 2:=kR
 delta aQ;go_in
 go_wp2_with fail;refine cT (λP o=> ?_);obtain⟨q,y⟩:=M h.heap.size;rw[<-y];generalize R:q+1=e;have m:=lq o;have u:=uV o y;have a1:aY P e #[aI,aV] 355:=(by rw[o];exact bM sO);have X:h.heap.size<=q/\h.heap.size<=e/\q≠e:=O;have h:=(m.hs W);have F:=λp=>bx (aC u.1 p);have G:=λp=>dh (aC u.1 p);have p:=bx h;have P:=dh h;clear o y R;refine eE 2 ?_;rw[bN];go_wp2_with fail;refine aZ.nm (λo h=> ?_);have s:=cY h;clear h F G p P;refine sg (xI a c d a8 o _ _ (V.fr (m.step s)) ⟨_,Y,(a0.f (m.step s))⟩) ?_;rintro b b2 ⟨C,rfl,Q,K⟩;have a3:=Q;obtain⟨c3,rfl,a9⟩:=Q;obtain⟨f,c0,c2,g,rfl,-,-,-⟩:=a9;have t:=(s.step K);have l:=(t.hs u.1);have b3:=λB=>aG l B;have a4:=bx l;have a5:=dh l;clear K;go_wp2;refine Tb (λk A=> ?_);have n:bT q b2 k:=by rw[A];exact(rF.aK 0 _).aK 1 _
 have D:aY k q #[I a,.slice f (bF a (qA c d)).length g] 355:=(by
  have:=aD (aD l 0 (I a)) 1 (.slice f (bF a (qA c d)).length g);rw[A];simpa using this)
 have v:=(n.aB (t.hs a1) (λb=>X.2.2 b.symm));have a2:iM a (qA c d) k (.agg #[I a,.slice f (bF a (qA c d)).length g]):=(by
  obtain⟨r,b,i⟩:=a3;refine⟨r,b,i.aJ jR n (λb1 b0 z x b=> ?_)⟩;have w:=z.resolve_right id;subst w;exact x.ne ⟨_,_,b▸l⟩ J Y)
 have U:=((m.step t).keep n (λB b=>by omega));have F:=bx D;have G:=dh D;obtain⟨h,l,m⟩:=oK v;clear A n b3 a4 a5;rw[bN];go_wp2;have h:((k.setCell (H e 0) (I a)).setCell (H e 1) (.slice f (bF a (qA c d)).length g)).heap[e]? =S (.cells #[I a,.slice f (bF a (qA c d)).length g] 355 (0,0)):=by
  have:=aD (aD v 0 (I a)) 1 (.slice f (bF a (qA c d)).length g);simpa using this
 have i:bT e k ((k.setCell (H e 0) (I a)).setCell (H e 1) (.slice f (bF a (qA c d)).length g)):=(rF.aK 0 _).aK 1 _;refine aO (gp Y _ _ e 355 _ (0,0) _ Y h underlying355 Y (by rw[a7];rfl)) Y ⟨_,Y,?_,U.keep i (λB b=>by omega)⟩;obtain⟨r,b,a⟩:=a2;refine⟨r,b,a.aJ jR i (λb1 b0 z x b=> ?_)⟩;have w:=z.resolve_right id;subst w;exact x.ne ⟨_,_,b▸v⟩ J Y
def jZ(e:E)(c:Rl)(d:E)(a:E×L E)(b:E):E×L E:=
 if a.2.getD b 0=0 then(a.1|||row e (eA c) b,a.2.set b d) else a
def ji(e:E)(b:Rl)(d c:E)(a:L E):E×L E:=(cJ c).foldl (jZ e b d) (0,a)
def Vz(b:E)(a:Rl):E->E->E->L E->L E
 |0,_,_,d=>d
 |k+1,m,front,d=>if front=0 then d else Vz b a k (m+1) (ji b a m front d).1 (ji b a m front d).2
def yZ:L E:=L.replicate 64 0
def vW(b:E)(a:Rl)(c:E):L E:=Vz b a 70 1 (row b (eA a) c) yZ
def oE(c:E)(b:Rl)(a:L E):E->L E->L E
 |0,out=>out
 |k+1,out=>oE c b a k (match (cJ (row c b (out.getLastD 0))).find? (λb=>a.getD b 0==k+1) with|some a=>out++[a]|none=>out)
def Iv(b:E)(a:Rl):E->E->L E
 |0,_=>[]
 |k+1,v=>if(vW b a v).getD v 0=0 then Iv b a k (v+1) else oE b a (vW b a v) ((vW b a v).getD v 0-1) [v]
def dF(a:E)(b:Rl):L E:=Iv a b a 0
def nz(a:L E):E:=(a.filter (λa=>a==0)).length
theorem Uw:∀(b:L E)(c d:E),0<d->c<b.length->b.getD c 0=0->nz (b.set c d)+1=nz b
 |[],c,b,hm,hx,h=>by simp at hx
 |a::c,0,b,hm,hx,h=>by
  simp[L.getD] at h;subst h;have:¬b=0:=by omega
  simp[nz,this]
 |a::c,e+1,d,hm,hx,h=>by
  have b:=Uw c e d hm (by simpa using hx) (by simpa[L.getD] using h);unfold nz at b |-;simp only[sM,qg];split
  .simp only[bW];omega
  exact b
theorem oU{c:L E}{b e a:E}(f:b<c.length):(c.set b e).getD a 0=if a=b then e else c.getD a 0:=by
 by_cases d:a=b
 .subst d;simp[L.getD,f]
 rw[aR d];simp only[L.getD];rw[lQ (λa=>d a.symm)]
structure FI(n:E)(f:Rl)(v m front:E)(d:L E):Prop where
 len:d.length=64
 fr:front<2 ^ n
 pos:0<m
 path:∀x,x<64->d.getD x 0≠0->Tc (Eg n f) x v
 adO:∀x,front.testBit x=γ->Tc (Eg n f) x v
 Ew:∀x,Eg n f x v->d.getD x 0≠0\/front.testBit x=γ
 Ra:∀x z,x<64->d.getD x 0≠0->Eg n f z x->d.getD z 0≠0\/front.testBit z=γ
 le:∀x,d.getD x 0<m
theorem EJ{a b:E}(e:b<2 ^ a){c:E}(d:c∈cJ b):c<a:=Iz e (jy.1 d).2
structure FM(n:E)(f:Rl)(v m front:E)(l:L E)(s:E×L E):Prop where
 len:s.2.length=64
 nx:s.1<2 ^ n
 path:∀x,x<64->s.2.getD x 0≠0->Tc (Eg n f) x v
 ZQ:∀x,s.1.testBit x=γ->Tc (Eg n f) x v
 Ew:∀x,Eg n f x v->s.2.getD x 0≠0\/s.1.testBit x=γ\/x∈l
 Ra:∀x z,x<64->s.2.getD x 0≠0->Eg n f z x->s.2.getD z 0≠0\/s.1.testBit z=γ\/z∈l
 le:∀x,s.2.getD x 0<m+1
theorem FM.step{h:E}{l:Rl}{r m t:E}{f:E}{v:L E}{p:E×L E}(y:h<=64)(x:0<m)(d:FM h l r m t (f::v) p)(w:f<h)(u:Tc (Eg h l) f r):FM h l r m t v (jZ h l m p f):=by
 have k:f<p.2.length:=by rw[d.len];omega
 unfold jZ;split
 .rename_i o
  refine⟨by simp[d.len],?_,λc b g=> ?_,λc b=> ?_,λc b=> ?_,λc n b g i=> ?_,λc=> ?_⟩
  .exact pD d.nx (lJ _ _)
  .rw[oU k] at g
   by_cases e:c=f
   .subst e;exact u
   rw[aR e] at g;exact d.path c b g
  .rw[lR,eN] at b
   rcases b with b|b
   .exact d.ZQ c b
   rw[row,bR] at b;simp only[bA,cS,eA] at b;exact(Tc.one ⟨b.1,w,b.2⟩).trans u
  .rw[oU k]
   by_cases e:c=f
   .subst e;left;rw[aS Y];omega
   rw[aR e,lR,eN];rcases d.Ew c b with a|a|a
   .exact .inl a
   .exact .inr (.inl (.inl a))
   rcases cK.1 a with a|a
   .exact(e a).elim
   exact .inr (.inr a)
  .rw[oU k]
   by_cases e:n=f
   .subst e;left;rw[aS Y];omega
   rw[aR e,lR,eN];by_cases s:c=f
   .subst s
    refine .inr (.inl (.inr ?_));rw[row,bR];simp[i.1,eA,i.2.2]
   simp only[oU k,aR s] at g;rcases d.Ra c n b g i with a|a|a
   .exact .inl a
   .exact .inr (.inl (.inl a))
   rcases cK.1 a with a|a
   .exact(e a).elim
   exact .inr (.inr a)
  rw[oU k];split
  .omega
  exact d.le c
 rename_i o;refine⟨d.len,d.nx,d.path,d.ZQ,λc b=> ?_,λc n b g i=> ?_,d.le⟩
 .rcases d.Ew c b with a|a|a
  .exact .inl a
  .exact .inr (.inl a)
  rcases cK.1 a with a|a
  .subst a;exact .inl o
  exact .inr (.inr a)
 rcases d.Ra c n b g i with a|a|a
 .exact .inl a
 .exact .inr (.inl a)
 rcases cK.1 a with a|a
 .subst a;exact .inl o
 exact .inr (.inr a)
theorem FM.all{a:E}{b:Rl}{e c f:E}(h:a<=64)(g:0<c):∀(d:L E)(i:E×L E),FM a b e c f d i->(∀k∈d,k<a/\Tc (Eg a b) k e)->FM a b e c f [] (d.foldl (jZ a b c) i)
 |[],b,a,_=>a
 |b::d,e,c,a=>FM.all h g d _ (c.step h g (a b (by simp)).1 (a b (by simp)).2) (λc b=>a c (by simp[b]))
theorem FI.PH{c:E}{e:Rl}{g f b:E}{d:L E}(a:c<=64)(a:FI c e g f b d):FM c e g f b (cJ b) (0,d):=by
 have b:∀d,b.testBit d=γ->d∈cJ b:=λd b=>jy.2 ⟨by have:=Iz a.fr b;omega,b⟩;exact⟨a.len,oa c,a.path,by simp,λc d=>(a.Ew c d).imp id (λd=>.inr (b c d)),λg c f d e=>(a.Ra g c f d e).imp id (λd=>.inr (b c d)),λb=>by have:=a.le b;simp only;omega⟩
theorem FI.round{b:E}{c:Rl}{i f d:E}{g:L E}(h:b<=64)(e:FI b c i f d g):FI b c i (f+1) (ji b c f d g).1 (ji b c f d g).2:=by
 have a:=FM.all h e.pos (cJ d) _ (e.PH h) (λc b=>⟨EJ e.fr b,e.adO c (jy.1 b).2⟩);exact⟨a.len,a.nx,by omega,a.path,a.ZQ,λc b=>(a.Ew c b).imp id (λb=>b.resolve_right (λk=>by cases k)),
  λe f d b c=>(a.Ra e f d b c).imp id (λb=>b.resolve_right (λk=>by cases k)),a.le⟩
theorem JD{n:E}{f:Rl}{a:E}(e:0<a):∀(c:L E)(b:E×L E),(∀d∈c,d<b.2.length)->nz (c.foldl (jZ n f a) b).2<=nz b.2/\(nz (c.foldl (jZ n f a) b).2=nz b.2->(c.foldl (jZ n f a) b)=b)
 |[],b,_=>⟨jY _,λ_=>Y⟩
 |c::l,b,d=>by
  have k:=d c (by simp);have h:=JD (n:=n) (f:=f) e l (jZ n f a b c) (λi g=>by
   unfold jZ;split
   .simpa using d i (by simp[g])
   exact d i (by simp[g]))
  rw[pQ];by_cases d:b.2.getD c 0=0
  .have e:nz (jZ n f a b c).2+1=nz b.2:=by
    unfold jZ;rw[aS d];exact Uw _ _ _ e k d
   exact⟨by omega,λe=>by omega⟩
  have a:jZ n f a b c=b:=by unfold jZ;rw[aR d]
  rw[a] at h |-;exact h
theorem QP{b:E}{c:Rl}{g e d:E}{a:L E}(f:b<=64)(f:FI b c g e d a):nz (ji b c e d a).2<nz a\/(ji b c e d a).1=0/\nz (ji b c e d a).2=nz a:=by
 obtain⟨g,h⟩:=JD (n:=b) (f:=c) f.pos (cJ d) (0,a) (λh g=>by have:=EJ f.fr g;have:=f.len;simp only;omega);rcases dP (nz (ji b c e d a).2) (nz a) with f|f
 .exact .inl f
 right;have a:nz ((cJ d).foldl (jZ b c e) (0,a)).2=nz a:=E.le_antisymm g f;have b:=h a;exact⟨by unfold ji;rw[b],a⟩
def Az(b:E)(a:L E):E:=nz a+(if b=0 then 0 else 1)
theorem Kt{c:E}{d:Rl}{h e a:E}{b:L E}(i:c<=64)(g:FI c d h e a b)(h:a≠0):Az (ji c d e a b).1 (ji c d e a b).2<Az a b:=by
 unfold Az;rw[aR h];rcases QP i g with f|⟨f,a⟩
 .split<;>omega
 rw[aS f];omega
theorem Ky{g:E}{i:Rl}{l:E}(k:g<=64):∀(e a b:E)(d:L E),FI g i l a b d->Az b d<=e->∃f,FI g i l f 0 (Vz g i e a b d)/\f<=a+e
 |0,a,b,d,h,hk=>by
  have m:b=0:=by
   unfold Az at hk;by_cases c:b=0
   .exact c
   rw[aR c] at hk;omega
  subst m;exact⟨a,h,jY _⟩
 |e+1,a,b,d,h,hk=>by
  rw[Vz];split
  .rename_i c
   subst c;exact⟨a,h,by omega⟩
  rename_i c;obtain⟨f,n,o⟩:=Ky k e (a+1) _ _ (h.round k) (by have:=Kt k h c;omega);exact⟨f,n,by omega⟩
theorem Ct(e c b d a):Vz e c b d 0 a=a:=by cases b<;>simp[Vz]
theorem Im(b):yZ.getD b 0=0:=by
 simp only[yZ,L.getD];cases a:(L.replicate 64 0)[b]? with
 |none=>rfl
 |some b=>rw[L.getElem?_replicate] at a;split at a<;>simp_all
theorem FI.start{n:E}(b){a:E}(c:a<n):FI n b a 1 (row n (eA b) a) yZ:=by
 refine⟨by simp[yZ],lJ _ _,by omega,λb _ a=>(a (Im b)).elim,λa a=> ?_,λb a=>.inr ?_,λd e _ b=>(b (Im d)).elim,λb=>by rw[Im];omega⟩
 .rw[row,bR] at a
  simp only[bA,cS,eA] at a;exact .one ⟨a.1,c,a.2⟩
 rw[row,bR];simp[a.1,eA,a.2.2]
theorem yF(a b c):Az (row b (eA a) c) yZ<=65:=by
 have:nz yZ=64:=by decide
 unfold Az;rw[this];split<;>omega
theorem vI{a:E}(b){v:E}(d:a<=64)(e:v<a):∃c,FI a b v c 0 (vW a b v)/\c<=71:=Ky d 70 1 _ _ (FI.start b e) (by have:=yF b a v;omega)
theorem La{a:E}{c:Rl}{b:E}(f:a<=64)(h:b<a){d:E}(l:d<a):(vW a c b).getD d 0≠0↔Tc (Eg a c) d b:=by
 obtain⟨f,e,_⟩:=vI c f h;refine⟨e.path d (by omega),λg=> ?_⟩;have k:∀f,Tc (Eg a c) d f->(f=b\/(f<a/\(vW a c b).getD f 0≠0))->(vW a c b).getD d 0≠0:=λa i=>by
  induction i with
  |one c=>
   rintro(rfl|⟨a,d⟩)
   .rcases e.Ew _ c with a|a
    .exact a
    simp at a
   rcases e.Ra _ _ (by omega) d c with a|a
   .exact a
   simp at a
  |more _ a d=>
   rintro(rfl|⟨c,f⟩)
   .rcases e.Ew _ a with c|c
    .exact d (.inr ⟨a.1,c⟩)
    simp at c
   rcases e.Ra _ _ (by omega) f a with c|c
   .exact d (.inr ⟨a.1,c⟩)
   simp at c
 exact k b g (.inl Y)
theorem pN{n:E}{f:Rl}{d:L E}:∀(b:E)(a:L E),0<a.length->a.length<=(oE n f d b a).length/\(oE n f d b a).length<=a.length+b
 |0,a,h=>⟨jY _,jY _⟩
 |b+1,a,h=>by
  rw[oE];split
  .rename_i c _
   have:=pN (n:=n) (f:=f) (d:=d) b (a++[c]) (by simp);simp at this;omega
  have:=pN (n:=n) (f:=f) (d:=d) b a h;omega
theorem KB{c:E}{e:Rl}(l:c<=64):∀(i a:E),a+i=c->(Iv c e i a=[]↔∀b,a<=b->b<c->¬Tc (Eg c e) b b)
 |0,a,h=>by simp[Iv];intro b m g;omega
 |i+1,a,h=>by
  rw[Iv];have f:a<c:=by omega
  split
  .rename_i k
   rw[KB l i (a+1) (by omega)];constructor
   .intro d b m g n
    by_cases o:b=a
    .subst o
     exact(La l f f).2 n k
    exact d b (by omega) g n
   intro d b m g;exact d b (by omega) g
  rename_i k;constructor
  .intro d
   have:=(pN (n:=c) (f:=e) (d:=vW c e a) ((vW c e a).getD a 0-1) [a] (by simp)).1;rw[d] at this;simp at this
  intro d;exact(d a (jY _) f ((La l f f).1 k)).elim
theorem abV{a:E}{c:Rl}:tE (Eg a c)↔∀b,b<a->¬Tc (Eg a c) b b:=by
 constructor
 .exact λa b _=>a b
 intro a c b;refine a c ?_ b;cases b with
 |one a=>exact a.1
 |more _ a=>exact a.2.1
theorem kL{a:E}{b:Rl}(c:a<=64):dF a b=[]↔tE (Eg a b):=by
 rw[dF,KB c a 0 (by omega),abV];exact⟨λa c b=>a c (by omega) b,λa c _ b=>a c b⟩
theorem Kc{b:E}{c:Rl}(d:b<=64):∀(a e:E),e+a=b->(Iv b c a e).length<=71
 |0,a,h=>by simp[Iv]
 |e+1,a,h=>by
  rw[Iv];split
  .exact Kc d e (a+1) (by omega)
  obtain⟨f,d,e⟩:=vI c d (v:=a) (by omega)
  have:=(pN (n:=b) (f:=c) (d:=vW b c a) ((vW b c a).getD a 0-1) [a] (by simp)).2
  have:=d.le a;simp at this;simp at*;omega
theorem jv{a:E}{f:Rl}(b:a<=64):(dF a f).length<=71:=Kc b a 0 (by omega)
def JL(a:μ):κ:=decide (48<=a.toNat/\a.toNat<=57)
def dp(a:L μ):L μ:=a.takeWhile JL
def val(a:L μ):E:=a.foldl (λb a=>10*b+(a.toNat-48)) 0
def aan(a:L μ):κ:=a.length==0||(decide (1<a.length)&&a.head? ==S 48)
def rO(a:L μ):T×T:=
 if aan (dp a)=γ then(0,2) else if 2147483647<val (dp a) then(0,3) else if(dp a).length<a.length then(0,2) else((val (dp a):E),0)
def nL(b:μ):L μ->L (L μ)
 |[]=>[[]]
 |a::c=>if a=b then[]::nL b c else match nL b c with
  |[]=>[[a]]
  |w::b=>(a::w)::b
def fu(a:L μ):L (L μ)×T:=
 if a=[] then([],0) else if a.getLast? ≠S 10 then([],2) else if 400<(nL 10 a).dropLast.length then([],4) else((nL 10 a).dropLast,0)
def IW(a:μ):κ:=decide (32<a.toNat)&&decide (a.toNat<=126)
def iI(a:L μ):L (L μ)×T:=
 if(decide ((nL 32 a).length<=8)&&(nL 32 a).all (λb=>decide (0<b.length)&&b.all IW))=γ then(nL 32 a,0) else([],2)
structure Ev where
 k:T
 s:T
 y:T
 v:T
deriving DecidableEq
def lm(a:T):κ:=a==1||a==2
def yX(a:Ev):κ:=(decide (0<=a.k)&&decide (a.k<5))&&(decide (0<=a.s)&&decide (a.s<8))&&
 (if lm a.k then(decide (0<=a.y)&&decide (a.y<16))&&(decide (0<=a.v)&&decide (a.v<2147483648)) else(a.y==0&&a.v==0))
def fO(a:L μ):T:=
 if a=[98,101,103,105,110] then 0 else if a=[114,101,97,100] then 1 else if a=[119,114,105,116,101] then 2
 else if a=[99,111,109,109,105,116] then 3 else if a=[97,98,111,114,116] then 4 else -1
def jn:L (L μ)->L T×T
 |[]=>([],0)
 |w::a=>if(rO w).2=0 then((rO w).1::(jn a).1,(jn a).2) else([],(rO w).2)
def pC(a:L μ):Ev×T:=
 if(iI a).2≠0 then(⟨0,0,0,0⟩,(iI a).2) else
 match (iI a).1 with
 |[]=>(⟨0,0,0,0⟩,2)
 |w::a=>
  if fO w<0\/a.length≠(if lm (fO w) then 3 else 1) then(⟨0,0,0,0⟩,2)
  else if(jn a).2≠0 then(⟨0,0,0,0⟩,(jn a).2)
  else if 8<=(jn a).1.getD 0 0\/16<=(jn a).1.getD 1 0 then(⟨0,0,0,0⟩,4)
  else(⟨fO w,(jn a).1.getD 0 0,(jn a).1.getD 1 0,(jn a).1.getD 2 0⟩,0)
def lu:E->L (L μ)->L Ev×T×T
 |_,[]=>([],0,0)
 |a,b::c=>if(pC b).2≠0 then([],(a:T)+1,(pC b).2) else
  if(lu (a+1) c).2.2≠0 then([],(lu (a+1) c).2) else((pC b).1::(lu (a+1) c).1,0,0)
def gI(a:L μ):L Ev×T×T:=if(fu a).2≠0 then([],0,(fu a).2) else lu 0 (fu a).1
structure Tx where
 s:T
 d:κ
 f:T
 o:L Ev
deriving DecidableEq
abbrev St:=L (Tx×κ)
def ii(b:T):St->E->ι (E×κ)
 |[],_=>η
 |x::c,a=>match ii b c (a+1) with
  |some c=>S c
  |none=>if x.1.s=b then S (a,x.2) else η
def lk(b:St)(a:T):ι E:=match ii a b 0 with|some (a,γ)=>S a|_=>η
def mh(b:St)(a:Ev):T:=
 if yX a=δ then 1 else if a.k=0 then(if(lk b a.s).isSome then 5 else if b.length=32 then 4 else 0) else if(lk b a.s).isSome then 0 else 6
def Je(a:St)(b:Ev)(c:E):St:=match a[c]? with
 |none=>a
 |some (d,_)=>if lm b.k then a.set c ({d with o:=d.o++[b]},γ) else a.set c ({d with d:=b.k==3},δ)
def lA(b:St)(a:Ev)(c:T):St:=
 if a.k=0 then b++[(⟨a.s,δ,c,[]⟩,γ)] else match lk b a.s with
 |none=>b
 |some c=>Je b a c
def iD:L Ev->E->St->St×T×T
 |[],_,a=>(a,0,0)
 |e::c,a,b=>if mh b e=0 then iD c (a+1) (lA b e a) else([],a,mh b e)
abbrev It:=T×T
def pc(a:T):L It->ι T
 |[]=>η
 |x::b=>if x.1=a then S x.2 else pc a b
def mj(a b:T):L It->L It
 |[]=>[(a,b)]
 |x::c=>if a<x.1 then(a,b)::x::c else if x.1=a then(a,b)::c else x::mj a b c
def wJ(a:Ev):κ:=yX a&&lm a.k
def tg(b c:L It)(a:Ev)(d:L Ev):T:=
 if wJ a=δ then 1 else if a.k=2 then 0 else
 match pc a.y c with
 |some own=>if own=a.v then 0 else 10
 |none=>match pc a.y b with
  |some b=>if b=a.v then 0 else 11
  |none=>if d.any (λb=>b.k==2&&b.y==a.y&&b.v==a.v) then 9 else 0
def oA(b c:L It)(a:Ev):L It×L It:=
 if a.k=2 then(b,mj a.y a.v c) else if(pc a.y c).isSome then(b,c) else if(pc a.y b).isSome then(b,c) else(mj a.y a.v b,c)
def look:L Ev->E->L It->L It->(L It×L It)×T×T
 |[],_,a,b=>((a,b),0,0)
 |e::c,d,a,b=>if tg a b e c=0 then look c (d+1) (oA a b e).1 (oA a b e).2 else(([],[]),d,tg a b e c)
def ru(a:Tx):(L It×L It)×T×T:=look a.o 0 [] []
def txB(a:Tx):κ:=a.o.all wJ&&(decide (0<=a.s)&&decide (a.s<8))
abbrev By:=L (It×(T×T))
def ml(a:It):By->ι (T×T)
 |[]=>η
 |y::b=>if y.1=a then S y.2 else ml a b
def jX(b:T×T):L Ev->By->By×T
 |[],a=>(a,0)
 |e::c,a=>if e.k≠2 then jX b c a else if e.v=0 then(a,7) else if(ml (e.y,e.v) a).isSome then(a,8) else jX b c (((e.y,e.v),b)::a)
def oO:E->L Tx->ι E
 |_,[]=>η
 |i,a::b=>if txB a then oO (i+1) b else S i
def jb:E->T->L Tx->By->By×T×T
 |_,_,[],a=>(a,0,0)
 |i,b,a::d,c=>if(jX (i,if a.d then b else -1) a.o c).2=0 then jb (i+1) (if a.d then b+1 else b) d (jX (i,if a.d then b else -1) a.o c).1
  else((jX (i,if a.d then b else -1) a.o c).1,i,(jX (i,if a.d then b else -1) a.o c).2)
def dH:E->L Tx->L (L It×L It)×T×T
 |_,[]=>([],0,0)
 |i,a::b=>if a.d=δ then(([],[])::(dH (i+1) b).1,(dH (i+1) b).2) else
  if(ru a).2.2≠0 then([],i,(ru a).2.2) else((ru a).1::(dH (i+1) b).1,(dH (i+1) b).2)
def ki(a:L (L It×L It)):L It:=a.flatMap (λa=>a.2)
def JY(b:By)(c:L It)(a:It):T:=
 if a.2=0 then 0 else match ml a b with
 |none=>12
 |some b=>if b.2<0 then 13 else if c.contains a then 0 else 14
def Qq(b:By)(a:It):T:=if a.2=0 then -1 else match ml a b with|none=>0|some a=>a.2
def vn(a:By)(b:L It):L It->L Tk×T
 |[]=>([],0)
 |r::c=>if JY a b r=0 then(⟨r.1,Qq a r⟩::(vn a b c).1,(vn a b c).2) else([],JY a b r)
def jP(b:By)(c:L It):E->L Tx->L (L It×L It)->Hs×T×T
 |_,[],_=>([],0,0)
 |i,e::d,a=>if e.d=δ then jP b c (i+1) d a.tail else
  if(vn b c (a.headD ([],[])).1).2≠0 then([],i,(vn b c (a.headD ([],[])).1).2)
  else(⟨e.s,((a.headD ([],[])).2).map (·.1),(vn b c (a.headD ([],[])).1).1⟩::(jP b c (i+1) d a.tail).1,(jP b c (i+1) d a.tail).2)
def gR(a:L Tx):Hs×T×T:=
 if 32<a.length then([],0,4) else match oO 0 a with
 |some b=>([],b,1)
 |none=>if(jb 0 0 a []).2.2≠0 then([],(jb 0 0 a []).2) else
  if(dH 0 a).2.2≠0 then([],(dH 0 a).2) else
  if(jP (jb 0 0 a []).1 (ki (dH 0 a).1) 0 a (dH 0 a).1).2.2≠0 then([],(jP (jb 0 0 a []).1 (ki (dH 0 a).1) 0 a (dH 0 a).1).2)
  else((jP (jb 0 0 a []).1 (ki (dH 0 a).1) 0 a (dH 0 a).1).1,0,0)
def kh(a:L μ):Hs×T×T:=
 if(gI a).2.2≠0 then([],(gI a).2) else
 if(iD (gI a).1 0 []).2.2≠0 then([],(iD (gI a).1 0 []).2.1+1,(iD (gI a).1 0 []).2.2) else
 if(gR ((iD (gI a).1 0 []).1.map Prod.fst)).2.2≠0 then([],((((iD (gI a).1 0 []).1.map Prod.fst).getD (gR ((iD (gI a).1 0 []).1.map Prod.fst)).2.1.toNat ⟨0,δ,0,[]⟩).f+1),(gR ((iD (gI a).1 0 []).1.map Prod.fst)).2.2)
 else((gR ((iD (gI a).1 0 []).1.map Prod.fst)).1,0,0)
def awL:L μ:=[98,101,103,105,110,32,48,10,98,101,103,105,110,32,49,10,114,101,97,100,32,48,32,50,32,48,10,114,101,97,100,32,49,32,50,32,48,10,
 119,114,105,116,101,32,48,32,50,32,55,10,119,114,105,116,101,32,49,32,50,32,56,10,99,111,109,109,105,116,32,48,10,99,111,109,109,105,116,32,49,10]
def IU:Hs:=[⟨0,[2],[⟨2, -1⟩]⟩,⟨1,[2],[⟨2, -1⟩]⟩]
theorem EB:kh awL=(IU,0,0):=by decide+kernel
theorem wR:oV IU []=S ⟨2,0,1⟩:=by decide+kernel
theorem Dy:dF 2 (cP IU 1 [])=[]:=by decide+kernel
theorem Us:dF 2 (cP IU 1 [⟨2,0,1⟩])=[0]:=by decide+kernel
theorem Ro:dF 2 (cP IU 1 [⟨2,1,0⟩])=[1]:=by decide+kernel
variable{R R1:List It}{e1:List Ev}
def fx(a:α->κ)(b:L α):T:=match b.findIdx? a with|some a=>(a:T)|none=> -1
theorem Vg{a:α->κ}(d:X[m]? =S x1)(f:a x1=γ)(e:∀(b:E)(c:α),b<m->X[b]? =S c->a c=δ):fx a X=(m:T):=by
 have a:X.findIdx? a=S m:=by
  rw[L.findIdx?_eq_some_iff_getElem];obtain⟨a,b⟩:=cj.1 d;refine⟨a,by rw[b];exact f,λa b=> ?_⟩
  have:=e a (X[a]'O) b (cF O);simp[this]
 unfold fx;rw[a]
theorem Kl{a:α->κ}(c:∀(d:E)(b:α),X[d]? =S b->a b=δ):fx a X= -1:=by
 have a:X.findIdx? a=η:=by
  rw[L.findIdx?_eq_none_iff];intro d a;obtain⟨b,a⟩:=kc a;exact c b d a
 unfold fx;rw[a]
theorem II(a:α->κ)(b:L α):decide (0<=fx a b)=b.any a:=by
 unfold fx;cases c:b.findIdx? a with
 |some d=>
  have:b.any a=γ:=by
   rw[eH];obtain⟨d,e,-⟩:=L.findIdx?_eq_some_iff_getElem.1 c;exact⟨_,L.getElem_mem d,e⟩
  rw[this];simp
 |none=>
  have:b.any a=δ:=by
   rw[L.any_eq_false];intro b a;simpa using (L.findIdx?_eq_none_iff.1 c) b a
  rw[this];rfl
def eM(a:Ch):L ζ:=[I a.k,I a.a,I a.b]
def CC:ε->L ζ->Ch->Prop:=Pl eM
instance:SC CC:=⟨λ_=>False,Pl.aJ _ _⟩
theorem fF.ch(a:fF t 3 CC W A m q K)(b:K[n1]? =S c3):
  W.cell? (H m (q+n1*3))=S (I c3.k)/\W.cell? (H m (q+n1*3+1))=S (I c3.a)/\W.cell? (H m (q+n1*3+2))=S (I c3.b):=by
 have:=Sl.pl a b;exact⟨this 0 _ Y,this 1 _ Y,this 2 _ Y⟩
def iP(a:Ch):ζ:=.agg #[I a.k,I a.a,I a.b]
def mC(a:Tk):ζ:=.agg #[I a.k,I a.f]
def Vt(n l:E)(i:ε->L ζ->α->Prop)(val:α->ζ)(m:E)(k:(α->κ)->L α->ε->Ending->ε->Prop):Prop:=
 ∀(a:E)(f:θ ζ)(h:ζ)(e:L α)(g:α->κ)(b:ε),(∀c d,(callFunc a c).run prog d=.ok (.enter a c) d)->Sl n l i b h e->
  (∀(i:E)(d:α)(c:ε),e[i]? =S d->Fr j b c->aQ a (#[val d]++f) c λl i=>l=.returned (.bool (g d))/\Fr j c i)->
  aQ m #[h,.func (.func a) #[] f] b (k g e b)
def fxo(c:α->κ)(e:L α)(d:ε)(b:Ending)(a:ε):Prop:=b=.returned (I (fx c e))/\Fr j d a
def ano(c:α->κ)(e:L α)(d:ε)(b:Ending)(a:ε):Prop:=b=.returned (.bool (e.any c))/\Fr j d a
theorem Jq{b:α->κ}(e:∀(a:E)(x1:α),a<m->X[a]? =S x1->b x1=δ)(f:X[m]? =S x1)(HQ:b x1=δ)(a)(c:α)(g:a<m+1)(d:X[a]? =S c):b c=δ:=by
 rcases dP a m with b|b
 .exact e a c b d
 obtain rfl:a=m:=O;obtain rfl:=cI (f.symm.trans d);exact HQ
theorem Sd{b:α->κ}(a:m=X.length)(d:∀(a:E)(c:α),a<m->X[a]? =S c->b c=δ):fx b X= -1:=
 Kl λb c a=>d b c (oB ((cj.1 a).1)) a
theorem ifS(m:p0:=by
 intro P a2 a4 p p0 B R m x;unfold fxo;obtain⟨F,G,a3,K,rfl,A,w,s⟩:=m;unfold maxLen at w;have HP:=Z x;clear x;obtain⟨c,n⟩:=M p.length;have a1:c<=9223372036854775807:=O;rw[<-n];have HN:=Z n;clear n A w;first|go_enter func249,ntmps249|go_enter func250,ntmps250|go_enter func335,ntmps335|go_enter func383,ntmps383|go_enter func341,ntmps341
 go_wp2;go_loopg [8] c (λgk e wr=>∃a:Nat,a+gk=c/\e=I a/\N (∀e b,e<a->p[e]? =some b->p0 b=false)/\Fr j B wr)
 .exact⟨0,du,rfl,Z λe b U=>by omega,rF⟩
 obtain⟨a,HK,rfl,h,f⟩:=hrel;have X:a<=c:=O;by_cases a0:a<c
 .obtain⟨b,d⟩:=gE p a fU
  obtain rfl:=s.addr d;have g:=Sl.pl (s.f f) d;have l:=g 0 _ rfl;try have u:=g 1 _ rfl
  try have z:=g 2 _ rfl
  try simp only[gA,fI] at l
  have i:=HP.1 a b wr d f;have t:=Z d;have⟨V,W⟩:=dy a c;clear d g;obtain⟨q,o⟩:=M (p0 b);rw[<-o] at i;have⟨HQ,y⟩:=bD o.symm i;clear o i;try(obtain⟨D,C,a6⟩:=b;simp only at l u z)
  try(obtain⟨D,C⟩:=b;simp only at l u)
  go_wp
  refine y.1.mono ?_;rintro Q a5 ⟨rfl,v⟩;have r:=f.step v;clear v;cases q with
  |true=>
   have k:=Z (Vg t.1 HQ.1 h.1);go_wp2;go_ret;exact⟨iB k.1.symm,r⟩
  |false=>
   go_wp2;go_roundg (gk-1)
   .exact⟨a+1,O,by go_num,Z (Jq h.1 t.1 HQ.1),r⟩
   have:=HK;omega
 have k:=Z (Sd HN.1 (by rw[show a=c by omega] at h;exact h.1));go_wp2;go_ret;exact⟨iB k.1.symm,f⟩):p0:=m
theorem cfS{a q:Prop}(p:q)(b:q->a:=by
 intro k l m n d a o f b h;have c:=Z (k l m n d a o f b h);unfold fxo at c;unfold ano;have e:=Z (II a d);obtain⟨s,g⟩:=M (fx a d);rw[<-g] at c e;clear g b h f;first|go_enter func202,ntmps202|go_enter func206,ntmps206|go_enter func322,ntmps322|go_enter func380,ntmps380|go_enter func338,ntmps338
 go_wp2_with ((first|go_at_call 249|go_at_call 250|go_at_call 335|go_at_call 383|go_at_call 341);refine stop ?_);refine aZ.go (c.1.mono ?_);rintro r t ⟨rfl,i⟩;go_wp2;go_ret;exact⟨dR e.1,i⟩):a:=b p
theorem RM:Vt 3 1 CI (.int .i64) 249 fxo:=ifS
theorem ux:Vt 3 1 CI (.int .i64) 202 ano:=cfS RM
theorem TI:Vt 144 3 CC iP 250 fxo:=ifS
theorem En:Vt 144 3 CC iP 206 ano:=cfS TI
theorem Vf:Vt 203 2 CK mC 335 fxo:=ifS
theorem lS:Vt 203 2 CK mC 322 ano:=cfS Vf
def CP(b:Hs)(a c:T):κ:=decide (0<=a)&&decide (a<(b.length:T))&&(tx b a).w.contains c
theorem IY(a g l c b d)(e:aY d g #[l] 54)(o:Sl 77 3 CT d l a):
  aQ 205 #[I c,I b,aP g 0] d λg f=>g=.returned (.bool (CP a c b))/\d=f:=by
 obtain⟨s,t,w,u,rfl,p,v,h⟩:=o;generalize f:a.length=r at p e;have HLN:=Z f;have g:=bx e;clear e f;by_cases i:0<=c
 .obtain⟨f,rfl⟩:∃e:E,c=(e:T):=⟨c.toNat,O⟩
  by_cases k:(f:T)<(r:T)
  .obtain⟨m,e⟩:=gE a f jE
   obtain rfl:=h.addr e;obtain⟨l,s,o,p,r,g,h⟩:=h.tn e;have n:N (CP a (f:T) b=m.w.contains b):=Z (by unfold CP;rw[zA e,HLN.1,cD i,cD k];simp);have d:=Z (dC l m.w b d g);clear e g h
   delta aQ;go_in
   go_wp2_with fail;refine aZ.go (d.1.mono ?_);rintro d e ⟨rfl,rfl⟩;go_wp2;go_ret;exact⟨dR (by rw[n.1];try simp),Y⟩
  have d:N (CP a (f:T) b=δ):=Z (by unfold CP;rw[HLN.1,bV k];simp)
  delta aQ;go_in
  go_wp2;go_ret;exact⟨dR (by rw[d.1]),Y⟩
 have a:N (CP a c b=δ):=Z (by unfold CP;rw[bV i];simp)
 delta aQ;go_in
 go_wp2;go_ret;exact⟨dR (by rw[a.1]),Y⟩
theorem Xm(a c b):CP a c b=fG a c b:=Y
theorem NK(b g l k i d)(h:aY d g #[k] 54)(n:aY d l #[.func (.func 205) #[] #[aP g 0]] 245)(o:Sl 77 3 CT d k b):
  dr 207 #[iP i,aP l 0] d (.bool (!dA b i)):=by
 obtain⟨c,a,e⟩:=i;have m:∀(i:T)(f:ε),Fr j d f->aQ 205 #[I i,I c,aP g 0] f λp l=>p=.returned (.bool (fG b i c))/\f=l:=(λl i f=>by rw[<-Xm];exact IY b g k l c i (f.hs h) (o.f f));have g:=λf=>bx (aC n f);have f:∀g,Fr j d (d.alloc g):=(λd=>rF.alloc d);unfold iP;simp only;clear h n o;by_cases h:a=e
 .subst h
  have d:dA b ⟨c,a,a⟩=δ:=(by unfold dA;simp);have g:(a==a)=γ:=sI
  delta dr aQ;go_in
  go_wp2;go_ret;exact⟨dR (by rw[d];rfl),f _⟩
 have d:(a==e)=δ:=sU h;have i:(a !=e)=γ:=(sU h);clear h;obtain⟨n,d⟩:=M (fG b a c);obtain⟨q,g⟩:=M (fG b e c);have h:dA b ⟨c,a,e⟩=(n&&q):=(by unfold dA;rw[i,d,g];simp);have HP:=(λb c=>d▸m a b c);have HQ:=(λa b=>g▸m e a b);clear d g
 delta dr aQ;go_in
 go_wp2_with fail;refine sg (HP _ (f _)) ?_;rintro a b ⟨rfl,rfl⟩;cases n
 .go_wp2
  go_ret;exact⟨dR (by rw[h];rfl),f _⟩
 go_wp2_with fail;refine sg (HQ _ (f _)) ?_;rintro a b ⟨rfl,rfl⟩;go_wp2;go_ret;exact⟨dR (by rw[h];simp),f _⟩
theorem jT(a b m n d)(h:eJ d m a)(l:Sl 144 3 CC d n b):dr 167 #[m,n] d (.bool (dw a b)):=by
 have r:=h;have HL:=l;obtain⟨v,rfl,HS⟩:=h;obtain⟨x,y,A,z,rfl,t,u,-⟩:=l;obtain⟨f,c⟩:=M b.length;rw[<-c] at HL t |-;have HN:=Z c;unfold maxLen at u;clear c
 delta dr aQ;go_in
 go_wp2_with fail;refine aZ.nm (λh e=> ?_);obtain⟨s,c⟩:=M d.heap.size;rw[<-c];have o:=dL e c;have g:=cY e;clear e c;refine sg (dV a _ h (r.fr g)) ?_;rintro d w ⟨rfl,c⟩;have e:=(g.step c);have p:=Z (c.hs o.1);clear c;cases c:bm a
 .have d:N (dw a b=δ):=Z (by unfold dw;rw[c];rfl)
  clear c;go_wp2;go_ret;exact⟨dR d.1.symm,e⟩
 by_cases d:(20000:T)<(f:T)
 .have d:N (dw a b=δ):=Z (by unfold dw;rw[c,<-HN.1,bV (show ¬f<=20000 by omega)];rfl)
  clear c;go_wp2;go_ret;exact⟨dR d.1.symm,e⟩
 have i:N (dw a b=!(b.any λd=>!dA a d)):=Z (by
  unfold dw;rw[c,<-HN.1,cD (show f<=20000 by omega),nB,nB];rw[L.all_eq_not_any_not])
 obtain⟨q,d⟩:=M (b.any λd=>!dA a d);rw[<-d] at i;have HQ:=Z d;clear c d;go_wp2_with fail;refine aZ.nm (λm f=> ?_);obtain⟨g,d⟩:=M w.heap.size;rw[<-d];have l:=dL f d;have h:=cY f;have c:=(e.step h);clear f d;refine aZ.go ((En 207 #[aP g 0] _ b (λb=>!dA a b) m (λb d=>by simp[go_sem]) (HL.f c) (λk e d f b=>
  NK a s g v e d (b.hs (h.aB p.1 id)) (b.hs l.1) ((HS.f c).f b))).mono ?_)
 rintro a b ⟨rfl,k⟩;have a:=(c.step k);rw[<-HQ.1];clear k;go_wp2;go_ret;exact⟨dR i.1.symm,a⟩
def oW(a:θ ζ):E->L ζ->θ ζ
 |_,[]=>a
 |o,c::b=>oW (a.setIfInBounds o c) (o+1) b
theorem nI:∀(c:L ζ)(d:θ ζ)(b a:E),b+c.length<=d.size->(oW d b c)[a]? =if b<=a/\a<b+c.length then c[a-b]? else d[a]?
 |[],a,d,c,b=>by simp[oW];intro a b;omega
 |v::d,f,b,a,c=>by
  rw[oW,nI d _ (b+1) a (by simp at c |-;omega)];simp only[bW] at c |-;by_cases e:b=a
  .subst e
   rw[aR O,aS O,E.sub_self,vG O];rfl
  by_cases c:b+1<=a/\a<b+1+d.length
  .rw[aS c,aS O,show a-b=(a-(b+1))+1 from by omega]
   simp
  rw[aR c,aR O];rw[ew O]
theorem wV{a:θ ζ}(b:Y1.length=a.size):oW a 0 Y1=Y1.toArray:=by
 apply kF;intro b;rw[nI Y1 a 0 b O];by_cases a:b<Y1.length
 .rw[aS O];simp
 rw[aR O,kC O,kC sO]
theorem ig:∀(c:L ζ)(b:E)(a:ε)(d:θ ζ),a.heap[m]? =S (.cells d t f1)->
  (a.setCells m b c).heap[m]? =S (.cells (oW d b c) t f1)/\bT m a (a.setCells m b c)
 |[],c,d,b,a=>⟨a,Fr.refl _ _⟩
 |v::c,a,d,e,b=>by
  rw[ε.setCells,oW];obtain⟨b,c⟩:=ig c (a+1) _ _ (aD b a v);exact⟨b,((Fr.refl (λb=>b=m) d).aK a v).tr c⟩
theorem pS{a:θ ζ}(b:aY W m a t)(c:q<=a.size):W.there m 0 q:=λc a=>by
 rw[de,aj b,aG b];exact⟨sO,Y⟩
section
variable {P:Program} {ops:θ Oper} {rest:L Oper} {o:Oper} {a:Act} {w:ε} {Q:Exit->Act->ε->Prop}
theorem aU(n:o.guard=η)(f g h)(r:o.op=.store f g h){c:E}{e b:θ ζ}{i:TypeId}(t:a.eval g=aP c 0)(u:a.eval h=.agg b)(k:aY w c e i)(s:e.size=b.size)(p:(P.info? f).map (·.size)=S b.size)(l:b.all (·.oneCell')=γ)(m:∀d,aY d c b i->bT c w d->wpList P ops Q rest (a.put o.dst undef) d):wpList P ops Q (o::rest) a w:=by
 refine wpList_store_mid n f g h r c 0 b t u (pS k O) p l ?_;obtain⟨b,c⟩:=ig b.toList 0 w e k;rw[wV (by simp[s])] at b;exact m _ b c
theorem bU(m:o.guard=η)(c f)(p:o.op=.load c f){d:E}{b:θ ζ}{g:TypeId}{h:E×E}(s:a.eval f=aP d 0)(k:w.heap[d]? =S (.cells b g h)){e:TypeDesc}(r:P.underlying c=S e)(l:(match e with|.struct _|.array _ _=>γ|_=>δ)=γ)(n:(P.info? c).map (·.size)=S b.size)(i:wpList P ops Q rest (a.put o.dst (.agg b)) w):wpList P ops Q (o::rest) a w:=
 wpList_load_row m c f p d s g b h e k r l n i
end
section
open Go.RowKit Go.Sort
theorem xB(b:cC m 3 1 CI W x e L1):L1=e.map cW:=by
 apply lB;intro a;by_cases c:a<e.length
 .obtain⟨g,d⟩:=gE e a c
  obtain⟨f,c⟩:=gE L1 a (oB b.len)
  have:=(b.each a f g c d).2;rw[fN,d,c];exact cH S this
 rw[jw (oB b.len),jw sO]
theorem nS(a:L T):(a.map cW).flatten=a.map (ζ.int .i64):=by
 induction a with
 |nil=>rfl
 |cons b c a=>simp[cW,a]
theorem xV(c:q=e.length)(b:W.ownsRow m 3 1 x q (e.map (ζ.int .i64))):cC m 3 1 CI W x e (e.map cW):=by
 subst c;refine⟨by rw[nS];exact b,sI,λc b d a b=> ?_⟩;rw[fN,b] at a;obtain rfl:=cI a;exact⟨Y,Y⟩
theorem UY(c:E)(d:ζ)(a:L T)(i:L (L ζ))(b:ε)(f:cC c 3 1 CI b d a i)(r:a.length<4611686018427387904):
  aQ 140 #[d] b λg e=>(∃h,g=.returned h)/\(∃g,cC c 3 1 CI e d (a.mergeSort (λh i=>decide (h<=i))) g)/\Fr (λg=>d.ownBlock=S g) b e:=by
 have n:=xB f;subst n;have d:=f.row;rw[nS] at d;rcases d.2 with⟨rfl,m⟩|⟨l,k,w,rfl,o,e,s,p,t,h⟩
 .have u:=fH m
  subst u;refine(Tryz.slices_Sort_int_none η 0 b).mono ?_;rintro d g ⟨rfl,rfl⟩;exact⟨⟨_,Y⟩,⟨_,sU (cC.nil c 3 1 CI g)⟩,rF⟩
 rw[gA] at h;refine(Tryz.slices_Sort_int l 0 k a b (holds_of_blockI e h) (ba e) r).mono ?_;rintro f d ⟨rfl,u,v,rfl⟩;have g:(a.mergeSort (λd f=>decide (d<=f))).length=a.length:=vv a;refine⟨⟨_,Y⟩,⟨_,xV g.symm (ownsRow_sortedI (w:=b) (base:=c) (n:=u) (os:=v) (ss:=a) (ts:=a.mergeSort (λa b=>decide (a<=b))) g o e s p t)⟩,?_⟩;exact(gJ (grownBy_sortedI _)).mono (λb _ a=>by simpa[ζ.ownBlock] using a)
theorem MT(o:E)(i:ζ)(a:L Int)(p:L (L ζ))(b:ε)(f:cC o 3 1 CI b i a p)(w:a.length<=9223372036854775807):
  aQ 248 #[i] b λe d=>∃c,e=.returned c/\Sl 3 1 CI d c (Lib.compact a)/\Fr (λc=>i.ownBlock=S c) b d:=by
 have t:=xB f;subst t;have i:=f.row;rw[nS] at i;rcases i.2 with⟨rfl,r⟩|⟨e,k,l,rfl,y,g,x,u,z,n⟩
 .have c:=fH r
  subst c;refine(Tryz.slices_Compact_int_empty η 0 b).mono ?_;rintro d c ⟨rfl,hw⟩;refine⟨_,Y,dJ,?_⟩;first|(subst hw;exact rF)|(obtain⟨q,rfl⟩:=hw;exact rF.drewN q)
 have f:=f.read;rw[gA] at n;have f:∀c,c<a.length->b.cell? (H e (0+c))=S (I (a.getD c 0)):=λc d=>by
  have c:(l.toList.take a.length)[c]? =(a.map (ζ.int .i64))[c]? :=by rw[n]
  rw[vN d] at c;rw[de,aj g,<-kp,c];simp[d]
 refine(Tryz.slices_Compact_int_cells e 0 a.length k a b eG w x f (λc _=>aG g _)).mono ?_;rintro i f ⟨rfl,q,rfl⟩;rw[oz];have f:=Lib.compact_length_le a;obtain⟨m,s⟩:=ig ((Lib.compact a++L.replicate (a.length-(Lib.compact a).length) 0).map (ζ.int .i64)) 0 (b.drewN q) l g;refine⟨_,Y,⟨_,e,0,k,Y,O,u,.inr ⟨Y,_,_,m⟩,λa c d=>⟨cW c,Y,Y,λa f h=> ?_⟩⟩,?_⟩
 .have v:a=0:=by
   rcases jc a with f|f
   .exact f
   (have:(cW c)[a]? =η:=by simp[cW];omega);rw[this] at h;cases h
  subst v;have a:=(cj.1 d).1;rw[aj m,nI _ _ _ _ sO,aS sO];rw[<-h];simp only[de,gA,fI,E.sub_zero,fN];rw[jf a,d];rfl
 exact((Fr.refl _ b).drewN q).trans (T:=λa=>a=e) s (λ_ _ c=>c) (λ_ _ c=>by simp[ζ.ownBlock,c])
theorem zu:∀{c d:L T},c.Pairwise (·<·)->d.Pairwise (·<·)->(∀b,b∈c↔b∈d)->c=d
 |[],[],_,_,_=>rfl
 |[],c::e,_,_,d=>by have:=(d c).2 sI;cases this
 |a::d,[],_,_,c=>by have:=(c a).1 sI;cases this
 |a::o,d::p,m,n,c=>by
  obtain⟨g,i⟩:=L.pairwise_cons.1 m;obtain⟨h,k⟩:=L.pairwise_cons.1 n;have l:a=d:=by
   rcases cK.1 ((c a).1 sI) with e|e
   .exact e
   rcases cK.1 ((c d).2 sI) with f|f
   .exact f.symm
   have:=h a e;have:=g d f;omega
  subst l;rw[zu i k (λb=> ?_)];constructor
  .intro f
   rcases cK.1 ((c b).1 (jh _ f)) with e|e
   .subst e;have:=g b f;omega
   exact e
  intro f;rcases cK.1 ((c b).2 (jh _ f)) with e|e
  .subst e;have:=h b f;omega
  exact e
theorem uE(a:θ T)(k:∀c b,c<b->b<a.size->a[c]! <=a[b]!):∀b,b<=a.size->(Lib.compactUpTo a b).Pairwise (·<·)/\(∀c,c∈Lib.compactUpTo a b↔∃d,d<b/\a[d]! =c)
 |0,_=>⟨by simp[Lib.compactUpTo],by simp[Lib.compactUpTo]⟩
 |b+1,hm=>by
  obtain⟨l,i⟩:=uE a k b O;rw[Lib.compactUpTo_succ];by_cases e:Lib.keeps a b=γ
  .rw[aS e]
   have h:∀c∈Lib.compactUpTo a b,c<a[b]! :=λc f=>by
    obtain⟨g,m,rfl⟩:=(i c).1 f;have n:a[b]! ≠a[b-1]! :=λd=>by
     have:=Lib.keeps_neg (d:=a) (m:=b) O d;rw[this] at e;cases e
    have m:=k (b-1) b O O;have g:a[g]! <=a[b-1]! :=by
     by_cases d:g=b-1
     .rw[d];exact pG _
     exact k g (b-1) O O
    omega
   refine⟨L.pairwise_append.2 ⟨l,sI,λc f g m=> ?_⟩,λc=> ?_⟩
   .simp at m;subst m;exact h c f
   rw[cB,i];constructor
   .rintro(⟨g,h,rfl⟩|f)
    .exact⟨g,O,Y⟩
    simp at f;exact⟨b,O,f.symm⟩
   rintro⟨g,f,rfl⟩;by_cases d:g=b
   .subst d;exact .inr sI
   exact .inl ⟨g,O,Y⟩
  rw[aR e,lh];refine⟨l,λc=> ?_⟩;rw[i];constructor
  .rintro⟨g,c,rfl⟩;exact⟨g,O,Y⟩
  rintro⟨g,c,rfl⟩;by_cases d:g=b
  .subst d
   have n:0<g:=by
    rcases jc g with h|h
    .subst h;exact absurd (Lib.keeps_lt_one a 0 O) e
    exact h
   exact⟨g-1,O,(nV λa=>e (Lib.keeps_pos a)).symm⟩
  exact⟨g,O,Y⟩
theorem po(g:e.Pairwise (·<=·)):(Lib.compact e).Pairwise (·<·)/\∀a,a∈Lib.compact e↔a∈e:=by
 have c:∀c a,c<a->a<e.toArray.size->e.toArray[c]! <=e.toArray[a]! :=λc a f b=>by
  have d:a<e.length:=sU b
  have:=L.pairwise_iff_getElem.1 g c a O d f;simpa[show c<e.length from by omega,d] using this
 obtain⟨c,d⟩:=uE e.toArray c e.length sI;refine⟨c,λc=> ?_⟩;unfold Lib.compact;rw[d];constructor
 .rintro⟨a,b,rfl⟩
  have:e.toArray[a]! =e[a]:=by simp[b]
  rw[this];exact L.getElem_mem b
 intro h;obtain⟨a,b,rfl⟩:=L.mem_iff_getElem.1 h;exact⟨a,b,by simp[b]⟩
theorem KJ(a:L T):(a.mergeSort (λb c=>decide (b<=c))).Pairwise (·<=·):=by
 have:=L.pairwise_mergeSort (le:=λ(b c:T)=>decide (b<=c)) sO sO a;exact this.imp (λa=>by simpa using a)
theorem QO(a:L T)(b:T):b∈a.mergeSort (λc d=>decide (c<=d))↔b∈a:=(L.mergeSort_perm a _).mem_iff
theorem Bo(a:L T):(Lib.compact (a.mergeSort (λb c=>decide (b<=c)))).Pairwise (·<·)/\∀b,b∈Lib.compact (a.mergeSort (λc d=>decide (c<=d)))↔b∈a:=
 ⟨(po (KJ a)).1,λb=>((po (KJ a)).2 b).trans (QO a b)⟩
end
def lP(a:Hs):L T:=if bm a then qX a else[]
def tj(a:L Tn):L T:=a.flatMap (·.w)
theorem qd{yH:T}:∀{l:L T}{a:T},a<yH->py yH a l=γ->(l.length:T)<=yH-1-a
 |[],b,a,_=>by simp;omega
 |x::b,d,c,a=>by
  simp only[py,bA,cS] at a
  have:=qd (l:=b) a.1.2 a.2;simp only[bW];omega
theorem Kh{a:Hs}(c:bm a=γ){b:Tn}(d:a[m]? =S b):b.w.length<=16:=by
 have:=pW c d;simp only[tR,bA] at this
 have:=qd O this.1.1;omega
theorem zL{a:Hs}{b:Tn}(c:a[m]? =S b):tj (a.take (m+1))=tj (a.take m)++b.w:=by
 unfold tj;rw[bJ c,ny];simp
theorem Ei{a:Hs}(c:bm a=γ):∀b,b<=a.length->(tj (a.take b)).length<=16*b
 |0,_=>by simp[tj]
 |b+1,hk=>by
  obtain⟨d,a⟩:=gE a b O;have b:=Ei c b O;have b:=Kh c a;rw[zL a,cA];omega
theorem Xx{a:Hs}(e:bm a=γ):Lib.compact ((tj a).mergeSort (λb c=>decide (b<=c)))=qX a:=by
 obtain⟨a,c⟩:=Bo (tj a);refine zu a ((Ej 16).filter _) (λb=> ?_);rw[c];simp only[qX,L.mem_filter,rH,eC,eH,tj,ke,jW];constructor
 .rintro⟨g,c,d⟩
  obtain⟨f,a⟩:=kc c;have h:=(cj.1 a).1
  have:=jO e (t:=(f:T)) O O (by rw[iJ a];exact d);exact⟨⟨b.toNat,O,O⟩,g,c,d⟩
 rintro⟨_,c,a,b⟩;exact⟨c,a,b⟩
theorem Dx(a)(y)(k)(u:eJ k y a):aQ 200 #[y] k λd c=>∃b,d=.returned b/\Sl 3 1 CI c b (lP a)/\Fr j k c:=by
 have r:=u;obtain⟨b3,rfl,P⟩:=u;obtain⟨W,a2,b0,a5,rfl,K,a9,p⟩:=P;generalize u:a.length=d at r K |-
 delta aQ;go_in
 go_wp2_with fail;refine aZ.nm (λy u=> ?_);obtain⟨k,b⟩:=M k.heap.size;rw[<-b];have A:=dL u b;have o:=cY u;clear b;refine sg (dV a _ y (r.fr o)) ?_;rintro k z ⟨rfl,t⟩;have m:=(o.step t);cases c:bm a
 .have b:lP a=[]:=(by unfold lP;rw[c];rfl)
  go_wp2;go_ret;exact⟨_,Y,by rw[b];exact dJ,m⟩
 have D:lP a=Lib.compact ((tj a).mergeSort (λb e=>decide (b<=e))):=(by unfold lP;rw[c,Xx c];rfl);have k:d<=32:=oB (bK c);have k:=bx (t.hs A.1);obtain⟨l,B⟩:=M z.heap.size;go_wp2_with fail;go_loopg [3,12] d (λgk s3 s12 wr=>∃(b:E)(e:L (L ζ)),b+gk=d/\s12=I b/\cC l 3 1 CI wr s3 (tj (a.take b)) e/\Fr j z wr)
 .exact⟨0,[],du,Y,qG,rF⟩
 case round=>
  obtain⟨b,C,HJ,rfl,e,f⟩:=hrel;obtain⟨x,h⟩:∃g,(tj (a.take b)).length=g:=⟨_,Y⟩;obtain⟨X,a6,rfl,-,-⟩:=e.shape h;have k:b<=d:=O;have k:x<=16*b:=by rw[<-h];exact Ei c _ O
  by_cases k:b<d
  .obtain⟨V,i⟩:=gE a b O
   obtain rfl:=p.addr i;have R:=Kh c i;obtain⟨p,o,c,F,k,v,Q⟩:=(p.f (m.step f)).tn i;have s:=v;obtain⟨a1,a4,b2,a8,rfl,-,-,-⟩:=v;obtain⟨a0,a3,b1,a7,rfl,-,-,-⟩:=Q;obtain⟨U,HM⟩:∃c,V.w.length=c:=⟨_,Y⟩;rw[HM] at R s F;have⟨c,d⟩:=dy b d;go_wp2_with (at_builtin;refine stop ?_);refine aZ.go (AM (λc c=> ?_));have g:=cY c;obtain⟨c,d,o,k,n,-,-,G⟩:=s.f g;rw[HM] at n;simp only[cM] at n;obtain⟨rfl,-,rfl⟩:=n;refine jI Y (.tmp 16) (.tmp 18) Y oG (λ_=>Y) x U h HM Y (e.fr da g) Y (G.src (λ_=>Y) (λd c w=>by simp[cW] at w;subst w;rfl)) O mL ?p6 ?p7
   case p6=>have:=f.size;have:=g.size;omega
   case p7=>
    intro k n o c d _ _;go_wp2;go_roundg (gk-1)
    .exact⟨b+1,_,O,by go_num,by rw[(zL i)];exact c,(d.fr (gh B.symm) (f.step g))⟩
    omega
  have b:tj (a.take b)=tj a:=(by rw[dq O]);rw[b] at e;have a:(tj a).length<=512:=(by rw[<-b,h];exact O);go_wp2_with fail;refine sg (UY l _ _ C wr e O) ?_;rintro a G ⟨⟨b,rfl⟩,⟨n,g⟩,w⟩;go_wp2_with fail;refine sg (MT l _ _ n G g (by rw[vv];omega)) ?_;rintro a c ⟨b,rfl,i,F⟩;have v:=i;have s:=((f.keep w (λb a=>by have:=(aW e.row a).1;omega)).keep F (λb a=>by have:=(aW g.row a).1;omega));obtain⟨Q,R,V,U,rfl,-,-,-⟩:=i;go_wp2;go_ret;exact⟨_,Y,by rw[D];exact v,m.step s⟩
theorem pU{w:ε}(c)(i:prog.underlying c=S (.slice t))(s:∀b,(sizeOf t).run prog b=.ok m b)(r:X.length=q)(v:Sl t m C w (.slice A q n1) X)(a)(v:a<=q):
  ∃d,(∀(e:T) b,e=(a:T)->(Instr.sliceAt c (.slice A q n1) (S (I e)) η η).run prog b=.ok (.slice d (q-a) (n1-a)) b)/\
   (∀b,Sl t m C b (.slice A q n1) X->Sl t m C b (.slice d (q-a) (n1-a)) (X.drop a)):=by
 have k:prog.elem c=t:=by simp[Program.elem,i]
 have f:prog.underlying c=S (.slice (prog.elem c)):=by rw[k];exact i
 refine⟨if n1=a then A else A.map (·.add (a*m)),λd b e=> ?_,λb o=> ?_⟩
 .subst e
  rw[run_sliceAt_slice (w:=b) (t:=c) (h:=f),run_slice_l (w:=b) (t:=c) (a:=A) (len:=q) (cap:=n1) (ht:=f) (kl:=.i64) (l:=(a:T)) (h0:=T.natCast_nonneg _) (h1:=by omega),k,s b];simp[Result.andThen,sliced]
 obtain⟨b,n,u,c,g,f,i,h⟩:=o;simp only[cM] at g;obtain⟨rfl,l,rfl⟩:=g;have e:(X.drop a).length=q-a:=by simp[r]
 by_cases p:a=q
 .subst p
  have b:X.drop a=[]:=fH O;rw[b,E.sub_self];exact⟨_,0,0,n1-a,Y,sI,O,.inl Y,sI⟩
 rw[aR O];rcases h.1 with d|⟨d,-⟩
 .subst d;simp at l;omega
 subst d;refine⟨_,n,u+a*m,n1-a,by rw[e],O,O,?_⟩;rw[rM,eV];exact h.drop a O
def cQ(a:Hs):L Ch:=(lP a).flatMap (λb=>ij b (df a b))
theorem iX{a:Hs}(b:bm a=γ):cQ a=iC a:=by
 unfold cQ lP iC df;rw[b];rfl
theorem zr(c:T):∀b:L T,(ij c b).length<=b.length*b.length
 |[]=>by simp[ij]
 |a::b=>by
  have:=zr c b;simp only[ij,cA,eo,bW,nC,E.mul_succ];omega
theorem nv(a:Hs)(b:T):(df a b).length<=32:=by
 unfold df;split
 .rename_i c
  have e:=bK c;have f:=pZ (λd=>(tx a d).w.contains b) (cU (L.range a.length));have g:(cU (L.range a.length)).length=a.length:=by simp[cU]
  unfold kJ;omega
 simp
theorem tX(a:Hs):(lP a).length<=16:=by
 unfold lP;split
 .have a:=pZ (λb=>a.any (λa=>a.w.contains b)) (cU (L.range 16))
  have a:(cU (L.range 16)).length=16:=by simp[cU]
  unfold qX;omega
 simp
theorem uT(b:α->L β)(c:E)(d:∀e,(b e).length<=c):∀e:L α,(e.flatMap b).length<=c*e.length
 |[]=>by simp
 |a::e=>by
  have b:=uT b c d e;have b:=d a;rw[kX,cA,bW,E.mul_succ];omega
theorem jt(a:Hs):(cQ a).length<=16384:=by
 have b:=uT (λb=>ij b (df a b)) 1024 (λb=>by
  have c:=zr b (df a b);have b:=nv a b;have b:=E.mul_le_mul b b;omega) (lP a)
 have a:=tX a;unfold cQ;omega
theorem dG(a:X[m]? =S x1):X.drop m=x1::X.drop (m+1):=by
 have a:=(cj.1 a);rw[nR a.1,a.2]
theorem lD:dK prog 265 144 3 24:=dK.of (z:=.agg #[aI,aI,aI]) underlying265 kR Y J
theorem mR(b:Hs)(c8:ζ)(A:ε)(c5:eJ A c8 b):aQ 164 #[c8] A λR d0=>∃c9,R=.returned c9/\Sl 144 3 CC d0 c9 (cQ b)/\Fr j A d0:=by
 have a9:=c5;obtain⟨i4,rfl,h7⟩:=c5
 delta aQ;go_in
 go_wp2_with fail;refine aZ.nm (λf3 X=> ?_);obtain⟨g5,V⟩:=M A.heap.size;rw[<-V];have d2:=dL X V;have a5:=cY X;clear X V;refine sg (Dx b _ f3 (a9.fr a5)) ?_;rintro R B ⟨i5,rfl,c6,c1⟩;have a6:=(a5.step c1);obtain⟨n,y⟩:=M (lP b);rw[<-y] at c6;have d6:n.flatMap (λa=>ij a (df b a))=cQ b:=(by rw[y];rfl);have e4:n.length<=16:=by rw[y];exact tX b
 obtain⟨o,HKN⟩:∃o,n.length=o:=⟨_,Y⟩;obtain⟨f8,bk,i1,g3,rfl,-,-,b0⟩:=c6;rw[HKN] at e4 |-;obtain⟨D,a8⟩:=M B.heap.size;clear y;go_wp2_with fail;go_loopg [3,14] o (λgk s3 s14 wr=>∃(e:E)(c:L Ch)(f:L (L ζ)),e+gk=o/\s14=I e/\cC D 144 3 CC wr s3 c f/\c++(n.drop e).flatMap (λa=>ij a (df b a))=cQ b/\Fr j B wr)
 .exact⟨0,[],[],du,Y,qG,by rw[la,d6];rfl,rF⟩
 case round=>
  obtain⟨e,c,f,HJ,rfl,g,RS,r⟩:=hrel;obtain⟨m,i⟩:∃m,c.length=m:=⟨_,Y⟩;obtain⟨b5,b8,rfl,-,-⟩:=g.shape i;have h0:e<=o:=O;have v:=i;clear i;by_cases h1:e<o
  .obtain⟨a,W⟩:=gE n e O
   obtain rfl:=b0.addr W;have b7:=(b0.f r).int W;have b6:=bx (r.hs (c1.hs d2.1));have t:c++(ij a (df b a)++(n.drop (e+1)).flatMap (λa=>ij a (df b a)))=cQ b:=(by rw[<-RS,dG W,kX]);have⟨e6,e7⟩:=dy e o;go_wp2_with fail;(refine sg (uM b a _ wr ((a9.fr a6).fr r)) ?_;rintro R i7 ⟨i6,rfl,a0,c2⟩;obtain⟨h,U⟩:=M (df b a);rw[<-U] at a0 t;obtain⟨k,x⟩:∃k,h.length=k:=⟨_,Y⟩;have b2:=a0;obtain⟨d8,g0,i2,Q,rfl,f0,f1,h8⟩:=a0;rw[x] at b2 f0 |-;have h9:k<=32:=by rw[<-x,U];exact nv b a);unfold maxLen at f1;clear U;obtain⟨e0,rfl⟩:=M gk;go_wp2_with fail;go_loopg [3,23] k (λe1 s3 s23 a3=>∃(d:E)(c:L Ch)(f:L (L ζ)),d+e1=k/\s23=I d/\cC D 144 3 CC a3 s3 c f/\c++(ij a (h.drop d)++(n.drop (e+1)).flatMap (λa=>ij a (df b a)))=cQ b/\Fr j B a3/\Sl 3 1 CI a3 (.slice d8 k Q) h)
   .exact⟨0,c,f,du,Y,(g.f c2),by rw[la];exact t,(r.step c2),b2⟩
   case round=>
    obtain⟨d,c,f,HI,rfl,g,RS,a7,c7⟩:=hrel;have G:=c7;obtain⟨f4,b6,f2,b7,b9,-,-,b3⟩:=c7;simp only[cM] at b9;obtain⟨rfl,-,rfl⟩:=b9;obtain⟨m,i⟩:∃m,c.length=m:=⟨_,Y⟩;obtain⟨b5,b8,rfl,-,-⟩:=g.shape i;have g9:d<=k:=O;have v:=i;clear i;by_cases h2:d<k
    .obtain⟨C,a1⟩:=gE h d O
     (obtain rfl:=b3.addr a1;have b7:=b3.int a1;have t:c++((h.drop (d+1)).map (λP=>⟨a,C,P⟩)++(ij a (h.drop (d+1))++(n.drop (e+1)).flatMap (λa=>ij a (df b a))))=cQ b:=(by rw[<-RS,dG a1,ij,dm]);have⟨e6,e7⟩:=dy d k;obtain⟨d7,e8,b1⟩:=pU (w:=wr) 30 underlying30 (λh=>by rw[sizeOf3]) x G (d+1) O;have e9:=λh=>e8 ((d:T)+1) h O;have b4:=(b1 _ G);obtain⟨p,u⟩:=M (k-(d+1));obtain⟨i3,z⟩:=M (Q-(d+1));rw[<-u,<-z] at b4;simp only[<-u,<-z] at e9;obtain⟨s,w⟩:=M (h.drop (d+1));rw[<-w] at b4 t;have g6:s.length=p:=by rw[w,ik,x,u]);have h6:p<=32:=O;obtain⟨f6,e5⟩:=M d7;subst e5;have HRN:=u.symm;have d3:=z.symm;clear u z;obtain⟨d9,rfl⟩:=M gk;go_wp2_with fail;go_loopg [3,33] p (λe2 s3 s33 a4=>∃(l:E)(c:L Ch)(f:L (L ζ)),l+e2=p/\s33=I l/\cC D 144 3 CC a4 s3 c f/\c++((s.drop l).map (λP=>⟨a,C,P⟩)++(ij a s++(n.drop (e+1)).flatMap (λa=>ij a (df b a))))=cQ b/\Fr j B a4/\Sl 3 1 CI a4 (.slice (S (H b6 f2)) k Q) h)
     .exact⟨0,c,f,du,Y,v▸g,by rw[la];exact t,a7,G⟩
     case round=>
      obtain⟨l,c,f,HM,rfl,g,RS,F,K⟩:=hrel;obtain⟨m,i⟩:∃m,c.length=m:=⟨_,Y⟩;obtain⟨b5,b8,rfl,-,-⟩:=g.shape i;have h4:l<=p:=O;have h5:m<=16384:=by
       have e3:=cH L.length RS;rw[cA] at e3
       have:=jt b;omega
      by_cases h3:l<p
      .obtain⟨d1,a2⟩:=gE s l O
       (obtain⟨f7,f9,i0,g2,c0,-,-,c4⟩:=by have:=b1 _ K;rw[<-w] at this;simpa only[HRN,d3] using this);simp only[cM] at c0;obtain⟨rfl,-,rfl⟩:=c0;obtain rfl:=c4.addr a2;have g4:=c4.int a2;have⟨g7,g8⟩:=dy l p;go_wp2_with (at_builtin;refine stop ?_);refine aZ.go (bH Y (.tmp 37) (.tmp 42) Y lD m i Y (g.f (tC.alloc _)) (Pl.aJ eM (λ_=>False)) id (⟨a,C,d1⟩:Ch) Y Y (eF.block (cs:=#[I a,I C,I d1]) (bM Y) oC) (λ_ _=>Y) O mL ?p6 ?p7)
       case p6=>have:=F.size;have:=a8;simp;omega
       case p7=>
        intro f5 g1 i8 d4 c3 _ _;go_wp2;go_roundg (gk-1)
        .exact⟨l+1,_,_,O,by go_num,d4,(by rw[<-RS,dG a2,jC];simp),(c3.fr (gh a8.symm) (F.alloc _)),((K.fr da (tC.alloc _)).beside da (g.f (tC.alloc _)) c3 J id)⟩
        omega
      go_wp2;go_roundg (d9-1)
      .exact⟨d+1,c,f,O,by go_num,i▸g,by rw[<-w];exact(by rw[<-RS,show s.drop l=[] from dY O];rfl),F,K⟩
      omega
    go_wp2;go_roundg (e0-1)
    .exact⟨e+1,c,f,O,by go_num,v▸g,(by rw[<-RS,show h.drop d=[] from dY O];rfl),a7⟩
    omega
  have d5:c=cQ b:=(by rw[<-RS,dY O];simp);go_wp2;go_ret;exact⟨_,Y,by rw[<-d5];exact v▸g.read,a6.step r⟩
theorem Xh:prog.stoodInHeld 144=δ:=kR
theorem Dm:prog.eqGuardType prog.depth 144=δ:=kR
theorem Lj:prog.stoodInHeld 203=δ:=kR
theorem CA:prog.eqGuardType prog.depth 203=δ:=kR
theorem acH(a b:Ch):(a.k==b.k&&(a.a==b.a&&a.b==b.b))=(a==b):=by
 obtain⟨a,c,d⟩:=a;obtain⟨a,b,c⟩:=b;rw[dS];simp
theorem Zy(a b:Tk):(a.k==b.k&&a.f==b.f)=(a==b):=by
 obtain⟨a,c⟩:=a;obtain⟨a,b⟩:=b;rw[dS];simp
theorem qY(f:ε)(a b:Ch):(binOp .eql 144 (.agg #[I a.k,I a.a,I a.b]) (.agg #[I b.k,I b.a,I b.b])).run prog f=.ok (.bool (a==b)) f:=by
 rw[run_eql_struct];have f:=underlying144;have c:=underlying3;have h:=Xh;rw[run_equalIn_agg (d:=9999) _ _ _ _ (by simp only[Program.fieldsOf,f]) h];rw[<-acH];simp only[Program.fieldsOf,f];cases d:(a.k==b.k)
 .simp[Op.eqFields,go_sem,c,d]
 cases e:(a.a==b.a)
 .simp[Op.eqFields,go_sem,c,d,e]
 cases g:(a.b==b.b)
 .simp[Op.eqFields,go_sem,c,d,e,g]
 simp[Op.eqFields,go_sem,c,d,e,g]
theorem Jd(e:ε)(a b:Tk):(binOp .eql 203 (.agg #[I a.k,I a.f]) (.agg #[I b.k,I b.f])).run prog e=.ok (.bool (a==b)) e:=by
 rw[run_eql_struct];have e:=underlying203;have c:=underlying3;have g:=Lj;rw[run_equalIn_agg (d:=9999) _ _ _ _ (by simp only[Program.fieldsOf,e]) g];rw[<-Zy];simp only[Program.fieldsOf,e];cases d:(a.k==b.k)
 .simp[Op.eqFields,go_sem,c,d]
 cases f:(a.f==b.f)
 .simp[Op.eqFields,go_sem,c,d,f]
 simp[Op.eqFields,go_sem,c,d,f]
theorem BC[BEq α][LawfulBEq α](b:L α)(a:α):(b.any λc=>a==c)=b.contains a:=by
 rw[L.contains_eq_any_beq]
def IXq[BEq α](h g:E)(e:ε->L ζ->α->Prop)(val:α->ζ)(f:E):Prop:=
 ∀(a:ζ)(d:L α)(c:α)(b:ε),Sl h g e b a d->dr f #[a,val c] b (I (fx (λa=>c==a) d))
theorem ixS(s:p0:=by
 intro a9 x m f s;obtain⟨U,V,a8,W,rfl,Q,G,y⟩:=s;unfold maxLen at G;obtain⟨b,u⟩:=M x.length;have a7:b<=9223372036854775807:=O;rw[<-u];have HN:=Z u;clear u Q G;first|unfold iP|unfold mC
 first|go_enter func228,ntmps228|go_enter func332,ntmps332|go_enter func387,ntmps387
 go_wp2;refine cT (λR w=> ?_);obtain⟨X,t⟩:=M f.heap.size;rw[<-t];have P:=dL w t;have n:=cY w;clear w t
 go_loopg [8] b (λgk e wr=>∃a:Nat,a+gk=b/\e=I a/\N (∀e c,e<a->x[e]? =some c->(m==c)=false)/\Fr j R wr)
 .exact⟨0,du,rfl,Z λe c a2=>by omega,rF⟩
 obtain⟨a,K,rfl,i,d⟩:=hrel;have HK:=Z K;have a5:a<=b:=O;clear K;by_cases a6:a<b
 .obtain⟨c,l⟩:=gE x a fU
  obtain rfl:=y.addr l;have h:=Sl.pl (y.f (n.step d)) l;have g:=d.hs P.1;have r:=h 0 _ rfl;have A:=h 1 _ rfl;rw[fI] at r;have C:=bx g;have D:=dh g;try have B:=h 2 _ rfl
  try have F:=iU g
  have z:=Z l;have⟨a3,a4⟩:=dy a b;clear l g h;have a0:=Dm;have a1:=CA;first|have k:=λf=>qY f m c|have k:=λf=>Jd f m c
  obtain⟨q,v⟩:=M (m==c);have HQ:=Z v.symm;rw[<-v] at k;clear v;cases q with
  |true=>
   have p:=Z (Vg z.1 HQ.1 i.1);go_wp2;go_quiet (fail);have o:=(n.step d).drewN nq;clear r A C D k;(try clear B F);go_wp2;go_ret;exact⟨iB p.1.symm,o⟩
  |false=>
   go_wp2;go_quiet (fail);have o:=d.drewN nq;clear r A C D k;(try clear B F);go_wp2;go_roundg (gk-1)
   .exact⟨a+1,oB HK.1,by go_num,Z (Jq i.1 z.1 HQ.1),o⟩
   have:=HK.1;omega
 have p:=Z (Sd HN.1 (by rw[show a=b by omega] at i;exact i.1));go_wp2;go_ret;exact⟨iB p.1.symm,n.step d⟩):p0:=s
theorem coS{k q:Prop}(a:q)(d:q->k:=by
 intro m p e a t d;have b:=Z λn c=>m p e a n (d.f c);have g:=Z ((II (λf=>a==f) e).trans (BC e a));generalize o:fx (λf=>a==f) e=s at b g;clear o d;first|unfold iP at b |-|unfold mC at b |-
 first|go_enter func180,ntmps180|go_enter func309,ntmps309|go_enter func386,ntmps386
 go_wp2_with ((first|go_at_call 228|go_at_call 332|go_at_call 387);refine stop ?_);refine aZ.nm (λv i=> ?_);have h:=cY i;clear i;refine sg (b.1 _ h) ?_;rintro r u ⟨rfl,c⟩;have l:=h.step c;clear c;go_wp2;go_ret;exact⟨dR g.1,l⟩):k:=d a
def COq[BEq α](h g:E)(e:ε->L ζ->α->Prop)(val:α->ζ)(f:E):Prop:=
 ∀(a:ζ)(d:L α)(c:α)(b:ε),Sl h g e b a d->dr f #[a,val c] b (.bool (d.contains c))
theorem YD:IXq 144 3 CC iP 228:=ixS
theorem kP:COq 144 3 CC iP 180:=coS YD
theorem VV:IXq 203 2 CK mC 332:=ixS
theorem yh:COq 203 2 CK mC 309:=coS VV
theorem WY:IXq 144 3 CC iP 387:=ixS
theorem Jo:COq 144 3 CC iP 386:=coS WY
def iZ(a:L Ch)(b:Ch):κ:=!a.contains b&&!a.contains b.back
def oX(a:Hs)(b:L Ch):ι Ch:=if dw a b then oV a b else η
def yA(a:ι Ch):ζ:=.tuple #[iP (a.getD ⟨0,0,0⟩),.bool a.isSome]
theorem Dl{a:Hs}(b:dw a K=γ):oX a K=(cQ a).find? (iZ K):=by
 unfold oX oV;rw[aS b,iX (fm b).1];rfl
theorem Cg(c:Hs)(a:L Ch)(V W:ζ)(h:ε)(Q:eJ h V c)(R:Sl 144 3 CC h W a):
  dr 225 #[V,W] h (yA (oX c a)):=by
 have D:=Q;have HL:=R;obtain⟨c4,rfl,c1⟩:=Q;obtain⟨b3,b5,c2,b7,rfl,a9,b9,c0⟩:=R;generalize b:a.length=Q at HL a9 |-;clear b
 delta dr aQ;go_in
 go_wp2_with fail;refine aZ.nm (λQ d=> ?_);obtain⟨R,e⟩:=M h.heap.size;rw[<-e];generalize f:R+1=b;have a1:=uV d e;have a4:aY Q b #[aI,aI,aI] 144:=(by rw[d];exact bM sO);have o:=lq d;have z:h.heap.size<=b:=O;clear d e f;refine sg (jT c a _ _ Q (D.fr o) (HL.f o)) ?_;rintro Q X ⟨rfl,w⟩;have p:=(o.step w);have t:=(w.hs a4);have fin:N (∀(d:ε)(e f g:T),Fr j h d->aY d b #[aI,aI,aI] 144->
   (((d.setCell (H b 0) (I e)).setCell (H b 1) (I f)).setCell (H b 2) (I g)).heap[b]? =S (.cells #[I e,I f,I g] 144 (0,0))/\
   Fr j h (((d.setCell (H b 0) (I e)).setCell (H b 1) (I f)).setCell (H b 2) (I g))):=Z (λi f g h d e=>⟨by
    have:=aD (aD (aD e 0 (I f)) 1 (I g)) 2 (I h);simpa using this,((d.cN (H b 0) z _).cN (H b 1) z _).cN (H b 2) z _⟩)
 cases U:dw c a
 .have e:oX c a=η:=(by unfold oX;rw[U];rfl)
  obtain⟨d,f,g,h⟩:=mD t;go_wp2;have d:=fin.1 X 0 0 0 p t;refine aO (v:=yA η) (by have f:=aj d.1 0;have g:=aj d.1 1;have h:=aj d.1 2;simp[results,results225,go_sem,yA,iP,f,g,h]) Y ⟨by rw[e],d.2⟩
 have u:=(Dl U);have h:=bx (w.hs a1.1);go_wp2_with fail;refine sg (mR c _ X (D.fr p)) ?_;rintro h a0 ⟨o,rfl,y,P⟩;have r:=(p.step P);obtain⟨PS,d⟩:=M (cQ c);have b0:PS.length<=16384:=by rw[d];exact jt c
 rw[<-d] at y u;obtain⟨i,HPN⟩:∃e,PS.length=e:=⟨_,Y⟩;have G:=y;obtain⟨b4,b6,c3,b8,rfl,-,-,-⟩:=y;rw[HPN] at b0 G |-;have F:=(HL.f r);clear d;go_wp2_with fail;go_loopg [17] i (λgk s17 wr=>∃(d:E),d+gk=i/\s17=I d/\(PS.drop d).find? (iZ a)=PS.find? (iZ a)/\Fr j a0 wr)
 .exact⟨0,du,Y,by rw[la],rF⟩
 case round=>
  obtain⟨d,HJ,rfl,RS,k⟩:=hrel;have h:d<=i:=O;have Rr:=(k.hs (P.hs t));by_cases h:d<i
  .obtain⟨n,A⟩:=gE PS d O
   (obtain⟨g,h,m,l,e,-,-,f⟩:=G.f k;simp only[cM] at e;obtain⟨rfl,-,rfl⟩:=e;obtain rfl:=f.addr A;obtain⟨a6,a7,a8⟩:=f.ch A;have v:(if iZ a n then S n else(PS.drop (d+1)).find? (iZ a))=PS.find? (iZ a):=(by rw[<-RS,dG A,rZ];cases iZ a n<;>rfl));obtain⟨g,e,f⟩:=n;simp only at a6 a7 a8;have⟨h,i⟩:=dy d i;go_wp2_with fail;refine aZ.nm (λi h=> ?_);obtain⟨n,l⟩:=M wr.heap.size;(try rw[<-l]);obtain⟨n,m⟩:=M (n+1);(try rw[<-m]);have B:Fr j a0 i:=(by rw[h];exact(k.alloc _).alloc _);have a2:=uV h l;have a3:aY i n #[I g,I f,I e] 144:=(by rw[h];exact bM sO);have a5:aY i b #[aI,aI,aI] 144:=(by rw[h];exact aC (aC Rr _) _);clear h l m;refine sg (kP _ a ⟨g,e,f⟩ i (F.f B)) ?_;rintro b b1 ⟨rfl,l⟩;have s:=(B.step l);cases m:a.contains (⟨g,e,f⟩:Ch) with
   |true=>
    have b:(PS.drop (d+1)).find? (iZ a)=PS.find? (iZ a):=(by rw[<-v];unfold iZ;rw[m];rfl);clear m;go_wp2;go_roundg (gk-1)
    .exact⟨d+1,O,by go_num,b,s⟩
    omega
   |false=>
    have HQ:=m;obtain⟨b,h,i,-⟩:=mD (l.hs a3);clear m;go_wp2_with fail;refine sg (kP _ a ⟨g,f,e⟩ b1 (F.f s)) ?_;rintro b b2 ⟨rfl,x⟩;have C:=(s.step x);have K:=(x.hs (l.hs a5));cases m:a.contains (⟨g,f,e⟩:Ch) with
    |true=>
     have b:(PS.drop (d+1)).find? (iZ a)=PS.find? (iZ a):=(by rw[<-v];unfold iZ Ch.back;simp only[HQ,m];rfl);clear m;go_wp2;go_roundg (gk-1)
     .exact⟨d+1,O,by go_num,b,C⟩
     omega
    |false=>
     have h:oX c a=S ⟨g,e,f⟩:=(by rw[u,<-v];unfold iZ Ch.back;simp only[HQ,m];rfl);obtain⟨b,i,l,-⟩:=mD (x.hs (l.hs a2.1));obtain⟨b,i,l,n⟩:=mD K;clear m;go_wp2;have b:=fin.1 b2 g e f (r.step C) K;refine aO (v:=yA (S ⟨g,e,f⟩)) (by have e:=aj b.1 0;have f:=aj b.1 1;have g:=aj b.1 2;simp[results,results225,go_sem,yA,iP,e,f,g]) Y ⟨by rw[h],b.2⟩
  have b:oX c a=η:=(by rw[u,<-RS,show PS.drop d=[] from dY O];rfl);obtain⟨a,c,d,e⟩:=mD Rr;go_wp2;have a:=fin.1 wr 0 0 0 (r.step k) Rr;refine aO (v:=yA η) (by have c:=aj a.1 0;have d:=aj a.1 1;have e:=aj a.1 2;simp[results,results225,go_sem,yA,iP,c,d,e]) Y ⟨by rw[b],a.2⟩
structure RS where
 h:Hs
 eY:T
 fs:L Fc
 gone:L κ
 at_:T
 idle:T
 wd:T
 cut:κ
 wp:L T
 wl:L (L T)
 path:L Mk
 left:T
 each:L T
 wK:L T
 yD:T
 said:T
 vu:T
 ord:L T
 tree:L Nd
def eL{b:Type}(c:b->L T)(a:L b):L T:=(a.length:T)::a.flatMap c
def eI(a:T):L T:=[a]
def fh(a:L T):L T:=(a.length:T)::a
def eB(a:κ):L T:=[if a then 1 else 0]
def yV(a:Ch):L T:=[a.k,a.a,a.b]
def Bw(a:Nd):L T:=yV a.c++fh a.cy
def mJ(a:L Nd):L T:=eL Bw a
def Nh(a:Tk):L T:=[a.k,a.f]
def Cc(a:Tn):L T:=a.s::(fh a.w++eL Nh a.r)
def eHs(a:Hs):L T:=eL Cc a
def Gb(a:Fc):L T:=yV a.c++(a.kind::a.i::a.j::fh a.cy)
def Hl(a:Mk):L T:=yV a.c++(eB a.rt++mJ a.dn)
def zP(a:RS):L T:=
 eHs a.h++(a.eY::(eL Gb a.fs++(a.gone.flatMap eB++(a.at_::a.idle::a.wd::(eB a.cut++(fh a.wp++(eL fh a.wl++(eL Hl a.path++
  (a.left::(a.each++(a.wK++(a.yD::a.said::a.vu::(fh a.ord++mJ a.tree)))))))))))))
theorem SI(a:L T):a.flatMap eI=a:=by
 induction a with
 |nil=>rfl
 |cons b c a=>rw[kX,a];rfl
theorem Wn(a:L T):fh a=eL eI a:=by unfold fh eL;rw[SI]
structure RS.Fit(s:RS):Prop where
 gone:s.gone.length=4
 each:s.each.length=4
 wK:s.wK.length=4
def yO(a:L E):θ ζ:=(a.map (λ(a:E)=>ζ.int .i64 (a:T))).toArray
def Ib(d:ε)(b a:E)(c:L E):Prop:=d.heap[b]? =S (.cells (yO c) a (0,0))
theorem Ib.cell(a:Ib W m q B)(b:n1<B.length):W.cell? (H m n1)=S (I (B.getD n1 0:E)):=by
 rw[aj a n1];simp[yO,L.getD,b]
theorem Ib.set{w:ε}(a:Ib w m q B)(k x:E):Ib (w.setCell ⟨m,k,η⟩ (.int .i64 (x:T))) m q (B.set k x):=by
 have:=aD a k (.int .i64 (x:T));unfold Ib;rw[this];simp[yO,lU]
theorem mM(a):(yO a).size=a.length:=by simp[yO]
theorem CM(b):(yO b).all (·.oneCell')=γ:=θ.all_eq_true_iff_forall_mem.2 (λb a=>by simp[yO] at a;obtain⟨c,_,rfl⟩:=a;rfl)
theorem vV:(prog.info? 418).map (·.size)=S 64:=kR
theorem abL:yO yZ=#[aI,aI,aI,aI,aI,aI,aI,aI,aI,aI,aI,aI,aI,aI,aI,aI,
 aI,aI,aI,aI,aI,aI,aI,aI,aI,aI,aI,aI,aI,aI,aI,aI,
 aI,aI,aI,aI,aI,aI,aI,aI,aI,aI,aI,aI,aI,aI,aI,aI,
 aI,aI,aI,aI,aI,aI,aI,aI,aI,aI,aI,aI,aI,aI,aI,aI]:=Y
theorem Qo{a:Rl}(b:n2≠0):Vz m a (q+1) n1 n2 B=Vz m a q (n1+1) (ji m a n1 n2 B).1 (ji m a n1 n2 B).2:=by rw[Vz,aR b]
theorem EG(c a b):∀(e:L E)(d:E×L E),(e.foldl (jZ c a b) d).2.length=d.2.length
 |[],_=>rfl
 |x::d,e=>by
  rw[pQ,EG c a b d];unfold jZ;split<;>simp
theorem KW(a c):∀(d:L E)(b:E×L E),b.1<2 ^ m->(d.foldl (jZ m a c) b).1<2 ^ m
 |[],_,b=>b
 |x::d,e,b=>by
  rw[pQ];refine KW a c d _ ?_;unfold jZ;split
  .exact pD b (lJ _ _)
  exact b
theorem YE(a b)(u:a<=64)(l)(R:l<a)(k)(a8:Gl k)(A)(a4:iM a (eA b) k A):
  dr 270 #[A,I l] k (.agg (yO (vW a b l))):=by
 obtain⟨c8,rfl,c0⟩:=a4;obtain⟨c4,y,z,a3,rfl,-,-,K⟩:=c0;rw[bY] at*;obtain rfl:=K.addr (cL R);have⟨A,a4⟩:=dy l a;obtain⟨a4,c⟩:=M (row a (eA b) l);have D:=Z c
 delta dr aQ;go_in
 have A:∀e d,((k.alloc e).alloc d).cell? (H y (z+l))=S (.int .u64 (a4:E)):=λe d=>by rw[c];exact(K.f (((Fr.refl j k).alloc e).alloc d)).u64 (cL R)
 clear c;go_wp2;refine cT (λA c=> ?_);have C:Fr j k A:=(c▸((Fr.refl j k).alloc _).alloc _);have B:(A.heap[k.heap.size]? =S (.cells #[I a,.slice (S (H y z)) a a3] 355 (0,0))):=(c▸aC (bM Y) _);have X:Ib A (k.heap.size+1) 418 yZ:=(by unfold Ib;rw[abL,c];exact bM sI);clear c;obtain⟨e,c⟩:=M (k.heap.size+1);rw[<-c] at X |-;have m:=Z c;clear c;go_loopg [5,6] 70 (λgk s5 s6 wr=>∃(f d:E)(c:L E),s5=.int .u64 (d:E)/\s6=I f/\Vz a b gk f d c=vW a b l/\FI a b l f d c/\Az d c<=gk/\f+gk=71/\Ib wr e 418 c/\bT e A wr)
 .exact⟨1,a4,yZ,Y,Y,by rw[D.1];rfl,by rw[D.1];exact FI.start b R,by rw[D.1];exact bX (yF b a l) J,Y,X,rF⟩
 case round=>
  obtain⟨g,f,o,rfl,rfl,P,n,HRN,b7,IB,r⟩:=hrel;have A:g<=71:=O;have b5:=jd n.fr (lj (n:=2) J u);by_cases t:f=0
  .subst t
   have c:Ib wr e 418 (vW a b l):=(by have:=P;rw[Ct] at this;rw[<-this];exact IB);have HLN:((vW a b l).length=64):=(by have:=P;rw[Ct] at this;rw[<-this];exact n.len);have d:=Z (r.aB B (λd=>by have:=m.1;omega));go_wp2_with (first|(refine bU Y 418 (.tmp 4) Y Y c underlying418 Y (by rw[vV,mM,HLN]) ?_)|(refine aU Y 418 (.tmp 4) (.tmp 43) Y Y Y c Y (by rw[vV,mM,HLN]) (CM _) ?_;intro W A b3));exact aO (gp Y _ W e 418 (yO (vW a b l)) (0,0) _ Y A underlying418 Y (by rw[vV,mM,HLN])) Y ⟨Y,(C.keep r (λv c=>by have:=m.1;omega)).keep b3 (λv c=>by have:=m.1;omega)⟩
  obtain⟨b4,b6⟩:∃c,gk=c+1:=⟨gk-1,by have c:=HRN;unfold Az at c;rw[aR t] at c;omega⟩;subst b6;have l:((f:T) !=0)=γ:=by rw[xF];simpa using t
  obtain⟨l,c2⟩:=M wr;subst c2;have l:=(C.keep r (λv c=>by have:=m.1;omega));have A:=Z (r.aB B (λc=>by have:=m.1;omega));go_wp
  refine sg (rJ f b5 _ (a8.fr l)) ?_;rintro l a6 ⟨A,rfl,c1,h⟩;obtain⟨c5,b2,c7,c6,rfl,-,-,HL⟩:=c1;have i:(cU (cJ f)).length=(cJ f).length:=by simp[cU]
  rw[i];obtain⟨p,c⟩:=M ((cJ f).length);rw[<-c];have HL2:=Z c;have l:p<=64:=by rw[c];exact kU f
  have a7:=(r.step h);have a2:=(h.aB IB id);have a9:N (∀(d:E)(l:T),(cU (cJ f))[d]? =S l->¬b2=e):=Z (λd s r l=>(HL.uQ r).ne (⟨_,_,a2⟩:fE 418 a6 e) J l);clear i c h;go_wp2;go_loopg [7,9,22] p (λgk s7 s9 v wr=>∃(d i:E)(h:L E),d+gk=p/\v=I d/\s7=.int .u64 (i:E)/\((cJ f).take d).foldl (jZ a b g) (0,o)=(i,h)/\Ib wr e 418 h/\bT e a6 wr)
  .exact⟨0,0,o,du,Y,Y,Y,a2,rF⟩
  case round=>
   (obtain⟨d,i,h,w,rfl,rfl,c,s,x⟩:=hrel;have⟨HJ,a1⟩:=bD w c;have l:d<=p:=O;have r:h.length=64:=by have l:=EG a b g ((cJ f).take d) (0,o);rw[c] at l;simp only at l;rw[l];exact n.len);(have b0:=Z r;have l:i<2 ^ a:=by have A:=KW b g ((cJ f).take d) (0,o) (oa a);rwa[c] at A);have b8:=jd l (lj (n:=2) J u);have FT:=(a7.trans x (λ_ _ A=>A) (λ_ _ A=>A));clear w c l r;by_cases l:d<p
   .obtain⟨c,Q⟩:∃l,(cJ f)[d]? =S l:=⟨_,cF An⟩
    (have c3:=EJ n.fr (bQ Q);have U:(cU (cJ f))[d]? =S (c:T):=by simp[cU,Q]);(obtain rfl:=HL.addr U;have l:=x.aF (HL.int U) (a9.1 _ _ U);have a5:N (((cJ f).take (d+1)).foldl (jZ a b g) (0,o)=jZ a b g (i,h) c):=Z (by rw[bJ Q,mf,a1.1];rfl);obtain⟨G,l⟩:=M (h.getD c 0);have r:wr.cell? (H e c)=S (I G):=by rw[l];exact s.cell (oB b0.1));have r:wr.frozen? (H e c)=δ:=aG s _;have a0:=Z l;have⟨p,r⟩:=dy d p;have⟨p,r⟩:=dy c a;have p:(c:T)<64:=O;clear l;by_cases V:G=0
    .subst V
     (obtain⟨w,l⟩:=M (row a (eA b) c);have b1:=Z l;have p:w<18446744073709551616:=l▸dW u;have r:(wr.setCell (H e c) (I g)).cell? (H y (z+c))=S (.int .u64 (w:E)):=by rw[l];exact(K.f ((C.keep FT (λv r=>by have:=m.1;omega)).cN (H e c) (by have:=m.1;show _<=e;omega) _)).u64 (cL c3));have e:(wr.setCell (H e c) (I g)).cell? (H k.heap.size 1)=S (.slice (S (H y z)) a a3):=aj (bi (FT.aB B (λr=>by have:=m.1;omega)) _ (by have:=m.1;show ¬k.heap.size=e;omega) _) 1;clear l;(go_wp);refine aZ.nm (λW e=> ?_);have F:=Z e;clear e;refine sg (ui i w wr.heap.size b8 p W (by rw[F.1];exact bM sI)) ?_;rintro e k ⟨rfl,rfl⟩;have b9:(jZ a b g (i,h) c=(i|||w,h.set c g)):=(by unfold jZ;simp only;rw[aS a0.1.symm,b1.1]);go_wp2;go_roundg (gk-1)
     .exact⟨d+1,i|||w,h.set c g,oB HJ.1,by go_num,Y,by rw[a5.1,b9],by rw[F.1];exact aC (s.set c g) _,by rw[F.1];exact(x.aK c _).alloc _⟩
     have:=HJ.1;omega
    (have e:((G:T)==0)=δ:=by rw[wC];simpa using V);have F:(jZ a b g (i,h) c=(i,h)):=(by unfold jZ;simp only;rw[aR (by rw[<-a0.1];exact V)]);go_wp2;go_roundg (gk-1)
    .exact⟨d+1,i,h,oB HJ.1,by go_num,Y,by rw[a5.1,F],s,x⟩
    have:=HJ.1;omega
   have c:(ji a b g f o=(i,h)):=(by have a:=a1.1;rwa[dq An] at a);go_wp2;go_roundg b4
   .exact⟨g+1,i,h,Y,by go_num,by have a:=P;rwa[Qo t,c] at a,by have a:=n.round u;rwa[c] at a,by have a:=Kt u n t;rw[c] at a;have b:=HRN;simp only at a;omega,oB b7,s,FT⟩
   omega
theorem Ta(c d)(r:c<=64)(a b)(s:a<c)(y:b<c)(e i)(o:iM c d e i):
  dr 279 #[i,I a,I b] e (.bool (d a b)):=by
 have RR:=Z (λf(g:Fr j e f)=>jr c d r f i (o.fr g));obtain⟨B,rfl,x⟩:=o;obtain⟨A,n,t,w,rfl,-,-,p⟩:=x;rw[bY] at*;obtain rfl:=p.addr (cL s);have v:=s;have i:(row c d a).testBit b=d a b:=by rw[row,bR];simp[y]
 obtain⟨g,f⟩:=M (row c d a);have m:N (∀h,aQ 272 #[.int .u64 (g:E),I b] h λl k=>l=.returned (.bool (d a b))/\h=k):=Z (λh=>by
  have:=KL g b (f▸dW r) O h;rwa[show g.testBit b=d a b from by rw[f];exact i] at this)
 have u:=Z f;generalize b:d a b=q at m |-;have⟨d,o⟩:=dy a c;clear i f b
 delta dr aQ;go_in
 go_wp2_with fail;refine aZ.nm (λd b=> ?_);have f:Fr j e d:=(b▸(Fr.refl j e).alloc _);have k:N (aY d e.heap.size #[I c,.slice (S (H n t)) c w] 355):=Z (b▸bM Y);clear b;refine sg (RR.1 d f) ?_;rintro b z ⟨rfl,h⟩;have l:=(f.step h);have b:=Z (h.hs k.1);clear f k h;have c:=bx b.1;have b:=dh b.1;have a:z.cell? (H n (t+a))=S (.int .u64 (g:E)):=by rw[u.1];exact(p.f l).u64 (cL v)
 go_wp2_with fail;clear c b;clear a;refine sg (m.1 _) ?_;rintro a b ⟨rfl,rfl⟩;go_wp2;go_ret;exact⟨dR sI,l⟩
def zC(a:E×E):L ζ:=[I (a.1:T),I (a.2:T)]
theorem adK:dK prog 453 456 2 16:=dK.of underlying453 (z:=.agg #[aI,aI]) kR Y J
theorem JS:dU (λ_=>False) (Pl zC):=Pl.aJ _ _
def dQ(c:E)(b:Rl)(a:E):L (E×E):=(L.range a).flatMap (λa=>(cJ (row c b a)).map (λb=>(a,b)))
theorem xL(c b a):dQ c b (a+1)=dQ c b a++(cJ (row c b a)).map (λb=>(a,b)):=by simp[dQ,nE]
theorem qe(b a):∀c,(dQ b a c).length<=64*c
 |0=>by simp[dQ]
 |c+1=>by
  rw[xL,cA,eo]
  have:=qe b a c
  have:=kU (row b a c);omega
theorem Hn(b c)(U:b<=64)(l)(a0:Gl l)(y)(R:iM b c l y):
  aQ 313 #[y] l λv C=>∃V,v=.returned V/\Sl 456 2 (Pl zC) C V (dQ b c b)/\Fr j l C:=by
 have RR:=Z (λC(V:Fr j l C)=>jr b c U C y (R.fr V));obtain⟨c0,rfl,m⟩:=R;obtain⟨a3,o,b6,a8,rfl,-,-,K⟩:=m;rw[bY] at*;go_enter func313,ntmps313;go_wp2_with (go_at_call 312;refine stop ?_);refine aZ.nm (λC y=> ?_);have u:Fr j l C:=(y▸(Fr.refl j l).alloc _);have F:N (aY C l.heap.size #[I b,.slice a3 b a8] 355):=Z (y▸bM Y);clear y;refine sg (RR.1 C u) ?_;rintro v D ⟨rfl,w⟩;have G:=(u.step w);have l:=Z (w.hs F.1);clear u F w;have u:=dh l.1;go_wp2_with fail;clear u;obtain⟨s,l⟩:=M D.heap.size;have P:=Z l;clear l;go_loopg [3,14] b (λgk s3 B wr=>∃(a:E)(i:L (L ζ)),a+gk=b/\B=I a/\cC s 456 2 (Pl zC) wr s3 (dQ b c a) i/\Fr j D wr)
 .exact⟨0,[],du,Y,qG,rF⟩
 case round=>
  obtain⟨a,i,HK,rfl,f,h⟩:=hrel;have l:a<=b:=O;obtain⟨k,g⟩:=M ((dQ b c a).length);have b3:k<=64*a:=g▸qe b c a;obtain⟨a5,a9,rfl,-,-⟩:=f.shape g.symm;have Q:=Z g;clear g;by_cases r:a<b
  .have l:=r
   (have⟨l,u⟩:=dy a b;obtain rfl:=K.addr (cL r);obtain⟨b8,b5⟩:=M wr;subst b5;obtain⟨b1,b2⟩:=M gk;subst b2;have l:=(G.step h);obtain⟨d,m⟩:=M (row b c a);have u:b8.cell? (H o (b6+a))=S (.int .u64 (d:E)):=by rw[m];exact(K.f l).u64 (cL r));have a1:=Z m;have w:d<18446744073709551616:=m▸dW U;clear m r;go_wp2_with (go_at_call 271;refine stop ?_);(clear u;refine sg (rJ d w _ (a0.fr l)) ?_;rintro v m ⟨l,rfl,b4,x⟩;obtain⟨a4,a7,b7,b9,rfl,-,-,HL⟩:=b4;have m:(cU (cJ d)).length=(cJ d).length:=by simp[cU]);(rw[m];obtain⟨n,l⟩:=M ((cJ d).length);rw[<-l];have HL2:=Z l;have r:n<=64:=by rw[l];exact kU d);have W:=(h.step x);have a2:=(f.fr JS x);clear m l x;go_wp2_with fail;go_loopg [3,22] n (λgk s3 B wr=>∃(e:E)(i:L (L ζ)),e+gk=n/\B=I e/\cC s 456 2 (Pl zC) wr s3 (dQ b c a++((cJ d).take e).map (λo=>(a,o))) i/\Fr j D wr/\fF 3 1 CI wr a4 a7 b7 (cU (cJ d)))
   .exact⟨0,i,du,Y,by rw[L.take_zero,nu,lh];exact a2,W,HL⟩
   case round=>
    (obtain⟨e,i,HJ,rfl,f,h,HS⟩:=hrel;have l:e<=n:=O;obtain⟨k,g⟩:=M ((dQ b c a++((cJ d).take e).map (λo=>(a,o))).length);have b3:k<=64*a+64:=by have l:=qe b c a;rw[g,cA,eo,cV];omega);obtain⟨a6,b0,rfl,-,-⟩:=f.shape g.symm;have Q:=Z g;clear g;by_cases g:e<n
    .obtain⟨p,z⟩:∃p,(cJ d)[e]? =S p:=⟨_,cF An⟩
     (have A:(cU (cJ d))[e]? =S (p:T):=by simp[cU,z]);obtain rfl:=HS.addr A;have o:=HS.int A;have l:=Z z;have⟨d,g⟩:=dy e n;have d:(k+1)*16<=140737488355328:=O;have g:k+1<=maxLen:=mL;clear z A;go_wp2_with (at_builtin;refine stop ?_);refine aZ.go (bH Y (.tmp 26) (.tmp 30) Y adK k Q.1.symm Y (f.fr JS (tC.alloc _)) JS id ((a,p):E×E) Y Y (eF.block (cs:=#[I a,I p]) (bM Y) oC) (λ_ _=>Y) d g ?p6 ?p7)
     case p6=>have:=h.size;have:=P.1;simp;omega
     case p7=>
      intro g n p m d _ _;have g:=(d.fr (gh P.1.symm) (h.alloc _));have n:=((HS.fr da ((Fr.refl j wr).alloc _)).beside da (f.fr JS ((Fr.refl j wr).alloc _)) d J id);clear d f h HS o;go_wp2;go_roundg (gk-1)
      .exact⟨e+1,_,O,by go_num,by rw[bJ l.1,nO,<-dm];exact m,g,n⟩
      omega
    have t:cC s 456 2 (Pl zC) wr (.slice a6 k b0) (dQ b c (a+1)) i:=(by
     have:=f;rw[dq An] at this;rw[xL,<-a1.1];exact this)
    go_wp2;go_roundg (b1-1)
    .exact⟨a+1,i,O,by go_num,t,h⟩
    omega
  have t:Sl 456 2 (Pl zC) wr (.slice a5 k a9) (dQ b c b):=(by have:=f.read;rwa[show a=b from by omega] at this);have X:=(G.step h);go_wp2;go_ret;exact⟨_,Y,t,X⟩
end Go.Proofs.YtecdpehmhpleeaaGreatDoor
