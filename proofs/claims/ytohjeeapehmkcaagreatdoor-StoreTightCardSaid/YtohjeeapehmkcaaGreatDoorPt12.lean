/-
  Texts put together: Open, OpenRows, OpensSt, Tied, OpenConf.
-/
import Derived.Test.YtohjeeapehmkcaaGreatDoorPt11
import Derived.Test.YtohjeeapehmkcaaGreatDoorRows
import Derived.Test.YtohjeeapehmkcaaGreatDoorQBase
import Derived.OpenShut
import Derived.ShutString
import Derived.ChangeOld
import Derived.Deep.Slices
import Derived.Test.YtohjeeapehmkcaaGreatDoorTie
import Derived.Test.YtohjeeapehmkcaaGreatDoorCards
import Derived.ProofKit
import Derived.LaidMore
import Derived.Lay
import Derived.SevenTiedAt
import Derived.Stop.Joined
set_option linter.unusedVariables false
set_option maxRecDepth 100000
namespace Go.Proofs.YtohjeeapehmkcaaGreatDoor
open Go.RowKit
open Bool renaming and_eq_true->XJ
open List renaming getElem?_eq_getElem->XB,getElem?_map->XR,mem_of_mem_take->XT,length_take->XU,getD->QN
open Nat renaming le_refl->XE,mul_one->ZK
open Option renaming map_some->QO
open Go.Proofs.Tryz (prog)
variable {A:Ar}{V:ArV}{c:Conf}{l':IL}{ahead by' size u who z:Int}{lg:List (Nat×List Nat)}{th:List (Option ThM)}{ps:List IL}{bs l p zs:List Int}{l2 ws:List Nat}{cs rest xs:List Value}{mo:Mo}{m:MvM}{N at' b base cap fuel g i j k len lm lo n n0 o off sz t tm vb xb y:Nat}{e:Nat×List Int}{fz:Nat×Nat}{f:Nat->Int}{G:Nat->Pg}{B C F F' Fr S S' T:Nat->Prop}{pd pd2:Option (Nat×PlcM)}{a:Option Addr}{pg:PgL}{P:Pl}{pl':PlM}{q:Plc}{R:Rm}{M:RmM}{r r1:SR}{x x':Sm}{s s':StM}{α:Type}{v:Value}{w w' w0 w1 w2:World}
theorem own:ownKnob prog.godebug=none:=by kernel_rfl
theorem laidOut:laidOutB prog=true:=by kernel_rfl
section
open Go.ChangeShapes Go.WideShapes Go.ChangeAt Go.RowKit
theorem Xea{n:Int}(h:(Lit.int .u8 n).wf=true):0<=n/\n<256:=by
 have a:0<=n/\n<=255:=by simp only[Lit.wf,XJ,decide_eq_true_eq] at h;exact h
 omega
theorem inI64_of_wf{n:Int}(h:(Lit.int .i64 n).wf=true):-9223372036854775808<=n/\n<=9223372036854775807:=by
 simp only[Lit.wf,XJ,decide_eq_true_eq] at h;exact h
section
variable {H:Type}{enc:TypeId×Value->H}{w:World}{base b0:Nat}{r:Go.Reach}{spare:Nat->Bool}{held:Bool}{P:Program}
theorem Xmq{w:World}{q:Option _}(h:w.cell? ⟨b,off,q⟩=some v):q=none:=by
 cases q with
 |none=>rfl
 |some q=>
  exfalso
  simp only[World.cell?] at h;split at h <;> simp at h
theorem Xj1{cells:α->List Value}{Ok:α->Prop}{e:Nat}{x:DataW H×List MemPlace}(ht:P.underlying t=some (.slice e))(hsz:P.cellsOf e=sz)(h0:0<sz)(hopen:∀n cs y,DataW.trod enc P w base spare held n e cs=some y -> ∃v,cs=cells v/\Ok v)(h:DataW.trod enc P w base spare held fuel t cs=some x):∃a cap xs,cs=[.slice a xs.length cap]/\Rows cells sz w a xs/\(∀x∈xs,Ok x)/\xs.length<=cap/\cap<=maxLen:=by
 rcases Go.Deep.open_slice ht h with⟨d,_⟩|⟨a,len,cap,m,n,D,Pl,d,_,E,F,r,_,hi⟩
 ·exact⟨none,0,[],d,(λi x c=>by simp at c),(λx c=>by cases c),XE _,by decide⟩
 ·have L:len<=m:=by rw[r];split <;> omega
  have g:∀i:Fin len,∃v,Ok v/\w.cells? base (a.add (i*sz)) sz=some (cells v):=λi=>by
   obtain⟨cs',o,G⟩:=hi i (by omega);obtain⟨v,rfl,s⟩:=hopen n cs' _ G;rw[hsz] at o;exact⟨v,s,o⟩
  let f:Fin len->α:=λi=>Classical.choose (g i)
  have u:∀i,Ok (f i)/\w.cells? base (a.add (i*sz)) sz=some (cells (f i)):=λi=>Classical.choose_spec (g i);have k:(List.ofFn f).length=len:=List.length_ofFn;refine⟨some a,cap,List.ofFn f,by rw[k];exact d,λi x c=>?_,λx c=>?_,by rw[k];exact E,F⟩
  ·rw[List.getElem?_ofFn] at c;split at c
   ·rename_i z
    cases c
    obtain⟨_,M,B⟩:=World.cells?_some (u ⟨i,z⟩).2;have C:=hi 0 (by omega);obtain⟨N,o,_⟩:=C;obtain⟨_,I,p⟩:=World.cells?_some o;have l:=p 0 (by omega);obtain⟨b,off,q⟩:=a;have J:q=none:=by
     rw[XB (by omega)] at l;simp only[Nat.zero_mul,Addr.add,if_true] at l;exact Xmq l
    subst J;refine⟨b,off,rfl,λj v g=>?_⟩;have K:j<sz:=by
     have:=(List.getElem?_eq_some_iff.1 g).1;omega
    have:=B j K;rw[g,Cl,Cl] at this;exact this
   ·cases c
  ·rw[List.mem_ofFn] at c;obtain⟨i,rfl⟩:=c;exact(u i).1
end
end
section
open Go.ChangeShapes Go.WideShapes Go.ChangeAt Go.RowKit
section
variable {H:Type}{enc:TypeId×Value->H}{w:World}{base b0:Nat}{r:Go.Reach}{spare:Nat->Bool}{held:Bool}
theorem XjZ{x:DataW H×List MemPlace}(h:DataW.trod enc prog w base spare held fuel 30 cs=some x):∃a cap zs,cs=[.slice a zs.length cap]/\Rd .u8 w a zs/\Qn zs/\zs.length<=cap/\cap<=maxLen:=by
 rcases open_ints (P:=prog) Tryz.underlying30 Tryz.underlying5 (by kernel_rfl) h with⟨f,_⟩|⟨x,l,c,zs,f,_,p,r,s,_,e,k⟩
 ·exact⟨none,0,[],f,Rd.nil _ _ _,(by intro x t;cases t),XE _,by decide⟩
 ·have d:(zs.take l).length=l:=by
   rw[XU,s];split <;> omega
  refine⟨some x,c,zs.take l,by rw[d];exact f,?_,λn u=>Xea (k n (XT u)),by rw[d];exact p,r⟩;intro i hi;rw[d] at hi;have m:i<zs.length:=by rw[XU] at d;omega
  have j:=e i m;have g:=e 0 (by omega);obtain⟨b,off,spot⟩:=x;cases spot with
  |none=>
   refine⟨b,off,rfl,?_⟩;rw[show(zs.take l).getD i 0=zs.getD i 0 from by simp[QN,hi]];unfold Addr.add at j;by_cases o:i=0
   ·subst o;exact j
   ·rw[if_neg o] at j;exact j
  |some q=>
   exfalso
   simp only[World.cell?,Addr.add,if_true] at g;split at g <;> simp at g
theorem XjY{x:DataW H×List MemPlace}(h:DataW.trod enc prog w base spare held fuel 49 cs=some x):∃u,cs=Fh u/\Ix w u:=by
 obtain⟨xs,n,_,_,i,b,a⟩:=DataW.trod_struct (P:=prog) Tryz.underlying49 h
 clear h
 match xs,b,cs,i with
 |[B,C,D,E,F],_,[G,I,J,K,L],_=>
  obtain⟨j,k,_,l⟩:=DataW.trod_int (P:=prog) Tryz.underlying5 (a 0 _ rfl);obtain⟨m,e1,_,M⟩:=DataW.trod_int (P:=prog) Tryz.underlying3 (a 1 _ rfl);obtain⟨o,e2,_,p⟩:=DataW.trod_int (P:=prog) Tryz.underlying3 (a 2 _ rfl);obtain⟨q,e3,_,r⟩:=DataW.trod_int (P:=prog) Tryz.underlying3 (a 3 _ rfl);obtain⟨s,t,v,e4,y,z,A,N⟩:=XjZ (a 4 _ rfl);have O:maxLen<=9223372036854775807:=by decide
  have c:=k;have d:=e1;have e:=e2;have f:=e3;have g:=e4;cases c;cases d;cases e;cases f;cases g
  exact⟨⟨j,m,o,q,v,s,t⟩,rfl,⟨Xea l,inI64_of_wf p,inI64_of_wf r,y,z,A,by simp only;omega⟩⟩
theorem open_acts22{d:DataW H}{ps:List MemPlace}(hval:Value.okWide prog w r b0 25 v)(h:DataW.Trod enc prog w base spare held 25 v d ps):∃a cap xs,v=.slice a xs.length cap/\Rows Fh 5 w a xs/\(∀x∈xs,Ix w x)/\xs.length<=9223372036854775807:=by
 obtain⟨a,len,cap,rfl⟩:=okWide_slice Tryz.underlying25 hval;obtain⟨fuel,c⟩:=h;obtain⟨a',cap',xs,b,f,g,k,l⟩:=Xj1 (P:=prog) (cells:=Fh) (Ok:=Ix w) (sz:=5) Tryz.underlying25 (by kernel_rfl) (by decide) (λn cs y i=>XjY i) c;have e:=b;cases e
 have j:maxLen<=9223372036854775807:=by decide
 exact⟨a,cap,xs,rfl,f,g,by omega⟩
end
end
section
open Go.ChangeShapes Go.WideShapes Go.ChangeAt Go.RowKit
def laidL:List (String × DataW Unit) := [("math/bits.deBruijn64tab", Rows.laid_math_bits_deBruijn64tab)]
theorem Xi9:(Rows.laid_math_bits_deBruijn64tab:DataW Unit)=.agg (Js.map λn:Nat=>.lit (.int .u8 (n:Int))):=by rfl
theorem tab_of_laid{W:World}(h:laidMetH prog laidL W):Bb W:=λr e=>by
 rw [MakeChecks.laidMetH_plain _ _ _ (by kernel_rfl)] at h;obtain ⟨ps,⟨g,t,cs,fuel,p,q,a,f,i,b,_,_⟩,_,_⟩:=h;obtain rfl := Option.some.inj ((show prog.globalNamed "math/bits.deBruijn64tab" = some 0 by kernel_rfl).symm.trans a)
 obtain rfl:=Option.some.inj ((show(prog.globals[0]?).map (·.type)=some 326 by kernel_rfl).symm.trans f);rw[Xi9] at b;obtain⟨xs,m,_,ex,_,s,c⟩:=DataW.trod_array Tryz.underlying326 b;have j:prog.cellsOf 5=1:=by kernel_rfl
 have d:=c r e;rw[j,ZK,XB (by omega)] at d;obtain⟨z,e1,e2,_⟩:=DataW.trod_int Tryz.underlying5 d;have k:Js.length=64:=rfl;have e3:(xs.map (·.1))=Js.map λn:Nat=>.lit (.int .u8 (n:Int)):=(DataW.agg.inj (Prod.mk.inj ex).1).symm;have e4:(xs.map (·.1))[r]?=(Js.map λn:Nat=>(DataW.lit (.int .u8 (n:Int)):DataW Unit))[r]?:=by rw[e3]
 rw[XR,XR,XB (by omega:r<xs.length),XB (by omega:r<Js.length),e2] at e4;have l:z=(Js.getD r 0:Nat):=by
  simp only[QO,Option.some.injEq,DataW.lit.injEq,Lit.int.injEq,true_and] at e4;rw[e4,QN,XB (by omega:r<Js.length)];rfl
 rw[World.var?_cell a i r,<-l];have:cs.toList[r]?=some (.int .u8 z):=by
  have o:((cs.toList.drop r).take 1)[0]?=some (.int .u8 z):=by rw[e1];rfl
  simpa using o
 simpa using this
end
section
open Go.ChangeShapes Go.WideShapes Go.ChangeAt Go.RowKit
theorem Xd9{n:Int}(h:(Lit.int .i64 n).wf=true):Ld n:=by
 simp only[Lit.wf,XJ,decide_eq_true_eq] at h;exact h
section
variable {H:Type}{enc:TypeId×Value->H}{w:World}{base:Nat}{spare:Nat->Bool}{held:Bool}
theorem Xe1{x:DataW H×List MemPlace}(h:DataW.trod enc prog w base spare held fuel 22 cs=some x):∃a cap zs,cs=[.slice a zs.length cap]/\Rd .i64 w a zs/\zs.length<=cap/\cap<=maxLen/\∀n∈zs,Ld n:=by
 rcases open_ints (P:=prog) Tryz.underlying22 Tryz.underlying3 (by kernel_rfl) h with⟨f,_⟩|⟨x,l,c,zs,f,_,p,r,s,_,e,k⟩
 ·exact⟨none,0,[],f,Rd.nil _ _ _,XE _,by decide,λ_ h=>by cases h⟩
 ·have d:(zs.take l).length=l:=by
   rw[XU,s];split <;> omega
  refine⟨some x,c,zs.take l,by rw[d];exact f,?_,by rw[d];exact p,r,λn t=>Xd9 (k n (XT t))⟩;intro i hi;rw[d] at hi;have m:i<zs.length:=by rw[XU] at d;omega
  have j:=e i m;have g:=e 0 (by omega);obtain⟨b,off,spot⟩:=x;cases spot with
  |none=>
   refine⟨b,off,rfl,?_⟩;rw[show(zs.take l).getD i 0=zs.getD i 0 from by simp[QN,hi]];unfold Addr.add at j;by_cases o:i=0
   ·subst o;exact j
   ·rw[if_neg o] at j;exact j
  |some q=>
   exfalso
   simp only[World.cell?,Addr.add,if_true] at g;split at g <;> simp at g
theorem open_conf{d:DataW H}{ps:List MemPlace}(hval:∃cs,v=.agg cs)(h:DataW.Trod enc prog w base spare held 24 v d ps):∃c p,v=.agg (Zj c p).toArray/\Ys w c p/\c.keep.length<=p.kc:=by
 obtain⟨cs,rfl⟩:=hval;obtain⟨fuel,e⟩:=h;obtain⟨xs,n,_,_,I,b,a⟩:=DataW.trod_struct (P:=prog) Tryz.underlying24 e
 clear e
 have J:=a 0 _ rfl;have K:=a 1 _ rfl;have L:=a 2 _ rfl;have M:=a 3 _ rfl;have N:=a 4 _ rfl;have O:=a 5 _ rfl;have Q:=a 6 _ rfl;have R:=a 7 _ rfl;obtain⟨cl,rfl⟩:∃l:List Value,cs=l.toArray:=⟨cs.toList,by simp⟩;have f:cl.length=8:=I
 match xs,b,cl,f with
 |[x0,x1,x2,x3,x4,x5,x6,x7],_,[S,T,U,V,W,c5,c6,c7],_=>
  obtain⟨g,e0,_,g0⟩:=DataW.trod_int (P:=prog) Tryz.underlying3 J;obtain⟨i,e1,_,g1⟩:=DataW.trod_int (P:=prog) Tryz.underlying3 K;obtain⟨j,k,m,e2,g2,l2,m2,_⟩:=Xe1 L;obtain⟨o,q,r,e3,g3,l3,m3,_⟩:=Xe1 M;obtain⟨s,e4,_,g4⟩:=DataW.trod_int (P:=prog) Tryz.underlying3 N;obtain⟨t,e5,_,g5⟩:=DataW.trod_int (P:=prog) Tryz.underlying3 O;obtain⟨u,e6,_,g6⟩:=DataW.trod_int (P:=prog) Tryz.underlying3 Q;obtain⟨x,e7,_,g7⟩:=DataW.trod_int (P:=prog) Tryz.underlying3 R;have hm:maxLen<=9223372036854775807:=by decide
  refine⟨⟨g,i,m,r,s,t,u,x⟩,⟨j,k,o,q⟩,?_,⟨g2,g3,by simp only;omega,by simp only;omega,Xd9 g0⟩,l3⟩;have y : [S]=[.int .i64 g]:=e0;have z : [T]=[.int .i64 i]:=e1;have B : [U]=[.slice j m.length k]:=e2;have C : [V]=[.slice o r.length q]:=e3;have D : [W]=[.int .i64 s]:=e4;have E : [c5]=[.int .i64 t]:=e5;have F : [c6]=[.int .i64 u]:=e6;have G : [c7]=[.int .i64 x]:=e7;cases y;cases z;cases B;cases C;cases D;cases E;cases F;cases G
  rfl
end
end
end Go.Proofs.YtohjeeapehmkcaaGreatDoor
