/-
  Texts put together: Open, OpenRows, OpensH, Tied, OpenConf.
-/
import Derived.Test.YtdeihcnepljjaaaGreatDoorPt5
import Derived.Test.YtdeihcnepljjaaaGreatDoorRows
import Derived.Test.YtdeihcnepljjaaaGreatDoorQBase
import Derived.OpenShut
import Derived.ShutString
import Derived.ChangeOld
import Derived.Deep.Slices
import Derived.Test.YtdeihcnepljjaaaGreatDoorTie
import Derived.Test.YtdeihcnepljjaaaGreatDoorCards
import Derived.ProofKit
import Derived.LaidMore
import Derived.Lay
import Derived.SevenTiedAt
import Derived.Stop.Joined
set_option linter.unusedVariables false
set_option maxRecDepth 100000
namespace Go.Proofs.YtdeihcnepljjaaaGreatDoor
open Go.RowKit
open Bool renaming and_eq_true->XI
open List renaming getElem?_eq_some_iff->XC,getElem?_eq_getElem->XD,getElem?_map->XO,length_take->XX,mem_of_mem_take->ZB,getD->QX
open Nat renaming le_refl->XF,mul_one->ZS
open Option renaming map_some->QZ
open Go.Proofs.Tryz (prog)
variable {A:Ar}{V:ArV}{c:Conf}{l':IL}{ahead by' cS cH size cN u who z:Int}{lg:List (Nat×List Nat)}{th:List (Option ThM)}{ps:List IL}{bs l p zs:List Int}{l2 ws:List Nat}{cs rest xs:List Value}{mo:Mo}{N at' b base cap d fuel g i j k lm lo m n o qb sz t tm ty vb xb y:Nat}{e:Nat×List Int}{fz:Nat×Nat}{f:Nat->Int}{G:Nat->Pg}{B C F F' Fr Q S S' T xX:Nat->Prop}{pd pd2:Option (Nat×PlcM)}{a:Option Addr}{pg:PgL}{pl':PlM}{q:Plc}{R:Rm}{M:RmM}{r:SR}{x x':Sm}{s s':StM}{P:A7}{α:Type}{v:Value}{w w' w'' w0 w1 w2:World}{cells:α->List Value}
theorem own:ownKnob prog.godebug=none:=xK
theorem laidOut:laidOutB prog=true:=xK
section
open Go.ChangeShapes Go.WideShapes Go.ChangeAt Go.RowKit
theorem Xkt{n:Int}(h:(Lit.int .u8 n).wf=true):0<=n/\n<256:=by
 have a:0<=n/\n<=255:=by simp only[Lit.wf,XI,decide_eq_true_eq] at h;exact h
 omega
theorem Uu{n:Int}(h:(Lit.int .i64 n).wf=true):-9223372036854775808<=n/\n<=9223372036854775807:=by
 simp only[Lit.wf,XI,decide_eq_true_eq] at h;exact h
section
variable {H:Type}{enc:TypeId×Value->H}{w:World}{base b0:Nat}{r:Go.Reach}{spare:Nat->Bool}{held:Bool}{P:Program}
theorem Xod{w:World}{off:Nat}{q:Option _}(h:w.cell? ⟨b,off,q⟩=some v):q=none:=by
 cases q with
 |none=>rfl
 |some q=>
  exfalso
  simp only[World.cell?] at h;split at h <;> simp at h
theorem Xlt{Ok:α->Prop}{e:Nat}{x:DataW H×List MemPlace}(ht:P.underlying t=some (.slice e))(hsz:P.cellsOf e=sz)(h0:0<sz)(hopen:∀n cs y,DataW.trod enc P w base spare held n e cs=some y -> ∃v,cs=cells v/\Ok v)(h:DataW.trod enc P w base spare held fuel t cs=some x):∃a cap xs,cs=[.slice a xs.length cap]/\Rows cells sz w a xs/\(∀x∈xs,Ok x)/\xs.length<=cap/\cap<=maxLen:=by
 rcases Go.Deep.open_slice ht h with⟨d,_⟩|⟨a,len,cap,m,n,D,Pl,d,_,B,hm,r,_,hi⟩
 .exact⟨none,0,[],d,(λi x c=>by simp at c),(λx c=>by cases c),XF _,xD⟩
 .have I:len<=m:=by rw[r];split <;> omega
  have g:∀i:Fin len,∃v,Ok v/\w.cells? base (a.add (i*sz)) sz=some (cells v):=λi=>by
   obtain⟨cs',o,C⟩:=hi i X;obtain⟨v,rfl,s⟩:=hopen n cs' _ C;rw[hsz] at o;exact⟨v,s,o⟩
  let f:Fin len->α:=λi=>Classical.choose (g i)
  have hf:∀i,Ok (f i)/\w.cells? base (a.add (i*sz)) sz=some (cells (f i)):=λi=>Classical.choose_spec (g i);have k:(List.ofFn f).length=len:=List.length_ofFn;refine⟨some a,cap,List.ofFn f,by rw[k];exact d,λi x c=>?_,λx c=>?_,by rw[k];exact B,hm⟩
  .rw[List.getElem?_ofFn] at c;split at c
   .rename_i u
    cases c
    obtain⟨_,J,z⟩:=World.cells?_some (hf ⟨i,u⟩).2;have A:=hi 0 X;obtain⟨K,o,_⟩:=A;obtain⟨_,E,p⟩:=World.cells?_some o;have l:=p 0 X;obtain⟨b,off,q⟩:=a;have F:q=none:=by
     rw[XD X] at l;simp only[Nat.zero_mul,Addr.add,if_true] at l;exact Xod l
    subst F;refine⟨b,off,rfl,λj v g=>?_⟩;have G:j<sz:=by
     have:=(XC.1 g).1;omega
    have:=z j G;rw[g,C0,C0] at this;exact this
   .cases c
  .rw[List.mem_ofFn] at c;obtain⟨i,rfl⟩:=c;exact(hf i).1
end
end
section
open Go.ChangeShapes Go.WideShapes Go.ChangeAt Go.RowKit
section
variable {H:Type}{enc:TypeId×Value->H}{w:World}{base b0:Nat}{r:Go.Reach}{spare:Nat->Bool}{held:Bool}
theorem Xlq{x:DataW H×List MemPlace}(h:DataW.trod enc prog w base spare held fuel 30 cs=some x):∃a cap zs,cs=[.slice a zs.length cap]/\Rd .u8 w a zs/\Qo zs/\zs.length<=cap/\cap<=maxLen:=by
 rcases open_ints (P:=prog) Tryz.underlying30 Tryz.underlying5 xK h with⟨g,_⟩|⟨x,l,c,zs,g,_,r,hm,s,_,f,m⟩
 .exact⟨none,0,[],g,Rd.nil _ _ _,(by intro x t;cases t),XF _,xD⟩
 .have d:(zs.take l).length=l:=by
   rw[XX,s];split <;> omega
  refine⟨some x,c,zs.take l,by rw[d];exact g,?_,λn u=>Xkt (m n (ZB u)),by rw[d];exact r,hm⟩;intro i hi;rw[d] at hi;have o:i<zs.length:=by rw[XX] at d;omega
  have k:=f i o;have j:=f 0 X;obtain⟨b,off,spot⟩:=x;cases spot with
  |none=>
   refine⟨b,off,rfl,?_⟩;rw[show(zs.take l).getD i 0=zs.getD i 0 from by simp[QX,hi]];unfold Addr.add at k;by_cases p:i=0
   .subst p;exact k
   .rw[bJ p] at k;exact k
  |some q=>
   exfalso
   simp only[World.cell?,Addr.add,if_true] at j;split at j <;> simp at j
theorem Xls{x:DataW H×List MemPlace}(h:DataW.trod enc prog w base spare held fuel 52 cs=some x):∃u,cs=Et u/\I2 w u:=by
 obtain⟨xs,n,_,_,j,b,a⟩:=DataW.trod_struct (P:=prog) Tryz.underlying52 h
 clear h
 match xs,b,cs,j with
 |[D,E,F,G,I],_,[J,K,L,M,N],_=>
  obtain⟨k,l,_,m⟩:=DataW.trod_int (P:=prog) Tryz.underlying3 (a 0 _ rfl);obtain⟨o,e1,_,p⟩:=DataW.trod_int (P:=prog) Tryz.underlying3 (a 1 _ rfl);obtain⟨q,e2,_,r⟩:=DataW.trod_int (P:=prog) Tryz.underlying3 (a 2 _ rfl);obtain⟨s,e3,_,t⟩:=DataW.trod_int (P:=prog) Tryz.underlying3 (a 3 _ rfl);obtain⟨v,y,z,e4,A,B,C,O⟩:=Xlq (a 4 _ rfl);have hm:maxLen<=9223372036854775807:=xD
  have c:=l;have d:=e1;have f:=e2;have g:=e3;have i:=e4;cases c;cases d;cases f;cases g;cases i
  exact⟨⟨k,o,q,s,z,v,y⟩,rfl,⟨Uu m,Uu p,Uu r,Uu t,A,B,C,xP⟩⟩
theorem open_ops23{d:DataW H}{ps:List MemPlace}(hval:Value.okWide prog w r b0 25 v)(h:DataW.Trod enc prog w base spare held 25 v d ps):∃a cap xs,v=.slice a xs.length cap/\Rows Et 5 w a xs/\(∀x∈xs,I2 w x)/\xs.length<=9223372036854775807:=by
 obtain⟨a,len,cap,rfl⟩:=okWide_slice Tryz.underlying25 hval;obtain⟨fuel,hf⟩:=h;obtain⟨a',cap',xs,b,hr,c,i,hm⟩:=Xlt (P:=prog) (cells:=Et) (Ok:=I2 w) (sz:=5) Tryz.underlying25 xK xD (λn cs y f=>Xls f) hf;have e:=b;cases e
 have g:maxLen<=9223372036854775807:=xD
 exact⟨a,cap,xs,rfl,hr,c,X⟩
end
end
section
open Go.ChangeShapes Go.WideShapes Go.ChangeAt Go.RowKit
def laidL:List (String × DataW Unit) := [("math/bits.deBruijn64tab", Rows.laid_math_bits_deBruijn64tab)]
theorem Xky:(Rows.laid_math_bits_deBruijn64tab:DataW Unit)=.agg (Kn.map λn:Nat=>.lit (.int .u8 (n:Int))):=by rfl
theorem tab_of_laid{xW:World}(h:laidMetH prog laidL xW):Bk xW:=λr hr=>by
 rw [MakeChecks.laidMetH_plain _ _ _ (by kernel_rfl)] at h;obtain ⟨ps,⟨g,t,cs,fuel,p,q,a,ht,f,b,_,_⟩,_,_⟩:=h;obtain rfl := Option.some.inj ((show prog.globalNamed "math/bits.deBruijn64tab" = some 1 by kernel_rfl).symm.trans a)
 obtain rfl:=Option.some.inj ((show(prog.globals[1]?).map (·.type)=some 386 by kernel_rfl).symm.trans ht);rw[Xky] at b;obtain⟨xs,m,_,ex,_,o,c⟩:=DataW.trod_array Tryz.underlying386 b;have i:prog.cellsOf 5=1:=xK
 have d:=c r hr;rw[i,ZS,XD X] at d;obtain⟨z,e1,e2,_⟩:=DataW.trod_int Tryz.underlying5 d;have j:Kn.length=64:=rfl;have e4:(xs.map (·.1))[r]?=(Kn.map λn:Nat=>(DataW.lit (.int .u8 (n:Int)):DataW Unit))[r]?:=by rw[((DataW.agg.inj (Prod.mk.inj ex).1).symm)]
 rw[XO,XO,XD (by omega:r<xs.length),XD (by omega:r<Kn.length),e2] at e4;have k:z=(Kn.getD r 0:Nat):=by
  simp only[QZ,Option.some.injEq,DataW.lit.injEq,Lit.int.injEq,true_and] at e4;rw[e4,QX,XD (by omega:r<Kn.length)];rfl
 rw[World.var?_cell a f r,<-k];have:cs.toList[r]?=some (.int .u8 z):=by
  have l:((cs.toList.drop r).take 1)[0]?=some (.int .u8 z):=by rw[e1];rfl
  simpa using l
 simpa using this
end
section
open Go.ChangeShapes Go.WideShapes Go.ChangeAt Go.RowKit
theorem Xfa{n:Int}(h:(Lit.int .i64 n).wf=true):Oc n:=by
 simp only[Lit.wf,XI,decide_eq_true_eq] at h;exact h
section
variable {H:Type}{enc:TypeId×Value->H}{w:World}{base:Nat}{spare:Nat->Bool}{held:Bool}
theorem XfU{x:DataW H×List MemPlace}(h:DataW.trod enc prog w base spare held fuel 22 cs=some x):∃a cap zs,cs=[.slice a zs.length cap]/\Rd .i64 w a zs/\zs.length<=cap/\cap<=maxLen/\∀n∈zs,Oc n:=by
 rcases open_ints (P:=prog) Tryz.underlying22 Tryz.underlying3 xK h with⟨g,_⟩|⟨x,l,c,zs,g,_,r,hm,s,_,f,m⟩
 .exact⟨none,0,[],g,Rd.nil _ _ _,XF _,xD,λ_ h=>by cases h⟩
 .have d:(zs.take l).length=l:=by
   rw[XX,s];split <;> omega
  refine⟨some x,c,zs.take l,by rw[d];exact g,?_,by rw[d];exact r,hm,λn t=>Xfa (m n (ZB t))⟩;intro i hi;rw[d] at hi;have o:i<zs.length:=by rw[XX] at d;omega
  have k:=f i o;have j:=f 0 X;obtain⟨b,off,spot⟩:=x;cases spot with
  |none=>
   refine⟨b,off,rfl,?_⟩;rw[show(zs.take l).getD i 0=zs.getD i 0 from by simp[QX,hi]];unfold Addr.add at k;by_cases p:i=0
   .subst p;exact k
   .rw[bJ p] at k;exact k
  |some q=>
   exfalso
   simp only[World.cell?,Addr.add,if_true] at j;split at j <;> simp at j
theorem open_conf{d:DataW H}{ps:List MemPlace}(hval:∃cs,v=.agg cs)(h:DataW.Trod enc prog w base spare held 24 v d ps):∃c p,v=.agg (X5 c p).toArray/\Yd w c p/\c.bV.length<=p.kc:=by
 obtain⟨cs,rfl⟩:=hval;obtain⟨fuel,hf⟩:=h;obtain⟨xs,n,_,_,r,b,a⟩:=DataW.trod_struct (P:=prog) Tryz.underlying24 hf
 clear hf
 obtain⟨cl,rfl⟩:∃l:List Value,cs=l.toArray:=⟨cs.toList,xS⟩
 match xs,b,cl,r with
 |[O,Q,R,S,T,U,V,x7],_,[c0,c1,c2,c3,c4,c5,c6,c7],_=>
  obtain⟨s,t,_,u⟩:=DataW.trod_int (P:=prog) Tryz.underlying3 (a 0 _ rfl);obtain⟨x,e1,_,g1⟩:=DataW.trod_int (P:=prog) Tryz.underlying3 (a 1 _ rfl);obtain⟨y,z,A,e2,B,l2,m2,_⟩:=XfU (a 2 _ rfl);obtain⟨C,D,E,e3,F,G,m3,_⟩:=XfU (a 3 _ rfl);obtain⟨I,e4,_,g4⟩:=DataW.trod_int (P:=prog) Tryz.underlying3 (a 4 _ rfl);obtain⟨J,e5,_,g5⟩:=DataW.trod_int (P:=prog) Tryz.underlying3 (a 5 _ rfl);obtain⟨K,L,_,g6⟩:=DataW.trod_int (P:=prog) Tryz.underlying3 (a 6 _ rfl);obtain⟨M,N,_,g7⟩:=DataW.trod_int (P:=prog) Tryz.underlying3 (a 7 _ rfl);have hm:maxLen<=9223372036854775807:=xD
  refine⟨⟨s,x,A,E,I,J,K,M⟩,⟨y,z,C,D⟩,?_,⟨B,F,xP,xP,Xfa u⟩,G⟩;have f:=t;have g:=e1;have i:=e2;have j:=e3;have k:=e4;have m:=e5;have o:=L;have q:=N;cases f;cases g;cases i;cases j;cases k;cases m;cases o;cases q
  rfl
end
end
end Go.Proofs.YtdeihcnepljjaaaGreatDoor
