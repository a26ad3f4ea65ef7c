/-
  Texts put together: Open, OpenRows, OpensH, Tied, OpenConf.
-/
import Derived.Test.YtgddpaiandefgaaGreatDoorPt5
import Derived.Test.YtgddpaiandefgaaGreatDoorRows
import Derived.Test.YtgddpaiandefgaaGreatDoorQBase
import Derived.OpenShut
import Derived.ShutString
import Derived.ChangeOld
import Derived.Deep.Slices
import Derived.Test.YtgddpaiandefgaaGreatDoorTie
import Derived.Test.YtgddpaiandefgaaGreatDoorCards
import Derived.ProofKit
import Derived.LaidMore
import Derived.Lay
import Derived.SevenTiedAt
import Derived.Stop.Joined
set_option linter.unusedVariables false
set_option maxRecDepth 100000
namespace Go.Proofs.YtgddpaiandefgaaGreatDoor
open Go.RowKit
theorem own:ownKnob Tryz.prog.godebug=none:=by kernel_rfl
theorem laidOut:laidOutB Tryz.prog=true:=by kernel_rfl
section
open Go.ChangeShapes Go.WideShapes Go.ChangeAt Go.RowKit
theorem Xix {n:Int} (h:(Lit.int .u8 n).wf=true):0≤n∧n<256:=by
 have a:0≤n∧n≤255:=by simp only [Lit.wf,Bool.and_eq_true,decide_eq_true_eq] at h; exact h
 omega
theorem Xiv {n:Int} (h:(Lit.int .i64 n).wf=true) : -9223372036854775808≤n∧n≤9223372036854775807:=by
 simp only [Lit.wf,Bool.and_eq_true,decide_eq_true_eq] at h;exact h
section
variable {H:Type} {enc:TypeId × Value→H} {w:World} {base b0:Nat} {r:Go.Reach} {spare:Nat→Bool} {held:Bool} {P:Program}
theorem XsQ {w:World} {b off:Nat} {q:Option _} {v:Value} (h:w.cell? ⟨b,off,q⟩=some v):q=none:=by
 cases q with
 |none=>rfl
 |some q =>
  exfalso
  simp only [World.cell?] at h;split at h <;> simp at h
theorem Xmm {α:Type} {cells:α→List Value} {Ok:α→Prop} {t e sz fuel:Nat} {cs:List Value} {x:DataW H × List MemPlace} (ht:P.underlying t=some (.slice e)) (hsz:P.cellsOf e=sz) (h0:0<sz)
 (hopen:∀ n cs y,DataW.trod enc P w base spare held n e cs=some y → ∃ v,cs=cells v∧Ok v) (h:DataW.trod enc P w base spare held fuel t cs=some x) :
 ∃ a cap xs,cs = [.slice a xs.length cap]∧Rows cells sz w a xs∧(∀ x ∈ xs,Ok x)∧xs.length≤cap∧cap≤maxLen:=by
 rcases Go.Deep.open_slice ht h with ⟨d,_⟩ | ⟨a,len,cap,m,n,D,Pl,d,_,E,hm,r,_,s⟩
 ·exact ⟨none,0,[],d,(fun i x c=>by simp at c),(fun x c=>by cases c),Nat.le_refl _,by decide⟩
 ·have K:len≤m:=by rw [r]; split <;> omega
  have g:∀ i:Fin len,∃ v,Ok v∧w.cells? base (a.add (i*sz)) sz=some (cells v):=fun i=>by
   obtain ⟨cs',o,F⟩:=s i (by omega);obtain ⟨v,rfl,u⟩:=hopen n cs' _ F;rw [hsz] at o;exact ⟨v,u,o⟩
  let f:Fin len→α:=fun i=>Classical.choose (g i)
  have hf:∀ i,Ok (f i)∧w.cells? base (a.add (i*sz)) sz=some (cells (f i)):=fun i=>Classical.choose_spec (g i);have k:(List.ofFn f).length=len:=List.length_ofFn;refine ⟨some a,cap,List.ofFn f,by rw [k]; exact d,fun i x c => ?_,fun x c => ?_,by rw [k]; exact E,hm⟩
  ·rw [List.getElem?_ofFn] at c;split at c
   ·rename_i z
    cases c
    obtain ⟨_,L,B⟩:=World.cells?_some (hf ⟨i,z⟩).2;have C:=s 0 (by omega);obtain ⟨M,o,_⟩:=C;obtain ⟨_,G,p⟩:=World.cells?_some o;have l:=p 0 (by omega);obtain ⟨b,off,q⟩:=a;have I:q=none:=by
     rw [List.getElem?_eq_getElem (by omega)] at l;simp only [Nat.zero_mul,Addr.add,if_true] at l;exact XsQ l
    subst I;refine ⟨b,off,rfl,fun j v g => ?_⟩;have J:j<sz:=by
     have:=(List.getElem?_eq_some_iff.1 g).1;omega
    have:=B j J;rw [g,XbV,XbV] at this;exact this
   ·cases c
  ·rw [List.mem_ofFn] at c;obtain ⟨i,rfl⟩:=c;exact (hf i).1
end
end
section
open Go.ChangeShapes Go.WideShapes Go.ChangeAt Go.RowKit
section
variable {H:Type} {enc:TypeId × Value→H} {w:World} {base b0:Nat} {r:Go.Reach} {spare:Nat→Bool} {held:Bool}
theorem Xmi {fuel:Nat} {cs:List Value} {x:DataW H × List MemPlace} (h:DataW.trod enc Tryz.prog w base spare held fuel 32 cs=some x) :
 ∃ a cap zs,cs = [.slice a zs.length cap]∧Rd .u8 w a zs∧InB zs∧zs.length≤cap∧cap≤maxLen:=by
 rcases open_ints (P:=Tryz.prog) Tryz.underlying32 Tryz.underlying5 (by kernel_rfl) h with ⟨f,_⟩ | ⟨x,l,c,zs,f,_,r,hm,s,_,e,k⟩
 ·exact ⟨none,0,[],f,Rd.nil _ _ _,(by intro x t; cases t),Nat.le_refl _,by decide⟩
 ·have d:(zs.take l).length=l:=by
   rw [List.length_take,s]; split <;> omega
  refine ⟨some x,c,zs.take l,by rw [d]; exact f,?_,fun n u=>Xix (k n (List.mem_of_mem_take u)),by rw [d]; exact r,hm⟩;intro i m;rw [d] at m;have o:i<zs.length:=by rw [List.length_take] at d; omega
  have j:=e i o;have g:=e 0 (by omega);obtain ⟨b,off,spot⟩:=x;cases spot with
  |none =>
   refine ⟨b,off,rfl,?_⟩;rw [show (zs.take l).getD i 0=zs.getD i 0 from by simp [List.getD,m]];unfold Addr.add at j;by_cases p:i=0
   ·subst p; exact j
   ·rw [if_neg p] at j; exact j
  |some q =>
   exfalso
   simp only [World.cell?,Addr.add,if_true] at g;split at g <;> simp at g
theorem Xmk {fuel:Nat} {cs:List Value} {x:DataW H × List MemPlace} (h:DataW.trod enc Tryz.prog w base spare held fuel 60 cs=some x):∃ u,cs=opL u∧XaZ w u:=by
 obtain ⟨xs,n,_,_,r,b,a⟩:=DataW.trod_struct (P:=Tryz.prog) Tryz.underlying60 h
 clear h
 have s:=a 0 _ rfl;have t:=a 1 _ rfl;have v:=a 2 _ rfl;have y:=a 3 _ rfl;have z:=a 4 _ rfl;have c:cs.length=5:=r
 match xs,b,cs,c with
 |[O,Q,R,S,T],_,[A,B,C,D,E],_ =>
  obtain ⟨d,F,_,G⟩:=DataW.trod_int (P:=Tryz.prog) Tryz.underlying3 s;obtain ⟨e,e1,_,I⟩:=DataW.trod_int (P:=Tryz.prog) Tryz.underlying3 t;obtain ⟨f,e2,_,J⟩:=DataW.trod_int (P:=Tryz.prog) Tryz.underlying3 v;obtain ⟨g,e3,_,K⟩:=DataW.trod_int (P:=Tryz.prog) Tryz.underlying3 y;obtain ⟨i,j,k,e4,L,M,N,U⟩:=Xmi z;have hm:maxLen≤9223372036854775807:=by decide
  have l : [A] = [.int .i64 d]:=F;have m : [B] = [.int .i64 e]:=e1;have o : [C] = [.int .i64 f]:=e2;have p : [D] = [.int .i64 g]:=e3;have q : [E] = [.slice i k.length j]:=e4;cases l; cases m; cases o; cases p; cases q
  exact ⟨⟨d,e,f,g,k,i,j⟩,rfl,⟨Xiv G,Xiv I,Xiv J,Xiv K,L,M,N,by simp only; omega⟩⟩
theorem open_ops23 {v:Value} {d:DataW H} {ps:List MemPlace} (hval:Value.okWide Tryz.prog w r b0 37 v) (h:DataW.Trod enc Tryz.prog w base spare held 37 v d ps) :
 ∃ a cap xs,v = .slice a xs.length cap∧Rows opL 5 w a xs∧(∀ x ∈ xs,XaZ w x)∧xs.length≤9223372036854775807:=by
 obtain ⟨a,len,cap,rfl⟩:=okWide_slice Tryz.underlying37 hval;obtain ⟨fuel,hf⟩:=h;obtain ⟨a',cap',xs,b,c,f,j,hm⟩:=Xmm (P:=Tryz.prog) (cells:=opL) (Ok:=XaZ w) (sz:=5) Tryz.underlying37 (by kernel_rfl) (by decide) (fun n cs y g=>Xmk g) hf;have e : [Value.slice a len cap] = [.slice a' xs.length cap']:=b;cases e
 have i:maxLen≤9223372036854775807:=by decide
 exact ⟨a,cap,xs,rfl,c,f,by omega⟩
end
end
section
open Go.ChangeShapes Go.WideShapes Go.ChangeAt Go.RowKit
def laidL : List (String × DataW Unit) := [("math/bits.deBruijn64tab", Rows.laid_math_bits_deBruijn64tab)]
theorem XiZ:(Rows.laid_math_bits_deBruijn64tab:DataW Unit) = .agg (deB.map fun n:Nat => .lit (.int .u8 (n:Int))):=by rfl
theorem tab_of_laid {W:World} (h:laidMetH Tryz.prog laidL W):XbD W:=fun r e=>by
 rw [MakeChecks.laidMetH_plain _ _ _ (by kernel_rfl)] at h;obtain ⟨ps,⟨g,t,cs,fuel,p,q,a,ht,f,b,_,_⟩,_,_⟩:=h;obtain rfl := Option.some.inj ((show Tryz.prog.globalNamed "math/bits.deBruijn64tab" = some 1 by kernel_rfl).symm.trans a)
 obtain rfl:=Option.some.inj ((show (Tryz.prog.globals[1]?).map (·.type)=some 386 by kernel_rfl).symm.trans ht);rw [XiZ] at b;obtain ⟨xs,m,_,ex,_,o,c⟩:=DataW.trod_array Tryz.underlying386 b;have i:Tryz.prog.cellsOf 5=1:=by kernel_rfl
 have d:=c r e;rw [i,Nat.mul_one,List.getElem?_eq_getElem (by omega)] at d;obtain ⟨z,e1,e2,_⟩:=DataW.trod_int Tryz.underlying5 d;have j:deB.length=64:=rfl;have e3:(xs.map (·.1))=deB.map fun n:Nat => .lit (.int .u8 (n:Int)):=(DataW.agg.inj (Prod.mk.inj ex).1).symm;have e4:(xs.map (·.1))[r]? = (deB.map fun n:Nat=>(DataW.lit (.int .u8 (n:Int)):DataW Unit))[r]?:=by rw [e3]
 rw [List.getElem?_map,List.getElem?_map,List.getElem?_eq_getElem (by omega:r<xs.length),List.getElem?_eq_getElem (by omega:r<deB.length),e2] at e4;have k:z=(deB.getD r 0:Nat):=by
  simp only [Option.map_some,Option.some.injEq,DataW.lit.injEq,Lit.int.injEq,true_and] at e4;rw [e4,List.getD,List.getElem?_eq_getElem (by omega:r<deB.length)]; rfl
 rw [World.var?_cell a f r,← k];have:cs.toList[r]? = some (.int .u8 z):=by
  have l:((cs.toList.drop r).take 1)[0]? = some (.int .u8 z):=by rw [e1]; rfl
  simpa using l
 simpa using this
end
section
open Go.ChangeShapes Go.WideShapes Go.ChangeAt Go.RowKit
theorem Xit {n:Int} (h:(Lit.int .i64 n).wf=true):XaC n:=by
 simp only [Lit.wf,Bool.and_eq_true,decide_eq_true_eq] at h;exact h
section
variable {H:Type} {enc:TypeId × Value→H} {w:World} {base:Nat} {spare:Nat→Bool} {held:Bool}
theorem Xml {fuel:Nat} {cs:List Value} {x:DataW H × List MemPlace} (h:DataW.trod enc Tryz.prog w base spare held fuel 22 cs=some x) :
 ∃ a cap zs,cs = [.slice a zs.length cap]∧Rd .i64 w a zs∧zs.length≤cap∧cap≤maxLen ∧ ∀ n ∈ zs,XaC n:=by
 rcases open_ints (P:=Tryz.prog) Tryz.underlying22 Tryz.underlying3 (by kernel_rfl) h with ⟨f,_⟩ | ⟨x,l,c,zs,f,_,r,hm,s,_,e,k⟩
 ·exact ⟨none,0,[],f,Rd.nil _ _ _,Nat.le_refl _,by decide,fun _ h=>by cases h⟩
 ·have d:(zs.take l).length=l:=by
   rw [List.length_take,s]; split <;> omega
  refine ⟨some x,c,zs.take l,by rw [d]; exact f,?_,by rw [d]; exact r,hm,fun n t=>Xit (k n (List.mem_of_mem_take t))⟩;intro i m;rw [d] at m;have o:i<zs.length:=by rw [List.length_take] at d; omega
  have j:=e i o;have g:=e 0 (by omega);obtain ⟨b,off,spot⟩:=x;cases spot with
  |none =>
   refine ⟨b,off,rfl,?_⟩;rw [show (zs.take l).getD i 0=zs.getD i 0 from by simp [List.getD,m]];unfold Addr.add at j;by_cases p:i=0
   ·subst p; exact j
   ·rw [if_neg p] at j; exact j
  |some q =>
   exfalso
   simp only [World.cell?,Addr.add,if_true] at g;split at g <;> simp at g
theorem open_conf {v:Value} {d:DataW H} {ps:List MemPlace} (hval:∃ cs,v = .agg cs) (h:DataW.Trod enc Tryz.prog w base spare held 24 v d ps) :
 ∃ c p,v = .agg (Xfl c p).toArray∧Xam w c p∧c.keep.length≤p.kc:=by
 obtain ⟨cs,rfl⟩:=hval;obtain ⟨fuel,hf⟩:=h;obtain ⟨xs,n,_,_,G,b,a⟩:=DataW.trod_struct (P:=Tryz.prog) Tryz.underlying24 hf
 clear hf
 have I:=a 0 _ rfl;have J:=a 1 _ rfl;have K:=a 2 _ rfl;have L:=a 3 _ rfl;have M:=a 4 _ rfl;have N:=a 5 _ rfl;have O:=a 6 _ rfl;have Q:=a 7 _ rfl;obtain ⟨cl,rfl⟩:∃ l:List Value,cs=l.toArray:=⟨cs.toList,by simp⟩;have e:cl.length=8:=G
 match xs,b,cl,e with
 |[x0,x1,x2,x3,x4,x5,x6,x7],_,[R,S,T,U,V,W,c6,c7],_ =>
  obtain ⟨f,e0,_,g0⟩:=DataW.trod_int (P:=Tryz.prog) Tryz.underlying3 I;obtain ⟨g,e1,_,g1⟩:=DataW.trod_int (P:=Tryz.prog) Tryz.underlying3 J;obtain ⟨i,j,k,e2,g2,l2,m2,_⟩:=Xml K;obtain ⟨m,o,q,e3,g3,l3,m3,_⟩:=Xml L;obtain ⟨r,e4,_,g4⟩:=DataW.trod_int (P:=Tryz.prog) Tryz.underlying3 M;obtain ⟨s,e5,_,g5⟩:=DataW.trod_int (P:=Tryz.prog) Tryz.underlying3 N;obtain ⟨t,e6,_,g6⟩:=DataW.trod_int (P:=Tryz.prog) Tryz.underlying3 O;obtain ⟨u,e7,_,g7⟩:=DataW.trod_int (P:=Tryz.prog) Tryz.underlying3 Q;have hm:maxLen≤9223372036854775807:=by decide
  refine ⟨⟨f,g,k,q,r,s,t,u⟩,⟨i,j,m,o⟩,?_,⟨g2,g3,by simp only; omega,by simp only; omega,Xit g0⟩,l3⟩;have x : [R] = [.int .i64 f]:=e0;have y : [S] = [.int .i64 g]:=e1;have z : [T] = [.slice i k.length j]:=e2;have B : [U] = [.slice m q.length o]:=e3;have C : [V] = [.int .i64 r]:=e4;have D : [W] = [.int .i64 s]:=e5;have E : [c6] = [.int .i64 t]:=e6;have F : [c7] = [.int .i64 u]:=e7;cases x; cases y; cases z; cases B; cases C; cases D; cases E; cases F
  rfl
end
end
end Go.Proofs.YtgddpaiandefgaaGreatDoor
