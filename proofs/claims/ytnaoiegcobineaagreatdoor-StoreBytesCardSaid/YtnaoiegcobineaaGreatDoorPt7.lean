/-
  Texts put together: Open, OpenRows, OpensSt, Tied, OpenConf.
-/
import Derived.Test.YtnaoiegcobineaaGreatDoorPt6
import Derived.Test.YtnaoiegcobineaaGreatDoorRows
import Derived.Test.YtnaoiegcobineaaGreatDoorQBase
import Derived.OpenShut
import Derived.ShutString
import Derived.ChangeOld
import Derived.Deep.Slices
import Derived.Test.YtnaoiegcobineaaGreatDoorTie
import Derived.Test.YtnaoiegcobineaaGreatDoorCards
import Derived.ProofKit
import Derived.LaidMore
import Derived.Lay
import Derived.SevenTiedAt
import Derived.Stop.Joined
set_option linter.unusedVariables false
namespace Go.Proofs.YtnaoiegcobineaaGreatDoor
open Go.RowKit
theorem own:ownKnob Tryz.prog.godebug=none:=by kernel_rfl
theorem laidOut:laidOutB Tryz.prog=true:=by kernel_rfl
end Go.Proofs.YtnaoiegcobineaaGreatDoor
namespace Go.Proofs.YtnaoiegcobineaaGreatDoor
open Go.ChangeShapes Go.WideShapes Go.ChangeAt Go.RowKit
theorem inU8_of_wf {n:Int} (h:(Lit.int .u8 n).wf=true):0≤n∧n<256:=by
 have h':0≤n∧n≤255:=by simp only [Lit.wf,Bool.and_eq_true,decide_eq_true_eq] at h; exact h
 omega
theorem inI64_of_wf {n:Int} (h:(Lit.int .i64 n).wf=true) : -9223372036854775808≤n∧n≤9223372036854775807:=by
 simp only [Lit.wf,Bool.and_eq_true,decide_eq_true_eq] at h
 exact h
section
variable {H:Type} {enc:TypeId × Value→H} {w:World} {base b0:Nat} {r:Go.Reach} {spare:Nat→Bool} {held:Bool} {P:Program}
theorem spot_none {w:World} {b off:Nat} {q:Option _} {v:Value} (h:w.cell? ⟨b,off,q⟩=some v):q=none:=by
 cases q with
 |none=>rfl
 |some q =>
  exfalso
  simp only [World.cell?] at h
  split at h <;> simp at h
theorem open_rows {α:Type} {cells:α→List Value} {Ok:α→Prop} {t e sz fuel:Nat} {cs:List Value} {x:DataW H × List MemPlace} (ht:P.underlying t=some (.slice e)) (hsz:P.cellsOf e=sz) (h0:0<sz)
 (hopen:∀ n cs y,DataW.trod enc P w base spare held n e cs=some y → ∃ v,cs=cells v∧Ok v) (h:DataW.trod enc P w base spare held fuel t cs=some x) :
 ∃ a cap xs,cs = [.slice a xs.length cap]∧Rows cells sz w a xs∧(∀ x ∈ xs,Ok x)∧xs.length≤cap∧cap≤maxLen:=by
 rcases Go.Deep.open_slice ht h with ⟨hcs,_⟩ | ⟨a,len,cap,m,n,D,Pl,hcs,_,hl,hm,hmm,_,hi⟩
 ·exact ⟨none,0,[],hcs,(fun i x hx=>by simp at hx),(fun x hx=>by cases hx),Nat.le_refl _,by decide⟩
 ·have hle:len≤m:=by rw [hmm]; split <;> omega
  have hv:∀ i:Fin len,∃ v,Ok v∧w.cells? base (a.add (i*sz)) sz=some (cells v):=fun i=>by
   obtain ⟨cs',h1,h2⟩:=hi i (by omega)
   obtain ⟨v,rfl,hok⟩:=hopen n cs' _ h2
   rw [hsz] at h1
   exact ⟨v,hok,h1⟩
  let f:Fin len→α:=fun i=>Classical.choose (hv i)
  have hf:∀ i,Ok (f i)∧w.cells? base (a.add (i*sz)) sz=some (cells (f i)):=fun i=>Classical.choose_spec (hv i)
  have hlen:(List.ofFn f).length=len:=List.length_ofFn
  refine ⟨some a,cap,List.ofFn f,by rw [hlen]; exact hcs,fun i x hx => ?_,fun x hx => ?_,by rw [hlen]; exact hl,hm⟩
  ·rw [List.getElem?_ofFn] at hx
   split at hx
   ·rename_i hil
    cases hx
    obtain ⟨_,hcl,hat⟩:=World.cells?_some (hf ⟨i,hil⟩).2
    have h00:=hi 0 (by omega)
    obtain ⟨cs0,h1,_⟩:=h00
    obtain ⟨_,hcl0,hat0⟩:=World.cells?_some h1
    have hc0:=hat0 0 (by omega)
    obtain ⟨b,off,q⟩:=a
    have hq:q=none:=by
     rw [List.getElem?_eq_getElem (by omega)] at hc0
     simp only [Nat.zero_mul,Addr.add,if_true] at hc0
     exact spot_none hc0
    subst hq
    refine ⟨b,off,rfl,fun j v hv => ?_⟩
    have hj:j<sz:=by
     have:=(List.getElem?_eq_some_iff.1 hv).1
     omega
    have:=hat j hj
    rw [hv,add_off,add_off] at this
    exact this
   ·cases hx
  ·rw [List.mem_ofFn] at hx
   obtain ⟨i,rfl⟩:=hx
   exact (hf i).1
end
end Go.Proofs.YtnaoiegcobineaaGreatDoor
namespace Go.Proofs.YtnaoiegcobineaaGreatDoor
open Go.ChangeShapes Go.WideShapes Go.ChangeAt Go.RowKit
section
variable {H:Type} {enc:TypeId × Value→H} {w:World} {base b0:Nat} {r:Go.Reach} {spare:Nat→Bool} {held:Bool}
theorem open_bytes0 {fuel:Nat} {cs:List Value} {x:DataW H × List MemPlace} (h:DataW.trod enc Tryz.prog w base spare held fuel 36 cs=some x) :
 ∃ a cap zs,cs = [.slice a zs.length cap]∧Rd .u8 w a zs∧InB zs∧zs.length≤cap∧cap≤maxLen:=by
 rcases open_ints (P:=Tryz.prog) Tryz.underlying36 Tryz.underlying5 (by kernel_rfl) h with ⟨hcs,_⟩ | ⟨x,l,c,zs,hcs,_,hl,hm,hz,_,hcell,hwz⟩
 ·exact ⟨none,0,[],hcs,Rd.nil _ _ _,(by intro x hx; cases hx),Nat.le_refl _,by decide⟩
 ·have hlen:(zs.take l).length=l:=by
   rw [List.length_take,hz]; split <;> omega
  refine ⟨some x,c,zs.take l,by rw [hlen]; exact hcs,?_,fun n hn=>inU8_of_wf (hwz n (List.mem_of_mem_take hn)),by rw [hlen]; exact hl,hm⟩
  intro i hi
  rw [hlen] at hi
  have hi':i<zs.length:=by rw [List.length_take] at hlen; omega
  have hc:=hcell i hi'
  have hc0:=hcell 0 (by omega)
  obtain ⟨b,off,spot⟩:=x
  cases spot with
  |none =>
   refine ⟨b,off,rfl,?_⟩
   rw [show (zs.take l).getD i 0=zs.getD i 0 from by simp [List.getD,hi]]
   unfold Addr.add at hc
   by_cases h0:i=0
   ·subst h0; exact hc
   ·rw [if_neg h0] at hc; exact hc
  |some q =>
   exfalso
   simp only [World.cell?,Addr.add,if_true] at hc0
   split at hc0 <;> simp at hc0
set_option maxRecDepth 100000 in
theorem open_act22 {fuel:Nat} {cs:List Value} {x:DataW H × List MemPlace} (h:DataW.trod enc Tryz.prog w base spare held fuel 54 cs=some x):∃ u,cs=act22L u∧Act22Ok w u:=by
 obtain ⟨xs,n,_,_,hl,hlen,hfs⟩:=DataW.trod_struct (P:=Tryz.prog) Tryz.underlying54 h
 clear h
 have h0:=hfs 0 _ rfl
 have h1:=hfs 1 _ rfl
 have h2:=hfs 2 _ rfl
 have h3:=hfs 3 _ rfl
 have h4:=hfs 4 _ rfl
 have hl':cs.length=5:=hl
 match xs,hlen,cs,hl' with
 |[x0,x1,x2,x3,x4],_,[c0,c1,c2,c3,c4],_ =>
  obtain ⟨n0,e0,_,g0⟩:=DataW.trod_int (P:=Tryz.prog) Tryz.underlying5 h0
  obtain ⟨n1,e1,_,g1⟩:=DataW.trod_int (P:=Tryz.prog) Tryz.underlying3 h1
  obtain ⟨n2,e2,_,g2⟩:=DataW.trod_int (P:=Tryz.prog) Tryz.underlying3 h2
  obtain ⟨n3,e3,_,g3⟩:=DataW.trod_int (P:=Tryz.prog) Tryz.underlying3 h3
  obtain ⟨a4,k4,z4,e4,r4,i4,l4,m4⟩:=open_bytes0 h4
  have hm:maxLen≤9223372036854775807:=by decide
  have e0' : [c0] = [.int .u8 n0]:=e0
  have e1' : [c1] = [.int .i64 n1]:=e1
  have e2' : [c2] = [.int .i64 n2]:=e2
  have e3' : [c3] = [.int .i64 n3]:=e3
  have e4' : [c4] = [.slice a4 z4.length k4]:=e4
  cases e0'; cases e1'; cases e2'; cases e3'; cases e4'
  exact ⟨⟨n0,n1,n2,n3,z4,a4,k4⟩,rfl,⟨inU8_of_wf g0,inI64_of_wf g2,inI64_of_wf g3,r4,i4,l4,by simp only; omega⟩⟩
set_option maxRecDepth 100000 in
theorem open_acts22 {v:Value} {d:DataW H} {ps:List MemPlace} (hval:Value.okWide Tryz.prog w r b0 34 v) (h:DataW.Trod enc Tryz.prog w base spare held 34 v d ps) :
 ∃ a cap xs,v = .slice a xs.length cap∧Rows act22L 5 w a xs∧(∀ x ∈ xs,Act22Ok w x)∧xs.length≤9223372036854775807:=by
 obtain ⟨a,len,cap,rfl⟩:=okWide_slice Tryz.underlying34 hval
 obtain ⟨fuel,hf⟩:=h
 obtain ⟨a',cap',xs,hcs,hr,hx,hl,hm⟩:=open_rows (P:=Tryz.prog) (cells:=act22L) (Ok:=Act22Ok w) (sz:=5) Tryz.underlying34 (by kernel_rfl) (by decide) (fun n cs y hy=>open_act22 hy) hf
 have e : [Value.slice a len cap] = [.slice a' xs.length cap']:=hcs
 cases e
 have hml:maxLen≤9223372036854775807:=by decide
 exact ⟨a,cap,xs,rfl,hr,hx,by omega⟩
end
end Go.Proofs.YtnaoiegcobineaaGreatDoor
namespace Go.Proofs.YtnaoiegcobineaaGreatDoor
open Go.ChangeShapes Go.WideShapes Go.ChangeAt Go.RowKit
def laidL : List (String × DataW Unit) := [("math/bits.deBruijn64tab", Rows.laid_math_bits_deBruijn64tab)]
theorem laid_deB:(Rows.laid_math_bits_deBruijn64tab:DataW Unit) = .agg (deB.map fun n:Nat => .lit (.int .u8 (n:Int))):=by rfl
theorem tab_of_laid {W:World} (h:laidMetH Tryz.prog laidL W):TabAt W:=fun r hr=>by
 rw [MakeChecks.laidMetH_plain _ _ _ (by kernel_rfl)] at h
 obtain ⟨ps,⟨g,t,cs,fuel,p,q,hg,ht,hv,hd,_,_⟩,_,_⟩:=h
 obtain rfl := Option.some.inj ((show Tryz.prog.globalNamed "math/bits.deBruijn64tab" = some 0 by kernel_rfl).symm.trans hg)
 obtain rfl:=Option.some.inj ((show (Tryz.prog.globals[0]?).map (·.type)=some 329 by kernel_rfl).symm.trans ht)
 rw [laid_deB] at hd
 obtain ⟨xs,m,_,ex,_,hl,hel⟩:=DataW.trod_array Tryz.underlying329 hd
 have c5:Tryz.prog.cellsOf 5=1:=by kernel_rfl
 have hE:=hel r hr
 rw [c5,Nat.mul_one,List.getElem?_eq_getElem (by omega)] at hE
 obtain ⟨z,e1,e2,_⟩:=DataW.trod_int Tryz.underlying5 hE
 have hlen:deB.length=64:=rfl
 have e3:(xs.map (·.1))=deB.map fun n:Nat => .lit (.int .u8 (n:Int)):=(DataW.agg.inj (Prod.mk.inj ex).1).symm
 have e4:(xs.map (·.1))[r]? = (deB.map fun n:Nat=>(DataW.lit (.int .u8 (n:Int)):DataW Unit))[r]?:=by rw [e3]
 rw [List.getElem?_map,List.getElem?_map,List.getElem?_eq_getElem (by omega:r<xs.length),List.getElem?_eq_getElem (by omega:r<deB.length),e2] at e4
 have hz:z=(deB.getD r 0:Nat):=by
  simp only [Option.map_some,Option.some.injEq,DataW.lit.injEq,Lit.int.injEq,true_and] at e4
  rw [e4,List.getD,List.getElem?_eq_getElem (by omega:r<deB.length)]; rfl
 rw [World.var?_cell hg hv r,← hz]
 have:cs.toList[r]? = some (.int .u8 z):=by
  have h0:((cs.toList.drop r).take 1)[0]? = some (.int .u8 z):=by rw [e1]; rfl
  simpa using h0
 simpa using this
end Go.Proofs.YtnaoiegcobineaaGreatDoor
namespace Go.Proofs.YtnaoiegcobineaaGreatDoor
open Go.ChangeShapes Go.WideShapes Go.ChangeAt Go.RowKit
theorem in64_of_wf {n:Int} (h:(Lit.int .i64 n).wf=true):In64 n:=by
 simp only [Lit.wf,Bool.and_eq_true,decide_eq_true_eq] at h
 exact h
section
variable {H:Type} {enc:TypeId × Value→H} {w:World} {base:Nat} {spare:Nat→Bool} {held:Bool}
theorem open_row {fuel:Nat} {cs:List Value} {x:DataW H × List MemPlace} (h:DataW.trod enc Tryz.prog w base spare held fuel 22 cs=some x) :
 ∃ a cap zs,cs = [.slice a zs.length cap]∧Rd .i64 w a zs∧zs.length≤cap∧cap≤maxLen ∧ ∀ n ∈ zs,In64 n:=by
 rcases open_ints (P:=Tryz.prog) Tryz.underlying22 Tryz.underlying3 (by kernel_rfl) h with ⟨hcs,_⟩ | ⟨x,l,c,zs,hcs,_,hl,hm,hz,_,hcell,hwz⟩
 ·exact ⟨none,0,[],hcs,Rd.nil _ _ _,Nat.le_refl _,by decide,fun _ h=>by cases h⟩
 ·have hlen:(zs.take l).length=l:=by
   rw [List.length_take,hz]; split <;> omega
  refine ⟨some x,c,zs.take l,by rw [hlen]; exact hcs,?_,by rw [hlen]; exact hl,hm,fun n hn=>in64_of_wf (hwz n (List.mem_of_mem_take hn))⟩
  intro i hi
  rw [hlen] at hi
  have hi':i<zs.length:=by rw [List.length_take] at hlen; omega
  have hc:=hcell i hi'
  have hc0:=hcell 0 (by omega)
  obtain ⟨b,off,spot⟩:=x
  cases spot with
  |none =>
   refine ⟨b,off,rfl,?_⟩
   rw [show (zs.take l).getD i 0=zs.getD i 0 from by simp [List.getD,hi]]
   unfold Addr.add at hc
   by_cases h0:i=0
   ·subst h0; exact hc
   ·rw [if_neg h0] at hc; exact hc
  |some q =>
   exfalso
   simp only [World.cell?,Addr.add,if_true] at hc0
   split at hc0 <;> simp at hc0
set_option maxRecDepth 100000 in
theorem open_conf {v:Value} {d:DataW H} {ps:List MemPlace} (hval:∃ cs,v = .agg cs) (h:DataW.Trod enc Tryz.prog w base spare held 24 v d ps) :
 ∃ c p,v = .agg (confL c p).toArray∧ConfOk w c p∧c.keep.length≤p.kc:=by
 obtain ⟨cs,rfl⟩:=hval
 obtain ⟨fuel,hf⟩:=h
 obtain ⟨xs,n,_,_,hl,hlen,hfs⟩:=DataW.trod_struct (P:=Tryz.prog) Tryz.underlying24 hf
 clear hf
 have h0:=hfs 0 _ rfl
 have h1:=hfs 1 _ rfl
 have h2:=hfs 2 _ rfl
 have h3:=hfs 3 _ rfl
 have h4:=hfs 4 _ rfl
 have h5:=hfs 5 _ rfl
 have h6:=hfs 6 _ rfl
 have h7:=hfs 7 _ rfl
 obtain ⟨cl,rfl⟩:∃ l:List Value,cs=l.toArray:=⟨cs.toList,by simp⟩
 have hl':cl.length=8:=hl
 match xs,hlen,cl,hl' with
 |[x0,x1,x2,x3,x4,x5,x6,x7],_,[c0,c1,c2,c3,c4,c5,c6,c7],_ =>
  obtain ⟨n0,e0,_,g0⟩:=DataW.trod_int (P:=Tryz.prog) Tryz.underlying3 h0
  obtain ⟨n1,e1,_,g1⟩:=DataW.trod_int (P:=Tryz.prog) Tryz.underlying3 h1
  obtain ⟨a2,k2,z2,e2,g2,l2,m2,_⟩:=open_row h2
  obtain ⟨a3,k3,z3,e3,g3,l3,m3,_⟩:=open_row h3
  obtain ⟨n4,e4,_,g4⟩:=DataW.trod_int (P:=Tryz.prog) Tryz.underlying3 h4
  obtain ⟨n5,e5,_,g5⟩:=DataW.trod_int (P:=Tryz.prog) Tryz.underlying3 h5
  obtain ⟨n6,e6,_,g6⟩:=DataW.trod_int (P:=Tryz.prog) Tryz.underlying3 h6
  obtain ⟨n7,e7,_,g7⟩:=DataW.trod_int (P:=Tryz.prog) Tryz.underlying3 h7
  have hm:maxLen≤9223372036854775807:=by decide
  refine ⟨⟨n0,n1,z2,z3,n4,n5,n6,n7⟩,⟨a2,k2,a3,k3⟩,?_,⟨g2,g3,by simp only; omega,by simp only; omega,in64_of_wf g0⟩,l3⟩
  have e0' : [c0] = [.int .i64 n0]:=e0
  have e1' : [c1] = [.int .i64 n1]:=e1
  have e2' : [c2] = [.slice a2 z2.length k2]:=e2
  have e3' : [c3] = [.slice a3 z3.length k3]:=e3
  have e4' : [c4] = [.int .i64 n4]:=e4
  have e5' : [c5] = [.int .i64 n5]:=e5
  have e6' : [c6] = [.int .i64 n6]:=e6
  have e7' : [c7] = [.int .i64 n7]:=e7
  cases e0'; cases e1'; cases e2'; cases e3'; cases e4'; cases e5'; cases e6'; cases e7'
  rfl
end
end Go.Proofs.YtnaoiegcobineaaGreatDoor
