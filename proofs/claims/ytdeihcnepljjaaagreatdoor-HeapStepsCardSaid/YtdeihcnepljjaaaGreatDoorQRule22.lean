/-
  Rule22
-/
import Derived.Test.YtdeihcnepljjaaaGreatDoorQRule20
namespace Go.Proofs.YtdeihcnepljjaaaGreatDoor
open Go.RowKit
section
variable {P:Program}{T:Tab}{ops:Array Oper}{f:FuncId}{R:Aim}{k:List Item}{n q:Nat}{ds:List Deferred}{s s':List Item}{w w0:World}{e:Env}{U:List Nat}{S:Nat->Prop}
def Um(T:Tab)(e:Env)(o:Oper):Option (Array Value×Nat×Nat):=
 match o.op with
 |.field t x j=>match ev e x,row T t with
  |some (.agg c),some {und:=.struct fs,..}=>match fs[j]? with
   |some fd=>match row T fd.type with
    |some {und:=.struct _,size:=z,..}=>some (c,fd.offset,z)
    |_=>none
   |none=>none
  |_,_=>none
 |_=>none
theorem XeK(hT:Xp P T){c:Array Value}{o z:Nat}{v:Value}{op:Oper}(h:Um T e op=some (c,o,z))(hv:Value.agg (c.extract o (o+z))=v)(act:Act)(hf:Za n act e):(execOp act.eval op).run P w=.ok (.value v) w:=by
 subst hv;unfold Um at h;split at h
 .rename_i t x j b
  split at h
  .rename_i k fs _ _ _ f hr
   split at h
   .rename_i fd d
    split at h
    .rename_i i l _ _ a
     cases h
     simp only[execOp,b,hf.ev f];refine(Xh (x:=(.agg (c.extract fd.offset (fd.offset+z)):Value)) (w':=w) ?_).trans rfl;unfold Instr.field;rw[Xh ((hT.row hr).underlying w)];simp only[d,asAgg];rw[Xh (show(pure c:Sem (Array Value)).run P w=.ok c w from rfl)];have g:(isAgg fd.type).run P w=.ok true w:=by
      unfold isAgg;rw[Xh ((hT.row a).underlying w)];rfl
     unfold part;rw[Xh g];show(do let m <- sizeOf fd.type;pure (Value.agg (c.extract fd.offset (fd.offset+m))):Sem Value).run P w=_
     rw[Xh ((hT.row a).sizeOf w)];rfl
    .cases h
   .cases h
  .cases h
 .cases h
theorem Xa.field(hT:Xp P T){c:Array Value}{o z d:Nat}{v:Value}{s2:List Item}{e2:Env}(h:Qb (Um T e) n s e=some ((c,o,z),d,s'))(hv:Value.agg (c.extract o (o+z))=v)(ha:Go.Proofs.YtdeihcnepljjaaaGreatDoor.adv T n 400 s' ((d,false,v)::e)=(s2,e2))(hG:Xa P f R n ds s2 e2 w):Xa P f R n ds s e w:=
 Xa.val h (λ_ b a hf=>XeK hT b hv a hf) (Xa.adv hT 400 ha hG)
theorem Xd.field(hT:Xp P T)(hB:Z0 ops q=true){c:Array Value}{o z d i:Nat}{v:Value}{U2:List Nat}{e2:Env}(h:Au (Um T e) n ops q U e U=some ((c,o,z),d,i))(hv:Value.agg (c.extract o (o+z))=v)(ha:Z7 T n ops q (Xv i U) (Xv i U) ((d,false,v)::e)=(U2,e2))(hG:Xd P f R n ds k ops q S U2 e2 w0 w):Xd P f R n ds k ops q S U e w0 w:=
 Xd.val hT hB h (λ_ b a w' _ hf=>XeK hT b hv a hf) ha hG
end
end Go.Proofs.YtdeihcnepljjaaaGreatDoor
