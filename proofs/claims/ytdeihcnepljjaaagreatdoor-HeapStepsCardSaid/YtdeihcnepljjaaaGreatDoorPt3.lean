/-
  Texts put together: View2, Chain, Chain2, View3, View4, Arena3, View5, View6, View7, View8, Laws21, Ref6, Few, Ref21, Ref21b, Ref21d, Cut16, Ref21e, Ref21f, Ref21g, Ref21h, Ref21i, Laws6b, Move, Move2, Lap, Laws15, Ref6b, Ref6c, Use, Use2, Laws6d, Act, Ref15, Laws15c, Stm, Oh, StOk2, StOk3, Room7, View9, Sto0, Sto1, Plain21, Plain21b, Plain21c, Sto2, Sto3.
-/
import Derived.Test.YtdeihcnepljjaaaGreatDoorPt2
import Derived.Test.YtdeihcnepljjaaaGreatDoorQRule11
import Derived.Test.YtdeihcnepljjaaaGreatDoorQPost
import Derived.Lib.SliceRun
import Derived.Test.YtdeihcnepljjaaaGreatDoorQRule12
import Derived.Test.YtdeihcnepljjaaaGreatDoorQRule8
import Derived.Test.YtdeihcnepljjaaaGreatDoorQRule9
import Derived.Test.YtdeihcnepljjaaaGreatDoorQRule18
set_option linter.unusedVariables false
set_option maxRecDepth 100000
namespace Go.Proofs.YtdeihcnepljjaaaGreatDoor
open Go.RowKit
open Go renaming World→dD,Value→dE,Addr→dF
open Bool renaming and_eq_true->XI,true_and->YM
open Decidable renaming not_not->YP
open Int renaming toNat_natCast->XA,eq_ofNat_of_zero_le->XE,mul_le_mul_of_nonneg_right->XZ,mul_nonneg->ZG,mul_le_mul->ZH,ediv_nonneg->ZY,mul_comm->YK,le_refl->YN,toNat_of_nonneg->YT,add_mul->QG,one_mul->QO
open List renaming getD_eq_getElem?_getD->XB,getElem?_eq_some_iff->XC,getElem?_eq_getElem->XD,length_set->XG,getElem?_set_self->XH,length_replicate->XJ,getElem?_set_ne->XK,getElem_mem->XL,map_append->XM,length_cons->XN,getElem?_map->XO,mem_map->XP,length_map->XU,mem_of_getElem?->XW,length_take->XX,take_append_drop->XY,getElem?_append_left->ZA,mem_of_mem_take->ZB,mem_cons->ZC,length_append->ZE,getElem?_eq_none->ZF,take_add_one->ZI,length_range->ZK,map_cons->ZL,take_length->ZM,mem_or_eq_of_mem_set->ZN,mem_cons_self->ZO,mem_of_mem_drop->ZR,drop_eq_getElem_cons->ZT,map_congr_left->ZU,flatMap_cons->ZV,map_set->ZW,eq_of_mem_replicate->ZX,length_eq_zero_iff->ZZ,mem_cons_of_mem->YA,getElem?_append_right->YC,getElem?_set->YE,eq_nil_of_length_eq_zero->YH,set_append_left->YO,range_succ->YQ,findIdx?_eq_some_iff_getElem->YU,take_of_length_le->YV,getElem_map->YZ,getElem?_take->Y2,getElem?_toArray->QA,mem_replicate->QF,any_eq_false->QI,sum_cons->QJ,length_tail->QM,append_nil->QR,mem_append_left->QT,any_eq_true->QU,getElem_of_mem->QV,getD->QX,mem_filter->QY,map_take->As
open Nat renaming le_refl->XF,zero_le->XQ,zero_add->XT,le_trans->YB,div_add_mod->YG,mul_comm->YJ,mod_lt->YW,add_assoc->YX,strongRecOn->QS
open Option renaming map_some->QZ
open Go.Proofs.Tryz (func102 func106 func107 func109 func112 func119 func120 func125 func127 func131 func150 func151 func153 func158 func163 func164 func167 func169 func171 func172 func177 func194 func201 func202 func203 func207 func209 func213 func214 func222 func223 func224 func230 func233 func253 func254 func258 func261 func262 func263 func272 func279 func280 func300 func303 func304 func305 func319 func320 func321 func7 ntmps102 ntmps106 ntmps107 ntmps109 ntmps112 ntmps119 ntmps120 ntmps125 ntmps127 ntmps131 ntmps150 ntmps151 ntmps153 ntmps158 ntmps163 ntmps164 ntmps167 ntmps169 ntmps171 ntmps172 ntmps177 ntmps194 ntmps201 ntmps202 ntmps203 ntmps207 ntmps209 ntmps213 ntmps214 ntmps222 ntmps223 ntmps224 ntmps230 ntmps233 ntmps253 ntmps254 ntmps258 ntmps261 ntmps262 ntmps263 ntmps272 ntmps279 ntmps280 ntmps300 ntmps303 ntmps304 ntmps305 ntmps319 ntmps320 ntmps321 ntmps7 prog)
variable {A:Ar}{V:ArV}{c:Conf}{l':IL}{ahead by' cS cH size cN u who z:Int}{lg:List (Nat×List Nat)}{ps:List IL}{bs l p zs:List Int}{l2 ws:List Nat}{cs rest xs:List dE}{N at' b base cap d fuel g i j k lm lo m n o qb sz t tm ty vb xb y:Nat}{e:Nat×List Int}{fz:Nat×Nat}{f:Nat->Int}{G:Nat->Pg}{B C F F' Fr Q S S' T xX:Nat->Prop}{pd pd2:Option (Nat×PlcM)}{a:Option dF}{pg:PgL}{pl':PlM}{q:Plc}{R:Rm}{M:RmM}{x x':Sm}{α:Type}{v:dE}{w w' w'' w0 w1 w2:dD}{cells:α->List dE}
theorem Ea(h:Xy c=true):(64<=c.size/\c.size<=4096/\c.size%8=0)/\(1<=c.bS/\c.bS<=1024)/\A9 c.bT c.size=true:=by
 obtain⟨a,b,d,_⟩:=Fc.1 h;exact⟨Nz.1 a,b,d⟩
theorem Ik(hm:Xy c=true)(h:Ym c q=true)(hc:q.cL≠-1):∃k pg ix:Nat,q.cL=k/\q.cR=pg/\q.idx=ix/\k<c.bT.length/\(pg:Int)<c.bS/\8<=Zn c k/\Zn c k<=c.size/\0<=(pg:Int)*c.size/\0<=(ix:Int)*Zn c k/\(ix:Int)*Zn c k+Zn c k<=c.size/\(pg:Int)*c.size+(ix:Int)*Zn c k+Zn c k<=c.size*c.bS:=by
 obtain⟨s,t,l⟩:=Ea hm;unfold Ym at h;rw[bJ hc] at h;simp only[XI,Nb] at h;obtain⟨⟨⟨m,u⟩,n,v⟩,o,p⟩:=h;obtain⟨k,f⟩:=XE m;obtain⟨pg,g⟩:=XE n;obtain⟨ix,b⟩:=XE o;have d:k<c.bT.length:=X
 obtain⟨r,w,i⟩:=Ou l k d;have a:Zn c k=c.bT.getD k 0:=rfl;rw[<-a] at r i;have j:A8 c q.cL=c.size/Zn c k:=by
  unfold A8;rw[f,bK X,XA,<-a,Xaj X X]
 rw[j,b] at p;have e1:(ix:Int)*Zn c k+Zn c k<=c.size:=by
  have:((ix:Int)+1)*Zn c k<=c.size:=by
   calc ((ix:Int)+1)*Zn c k<=(c.size/Zn c k)*Zn c k:=XZ X X
    _<=c.size:=Int.ediv_mul_le _ X
  rw[QG,QO] at this;exact this
 have e2:(pg:Int)*c.size+c.size<=c.size*c.bS:=by
  have:((pg:Int)+1)*c.size<=c.bS*c.size:=XZ X X;rw[QG,QO,YK c.bS] at this;exact this
 refine⟨k,pg,ix,f,g,b,d,X,X,i,ZG X X,ZG X X,e1,X⟩
theorem Uw(h:Ym c q=true)(hc:q.cL=-1):0<q.bS.length/\∀n∈q.bS,0<=n/\n<c.bS:=by
 unfold Ym at h;rw[bK hc] at h;simp only[XI,decide_eq_true_eq,Bool.not_eq_true'] at h;refine⟨h.1,λn a=>?_⟩;have:=QI.1 h.2 n a;simp at this;exact Nb.1 this
theorem Bq.cL{v:Vw}(h:Bq w v)(hk:k<v.c.bT.length):∃b off,v.p.ca=some ⟨b,off,none⟩/\w.cell? ⟨b,off+k,none⟩=some (W (Zn v.c k)):=h.cO.bT k hk
theorem Ny(hm:Xy c=true):64<=c.size*c.bS/\c.size*c.bS<=4194304:=by
 obtain⟨a,b,_⟩:=Ea hm;constructor
 .calc (64:Int)=64*1:=rfl
   _<=c.size*c.bS:=ZH X X X X
 .calc c.size*c.bS<=4096*1024:=ZH X X X X
   _=4194304:=rfl
theorem Xdd(v:Vw)(q:Plc)(w:dD)(h:Bq w v)(hq:Zw w q)(hfew:q.bS.length<=1000000000):Xe prog 177 #[Gb v,.agg (Xw q).toArray] w (Grow (W (Zt v.c q)) w):=by
 obtain⟨E,F,G⟩:=Ea h.may;refine aR func177 ntmps177 Y (bC Y λqb x e1 o f z=>?_);have p:=h.bQ f;refine bB o Y (bG (Xdf v q x p (hq.bQ f)) Y λH i=>?_);have b:=i.bP o;have l:=p.bQ i;have s:=f.trans i;cases hi:Ym v.c q with
 |false=>
  exact bI Y (bE func177 Y ⟨X0 (by unfold Zt;rw[hi];rfl),s⟩)
 |true=>
  refine aS Y (bB b Y (aT Y (λd=>?_) λd=>?_))
  .have g:q.cL=-1:=xU d
   have A:0<=(q.bS.length:Int)*v.c.size:=ZG X X;have B:(q.bS.length:Int)*v.c.size<=1000000000*4096:=ZH X X X X;refine Xa.drawn (q:=10) Xf Xb Xn xK rfl ?_;intro a;refine Xd.cJ Xb a rfl b (by first|exact λh=>h|(intro h;omega)|assumption) rfl rfl ?_;refine Xd.cJ Xb a rfl l.obj (by first|exact λh=>h|(intro h;omega)|assumption) rfl rfl ?_;refine Xd.arith Xb a rfl (w64 X) rfl ?_;exact aF a Y λy m=>bE func177 Y ⟨X0 (by unfold Zt;rw[bK hi,bK g]),s.trans m⟩
  .have g:¬q.cL=-1:=xU d
   obtain⟨k,pg,ix,t,C,D,n,_,_,_,_,_,_,_⟩:=Ik h.may hi g;obtain⟨cb,off,r,u⟩:=l.cL n;obtain⟨vb,c,⟨ca,cc,ka,kc⟩,ab,mb⟩:=v;simp only at r
   subst r;obtain⟨cL,cR,idx,pa,pc,bS⟩:=q;simp only at t
   subst t;replace n:k<c.bT.length:=n;refine aQ 10 Xf xK Y λa=>aE a l.obj Y (aE a b Y ?_);refine Xd.index Xb a rfl (j:=k) (show(0:Int)<=k by omega) (show(k:Int)<c.bT.length by omega) xS rfl ?_;exact aD a u Y (aF a Y λy m=>bE func177 Y ⟨X0 (by unfold Zt;rw[bK hi];simp only;rw[bJ g]),s.trans m⟩)
theorem Xdc(v:Vw)(q:Plc)(w:dD)(h:Bq w v)(hq:Zw w q):Xe prog 201 #[Gb v,.agg (Xw q).toArray] w (Grow (W (Aj v.c q)) w):=by
 obtain⟨H,I,J⟩:=Ea h.may;have f:=Ny h.may;refine aR func201 ntmps201 Y (bC Y λqb E e1 o i G=>?_);have p:=h.bQ i;refine bB o Y (bG (Xdf v q E p (hq.bQ i)) Y λK l=>?_);have b:=l.bP o;have m:=p.bQ l;have u:=i.trans l;cases hi:Ym v.c q with
 |false=>
  exact bI Y (bE func201 Y ⟨X0 (by unfold Aj;rw[hi,bJ xS]),u⟩)
 |true=>
  refine aS Y (bB b Y (aT Y (λd=>?_) λd=>?_))
  .have g:q.cL=-1:=xU d
   exact bE func201 Y ⟨X0 (by unfold Aj;rw[bJ (λF=>F.2 g)]),u⟩
  .have g:¬q.cL=-1:=xU d
   obtain⟨k,pg,ix,x,r,s,n,L,y,M,z,A,N,B⟩:=Ik h.may hi g;obtain⟨cb,off,t,C⟩:=m.cL n;obtain⟨vb,c,⟨ca,cc,ka,kc⟩,ab,mb⟩:=v;simp only at t
   subst t;obtain⟨cL,cR,idx,pa,pc,bS⟩:=q;simp only at x r s
   subst x;subst r;subst s;replace n:k<c.bT.length:=n;replace f:64<=c.size*c.bS/\c.size*c.bS<=4194304:=f;replace z:0<=(pg:Int)*c.size:=z;replace A:0<=(ix:Int)*Zn c k:=A;replace B:(pg:Int)*c.size+(ix:Int)*Zn c k+Zn c k<=c.size*c.bS:=B;replace y:8<=Zn c k:=y;refine Xa.drawn (q:=22) Xf Xb Xn xK rfl ?_;intro a;refine Xd.cJ Xb a rfl b (by first|exact λh=>h|(intro h;omega)|assumption) rfl rfl ?_;refine Xd.cJ Xb a rfl m.obj (by first|exact λh=>h|(intro h;omega)|assumption) rfl rfl ?_;refine Xd.arith Xb a rfl (w64 (by show _/\_;simp only;omega)) rfl ?_;refine Xd.cJ Xb a rfl b (by first|exact λh=>h|(intro h;omega)|assumption) rfl rfl ?_;refine Xd.cJ Xb a rfl m.obj (by first|exact λh=>h|(intro h;omega)|assumption) rfl rfl ?_;refine Xd.cJ Xb a rfl b (by first|exact λh=>h|(intro h;omega)|assumption) rfl rfl ?_;refine Xd.index Xb a rfl (j:=k) (show(0:Int)<=k by omega) (show(k:Int)<c.bT.length by omega) xS rfl ?_;exact aD a C Y (Xd.arith Xb a rfl (w64 (by show _/\_;simp only;omega)) rfl (Xd.arith Xb a rfl (w64 (by show _/\_;simp only;omega)) rfl (aF a Y λO D=>bE func201 Y ⟨X0 (by unfold Aj;rw[bK ⟨hi,g⟩]),u.trans D⟩)))
theorem XoS(c:Conf)(p:Yz)(A:Ar)(V:ArV)(w:dD)(hc:Yd w c p)(hA:Zc w A V):Xe prog 119 #[.agg (X5 c p).toArray,.pointer (some ⟨A.ab,0,none⟩),Jj A.mb] w
 (λv w'=>Xc Xf w w'/\if Xy c=true/\(V.bs.length:Int)=c.size*c.bS then ∃vb,v=.tuple #[xV vb,W 0]/\w.heap.size<=vb/\Bq w' ⟨vb,c,p,A.ab,A.mb⟩ else v=.tuple #[.pointer none,W 1]):=by
 refine aR func119 ntmps119 Y (bC Y λcb o e1 h i s=>?_);refine bB h Y (bG (Xa8 c p o (hc.bR i)) Y λu j=>?_);have f:=i.trans j;have a:=j.bP h;cases hm:Xy c with
 |false=>
  rw[show Bw c=1 from by unfold Bw;rw[hm];rfl];exact bI Y (bE func119 Y ⟨f,by rw[bJ xS]⟩)
 |true=>
  rw[show Bw c=0 from by unfold Bw;rw[hm];rfl];have q:=Ny hm;refine aS Y (aQ 8 Xf xK Y λd=>aH d (λw' l=>XaI A V w' ((hA.bQ f).bQ l)) Y (aE d a Y (aE d a Y (Xd.arith Xb d rfl (w64 (by show _/\_;omega)) rfl (Xd.adv Xb d rfl (aF d Y λx b=>?_))))));by_cases g:(V.bs.length:Int)=c.size*c.bS
  .refine aI Y (show((V.bs.length:Int) != c.size*c.bS)=false by rw[g];exact bne_self_eq_false _) (bB (b.bP a) Y (aO Y (bC Y λvb y e4 m n t=>?_)));have k:=(f.trans b).trans n;exact bE func119 Y ⟨k,by rw[bK ⟨rfl,g⟩];exact⟨vb,rfl,xI f.size b.size,⟨m,hc.bR k,hm⟩⟩⟩
  .exact aM Y (show((V.bs.length:Int) != c.size*c.bS)=true by simpa using g) (bE func119 Y ⟨f.trans b,by rw[bJ (λr=>g r.2)]⟩)
abbrev Span:=Nat×Nat×Nat
def Cv(s:Span):List dE:=[.int .i64 (s.1:Nat),.int .i64 (s.2.1:Nat),.int .i64 (s.2.2:Nat)]
def Dq(at' n cR:Nat):Span:=(at'/cR,at'%cR,min n (cR-at'%cR))
def K8:Nat->Nat->Nat->Nat->List Span
 |0,_,_,_=>[]
 |f+1,at',n,cR=>if n=0 then [] else Dq at' n cR::K8 f (at'+min n (cR-at'%cR)) (n-min n (cR-at'%cR)) cR
def Z2(at' n cR:Nat):List Span:=K8 n at' n cR
theorem Ko{cR:Nat}(hp:1<=cR)(hn:0<n):0<min n (cR-at'%cR):=by
 have:=YW at' (show 0<cR by omega);omega
theorem Xhv{cR:Nat}(hp:1<=cR):∀(f g at' n:Nat),n<=f->n<=g->K8 f at' n cR=K8 g at' n cR
 |0,0,_,_,_,_=>rfl
 |0,g+1,at',n,h,_=>by
   obtain rfl:n=0:=X
   simp[K8]
 |f+1,0,at',n,_,h=>by
   obtain rfl:n=0:=X
   simp[K8]
 |f+1,g+1,at',n,a,b=>by
  unfold K8;split
  .rfl
  .rename_i c
   have:=Ko (at':=at') hp (show 0<n by omega);rw[Xhv hp f g _ _ X X]
theorem Tj(at' cR:Nat):Z2 at' 0 cR=[]:=rfl
theorem L7{cR:Nat}(hp:1<=cR)(hn:0<n):Z2 at' n cR=Dq at' n cR::Z2 (at'+min n (cR-at'%cR)) (n-min n (cR-at'%cR)) cR:=by
 have:=Ko (at':=at') hp hn;unfold Z2;obtain⟨m,rfl⟩:∃m,n=m+1:=⟨n-1,X⟩;rw[show K8 (m+1) at' (m+1) cR=Dq at' (m+1) cR::K8 m (at'+min (m+1) (cR-at'%cR)) (m+1-min (m+1) (cR-at'%cR)) cR from by
  show(if m+1=0 then [] else _)=_
  rw[bJ X]]
 rw[Xhv hp m _ _ _ X (XF _)]
theorem Ti{cR:Nat}(hp:1<=cR):∀(n at':Nat),(Z2 at' n cR).length<=n:=by
 intro n
 induction n using QS with
 |_ n ih=>
  intro at';by_cases a:n=0
  .subst a;exact XF _
  .have:=Ko (at':=at') hp (show 0<n by omega);rw[L7 hp X,XN];have:=ih (n-min n (cR-at'%cR)) X (at'+min n (cR-at'%cR));omega
abbrev Du(w:dD)(b:Nat)(x:Int):Prop:=w.heap[b]?=some (.cells ([.int .i64 x]:List dE).toArray 3 (0,0))
theorem Xjk(pa pp pn at' cR n:Nat)(w:dD)(ha:Du w pa at')(hp:Du w pp cR)(hn:Du w pn n)(hb:at'+n<=16777216/\1<=cR/\cR<=16777216):Xe prog 321 #[xV pa,xV pp,xV pn] w (Grow (.agg (Cv (Dq at' n cR)).toArray) w):=by
 have h:0<=(at':Int)%cR/\(at':Int)%cR<cR:=⟨Int.emod_nonneg _ X,Int.emod_lt_of_pos _ X⟩;have e3:((min n (cR-at'%cR):Nat):Int)=if (cR:Int)-(at':Int)%cR<n then (cR:Int)-(at':Int)%cR else n:=by
  rw[show((at':Int)%cR)=((at'%cR:Nat):Int) from rfl];have:=YW at' (show 0<cR by omega);split <;> omega
 refine aR func321 ntmps321 Y (bC Y λrb l e1 d a i=>bB (a.bP ha) Y (bB (a.bP hp) Y (Xa.div Xb rfl X (Hg X) rfl (aQ 10 Xf xK Y λb=>aE b (a.bP ha) Y (aE b (a.bP hp) Y (Xd.div Xb b rfl X (Gr X X) rfl (aE b (a.bP hn) Y (aE b (a.bP hp) Y (aC b Y (Xd.adv Xb b rfl (Xd.build Xb b rfl rfl (aF b Y λm c=>bF (c.bP d) Y λo f g j=>?_))))))))))));exact aK func321 f Y ⟨by unfold Cv Dq;simp only;rw[e3];rfl,((a.trans c).sn g)⟩
theorem Xjm(l pa pp pn at0 n0 cR:Nat)(w:dD)(xY:Nat->Prop)(I:Nat->dD->Prop)(hb:at0+n0<=16777216/\1<=cR/\cR<=16777216)(ha:Du w pa at0)(hp:Du w pp cR)(hn:Du w pn n0)(hne:pa≠pp/\pa≠pn/\pp≠pn)(hY:¬xY pa/\¬xY pp/\¬xY pn)(hI:∀k w w',I k w->Xc (λz=>z=pa\/z=pn) w w'->I k w')(hy:∀k w0 w (h:k<(Z2 at0 n0 cR).length),I k w0->Xc Xf w0 w->Lh prog l [.agg (Cv (Z2 at0 n0 cR)[k]).toArray] w (λv w'=>v=.bool true/\I (k+1) w'/\Xc (λz=>xY z/\z<w0.heap.size) w w'))(h0:I 0 w):Xe prog 320 #[Ke l,xV pa,xV pp,xV pn] w (λv w'=>v=.tuple #[]/\I (Z2 at0 n0 cR).length w'/\Xc (λz=>z=pa\/z=pn\/xY z) w w'):=by
 refine aR func320 ntmps320 Y ?_;refine Xa.loop (α:=Nat×Nat×Nat) (λ_=>[(0,false,Ke l),(1,false,xV pa),(3,false,xV pn),(5,false,.func (.func 321) #[] #[xV pa,xV pp,xV pn])])
  (λp w'=>∃pre,Z2 at0 n0 cR=pre++Z2 p.2.1 p.2.2 cR/\pre.length=p.1/\p.2.1+p.2.2=at0+n0/\I p.1 w'/\Du w' pa p.2.1/\Du w' pp cR/\Du w' pn p.2.2/\Xc (λz=>z=pa\/z=pn\/xY z) w w') (λp=>p.2.2) (0,at0,n0) ⟨rfl,rfl,rfl,rfl,trivial⟩
  ⟨[],rfl,rfl,rfl,h0,ha,hp,hn,Xc.refl _ _⟩ ?_
 rintro⟨k,at',n⟩ D ⟨pre,a,P,K,q,i,E,j,F⟩ ih;simp only at a P K q i j
 subst P;refine aN Y (bB j Y (aT Y (λL=>?_) λL=>?_))
 .have m:0<n:=xH (bL L)
  have r:=Ko (at':=at') hb.2.1 m;have d:=L7 (at':=at') hb.2.1 m;refine bG (Xjk pa pp pn at' cR n D i E j X) Y λw2 s=>bC Y λsb w3 e3 Q R a5=>bF Q Y λw4 t S a6=>?_;have b:=(s.trans R).bU S (λz hz e=>xH s.size);have T:pre.length<(Z2 at0 n0 cR).length:=by rw[a,d];simp
  have U:(Z2 at0 n0 cR)[pre.length]=Dq at' n cR:=by
   simp only[a,d];simp
  have G:=hy pre.length D w4 T q b;rw[U] at G;refine bB t Y (Xa.yield rfl G ?_);rintro _ w5 ⟨rfl,V,f⟩;have a4:D.heap.size<=sb:=xH s.size
  have a7:=Xg i;have H:=f.heap (b.bP i) (λh=>hY.1 h.1);have J:=f.heap (b.bP j) (λh=>hY.2.2 h.1);have u:=f.heap t (λh=>xH h.2);refine aN Y (aS Y (aQ 9 (λz=>z=pa) xK Y λc=>Xd.loadbAt (4) Xb c rfl rfl rfl J (by first|exact λh=>h|(intro h;omega)|assumption) rfl rfl (Xd.loadbAt (2) Xb c rfl rfl rfl u (by first|exact λh=>h|(intro h;omega)|assumption) rfl rfl (Xd.loadbAt (6) Xb c rfl rfl rfl u (by first|exact λh=>h|(intro h;omega)|assumption) rfl rfl (Xd.arith Xb c rfl (w64 (by show _/\_;unfold Dq;simp only;omega)) rfl (Xd.cK c rfl λw6 x=>Xo.cJ Xb c rfl (x.bP H) rfl rfl (Xd.arith Xb c rfl (w64 (by show _/\_;unfold Dq;simp only;omega)) rfl (Xd.cK c rfl λa0 y=>Xo.store Xb c rfl (y.bP (x.bP H)) (by first|(intro h;exact rfl)|(intro h;omega)) rfl rfl rfl λa8 M A a9=>aF c Y λw7 o=>?_))))))));have g:=x.trans y;refine bF (o.bP (A.heap (g.bP J) (λe=>hne.2.1 e.symm))) Y λw8 a2 B aa=>?_;have N:Xc (λz=>z=pa\/z=pn) a0 w8:=((A.mono λ_ _ h=>.inl h).trans o.gr).trans (B.mono λ_ _ h=>.inr h);have C:=g.gr.trans N;have O:Xc (λz=>z=pa\/z=pn\/xY z) D w8:=(b.gr.trans (f.mono λ_ _ h=>.inr (.inr h.1))).trans (C.mono λ_ _ h=>h.elim .inl (λh=>.inr (.inl h)));exact ih (pre.length+1,at'+min n (cR-at'%cR),n-min n (cR-at'%cR)) _ _ ⟨pre++[Dq at' n cR],by rw[a,d];simp,xS,xP,hI _ _ _ V C,by
   have e:((at':Int)+((Dq at' n cR).2.2:Nat))=((at'+min n (cR-at'%cR):Nat):Int):=by unfold Dq;simp only;omega
   simp only
   rw[<-e];exact(B.heap (o.bP M) hne.2.1),(B.heap (o.bP (A.heap (g.bP (f.heap (b.bP E) (λh=>hY.2.1 h.1))) (λe=>hne.1 e.symm))) hne.2.2),by
   have e:((n:Int)-((Dq at' n cR).2.2:Nat))=((n-min n (cR-at'%cR):Nat):Int):=by unfold Dq;simp only;omega
   simp only
   rw[<-e];exact a2,F.trans O⟩ xP ⟨rfl,rfl,rfl,rfl,trivial⟩
 .have m:n=0:=xH (bM L)
  subst m;have r:(Z2 at0 n0 cR).length=pre.length:=by rw[a,Tj];simp
  exact bE func320 Y ⟨rfl,by rw[r];exact q,F⟩
theorem Xjl(at' n cR:Int)(w:dD):Xe prog 305 #[W at',W n,W cR] w (λv w'=>∃pa pp pn,v=.func (.func 320) #[] #[xV pa,xV pp,xV pn]/\
 w.heap.size<=pa/\w.heap.size<=pp/\w.heap.size<=pn/\(pa≠pp/\pa≠pn/\pp≠pn)/\Du w' pa at'/\Du w' pp cR/\Du w' pn n/\Xc Xf w w'):=by
 exact aR func305 ntmps305 Y (bC Y λpa k e1 d c h=>bC Y λpn l e2 f b i=>bC Y λpp m e3 g a j=>bE func305 Y ⟨pa,pp,pn,rfl,X,X,X,X,a.bP (b.bP d),g,a.bP f,(c.trans b).trans a⟩)
theorem Xnr{L:List Span}(h:Xm base t 3 w v L.length (L.flatMap Cv)):∃a cap,v=.slice a L.length cap/\Rows Cv 3 w a L/\∀b off s,a=some ⟨b,off,s⟩->base<=b:=by
 rcases h.2 with⟨rfl,m⟩|⟨g,cap,cur,rfl,n,o,y,z,A,p⟩
 .obtain rfl:L=[]:=ZZ.1 m;exact⟨none,0,rfl,λi x c=>by simp at c,λ_ _ _ e=>by cases e⟩
 .refine⟨some ⟨g,0,none⟩,cap,rfl,λi x c=>⟨g,0,rfl,λj v f=>?_⟩,λb off s e=>by cases e;exact n⟩;have u:=(XC.1 c).1;have q:j<3:=by have:=(XC.1 f).1;simpa [Cv] using this
  rw[Yx o];have k:∀(L:List Span) (i:Nat) (x:Span),L[i]?=some x->(L.flatMap Cv)[i*3+j]?=(Cv x)[j]?:=by
   intro L
   induction L with
   |nil=>intro i x c;simp at c
   |cons s r ih=>
    intro i x c;rw[ZV];have d:(Cv s).length=3:=rfl;cases i with
    |zero=>
     simp at c;subst c;rw[Nat.zero_mul,XT,ZA (by rw[d];exact q)]
    |succ i=>
     rw[YC (by rw[d];omega),d,show(i+1)*3+j-3=i*3+j from by omega];exact ih i x (xU c)
  have l:=k L i x c;rw[f,<-p,Y2,bK X] at l;rw[XT]
  simpa using l
theorem Xjj(at' n cR:Nat)(w:dD)(hb:at'+n<=16777216/\1<=cR/\cR<=16777216):Xe prog 280 #[W at',W n,W cR] w
 (λv w'=>∃a cap,v=.slice a (Z2 at' n cR).length cap/\Rows Cv 3 w' a (Z2 at' n cR)/\(∀b off s,a=some ⟨b,off,s⟩->w.heap.size<=b)/\Xc Xf w w'):=by
 have bh:maxLen=9223372036854775807:=rfl;have bi:=Ti (cR:=cR) hb.2.1 n at';refine aR func280 ntmps280 Y (aS Y (aS Y (aS Y (aS Y (aV Y (aS Y (bC Y λlb w1 e1 ag p bj=>aP Y (Xjl at' n cR w1) ?_)))))));rintro _ w2 ⟨pa,pp,pn,rfl,bk,bm,bn,ah,Q,R,T,E⟩;have az:=Xg Q;have b0:=Xg R;have b1:=Xg T;have F:=p.trans E;have bo:=E.size;refine aN Y (Xa.rangeFunc rfl rfl ⟨Tryz.f320,func320,rfl,rfl⟩ λG B tmps w3 y hB a9 ai aj q bp=>?_);have aa:G.state=.ready:=by rw[y]
 have b3:({G with state:=.ready,pending:=none}:Loop)=G:=by rw[y]
 have ab:G.pending=none:=by rw[y]
 refine(Xjm (B+1) pa pp pn at' n cR w3 (λz=>z=lb\/z=B+1\/B+2<=z)
  (λk w'=>k<=(Z2 at' n cR).length/\∃v,w'.heap[lb]?=some (.cells ([v]:List dE).toArray 338 (0,0))/\Xm (B+2) 341 3 w' v k (((Z2 at' n cR).take k).flatMap Cv)/\
   w'.heap[B+1]?=some (.loop G)/\w'.heap[B]?=some (.deferred (some []))/\B+2<=w'.heap.size/\Xc Xf w w')
  hb (q.bP Q) (q.bP R) (q.bP T) ah ⟨X,X,X⟩ ?_ ?_ ⟨XQ _,_,q.bP (E.bP ag),World.ownsRow_nil _ _ _ _,aj,ai,X,(F.trans q)⟩).mono ?_
 .rintro k w4 L ⟨H,v,t,d,x,I,h5,J⟩ D;refine⟨H,v,D.heap t X,d.bR D (λb hb e=>?_),D.heap x X,D.heap I X,YB h5 D.size,J.bU D (λz K e=>xH p.size)⟩;have:=(World.ownsRow.lt d b hb.symm).1;omega
 .rintro k w4 L H ⟨bq,v,t,d,x,I,h5,J⟩ r;subst y;refine Lh.enter (ps:=[33]) (r.bP x) rfl rfl a9 rfl (aN Y (bC Y λsb w6 e6 al U am=>bF al Y λw7 ad V br=>?_));have c:=(r.trans U).bU V (λz K e=>xH r.size);have b5:=r.size;refine Xa.beginRound rfl (c.bP x) rfl λw8 ap f bs=>aN Y (bB (f.heap (c.bP t) X) Y (bB (f.heap ad X) Y (Xa.buildSlice Xb rfl λb9 w9 e9 aq g bt=>aN Y ?_)));have A:=((d.bR c (λ_ _ h=>h)).bR f (λb hb e=>xH (World.ownsRow.lt d b hb.symm).1)).bR g (λ_ _ h=>h);have ar:((Z2 at' n cR).take (k+1)).flatMap Cv=((Z2 at' n cR).take k).flatMap Cv++Cv (Z2 at' n cR)[k]:=by
   rw[ZI,XD H,List.flatMap_append];simp
  refine Xa.append (base:=B+2) (news:=Cv (Z2 at' n cR)[k]) Xb rfl A (by have:=c.size;have:=f.size;have:=g.size;omega) rfl (λi u M=>by rw[C0,Yx aq];simpa [Cv,Qa] using M) (λu M=>by simp[Cv] at M;rcases M with rfl|rfl|rfl <;> rfl) xP ?_;intro bu a0 l j b6;obtain⟨bv,aw,ax,N,-⟩:=l.form X;subst N;refine aN Y ?_;refine bF (j.heap (g.bP (f.heap (c.bP t) X)) (λe=>xH (World.ownsRow.lt A lb e.symm).1)) Y λa6 O m b7=>?_;refine Xa.roundEnd rfl (m.heap (j.heap (g.bP ap) (λe=>xH (World.ownsRow.lt A _ e.symm).1)) X) ?_;intro a7 ae o b8;have hc:∀S:Nat->Prop,S lb->S (B+1)->(∀z,some z=v.ownBlock->S z)->Xc S L a7:=λS c1 c2 c3=>by
   have a1:Xc S L w7:=U.gr.sn V;have a2:Xc S w7 w8:=f.mono λz _ e=>by subst e;exact c2
   have a3:Xc S w8 a0:=g.gr.trans (j.mono λz _ e=>c3 z e);have a4:Xc S a0 a6:=m.mono λz _ e=>by subst e;exact c1
   have a5:Xc S a6 a7:=o.mono λz _ e=>by subst e;exact c2
   exact(((a1.trans a2).trans a3).trans a4).trans a5
  refine⟨_,rfl,rfl,⟨H,_,o.heap O X,?_,ae,(o.heap (m.heap (j.heap (g.bP (f.heap (c.bP I) X)) (λe=>xH (World.ownsRow.lt A _ e.symm).1)) X) X),by have:=c.size;have:=f.size;have:=g.size;have:=j.size;omega,(J.trans r).bU (hc (λz=>z=lb\/B+1<=z) (.inl rfl) (.inr (XF _)) (λz e=>.inr (xH (World.ownsRow.lt d z e.symm).1))) (λz K e=>xH p.size)⟩,
   hc _ ⟨.inl rfl,(Xg t)⟩ ⟨.inr (.inl rfl),(Xg x)⟩ (λz e=>⟨.inr (.inr (World.ownsRow.lt d z e.symm).1),(World.ownsRow.lt d z e.symm).2⟩)⟩
  rw[ar];exact(l.bR m (λb hb e=>xH (World.ownsRow.lt l b hb.symm).1)).bR o (λb hb e=>xH (World.ownsRow.lt l b hb.symm).1)
 .rintro _ w4 ⟨rfl,⟨H,v,t,d,x,I,h5,J⟩,bw⟩;refine⟨_,x,by rw[aa];simp,?_⟩;intro L C bx;rw[ab];refine aN Y (bB (C.heap t X) Y ?_);rw[ZM] at d;refine Xa.retM Xb rfl func280 (C.heap I X) (vs:=[v]) (λ_ _=>.tmp rfl .nil) ?_;intro w6 a8 am;obtain⟨a,cap,rfl,P,af⟩:=Xnr ((d.bR C (λb hb e=>xH (World.ownsRow.lt d b hb.symm).1)).bR a8 (λb hb e=>xH (World.ownsRow.lt d b hb.symm).1));exact⟨a,cap,rfl,P,λb off s e=>xI (af b off s e) F.size,(J.bU C (λz K e=>xH p.size)).bU a8 (λz K e=>xH p.size)⟩
theorem Rd.far'{k:IntKind}(h:Rd k w a zs)(hs:0<zs.length->Xj S a)(hc:Xc S w w'):Rd k w' a zs:=(Og.bR ⟨h,λb off s e c=>hs c b off s e⟩ hc).1
theorem Zw.bW(h:Zw w q)(hs:0<q.bS.length->Xj S q.pa)(hc:Xc S w w'):Zw w' q:=⟨h.rd.far' hs hc,h.len⟩
theorem Yd.bW{p:Yz}(h:Yd w c p)(h1:0<c.bT.length->Xj S p.ca)(h2:0<c.bV.length->Xj S p.ka)(hc:Xc S w w'):Yd w' c p:=⟨h.bT.far' h1 hc,h.bV.far' h2 hc,h.lc,h.lk,h.size⟩
theorem Bq.bW{w w':dD}{v:Vw}{S:Nat->Prop}(h:Bq w v)(h0:¬S v.vb)(h1:0<v.c.bT.length->Xj S v.p.ca)(h2:0<v.c.bV.length->Xj S v.p.ka)(hc:Xc S w w'):Bq w' v:=⟨hc.heap h.obj h0,h.cO.bW h1 h2 hc,h.may⟩
theorem Rd.outNew{k:IntKind}(h:Rd k w a zs)(hs:0<zs.length->Xj S a)(hS:∀z,S' z->S z\/w.heap.size<=z):0<zs.length->Xj S' a:=λc b off s e d=>by
 rcases hS b d with h1|h1
 .exact hs c b off s e h1
 .obtain⟨b',off',e',f⟩:=h 0 c;rw[e] at e';cases e'
  have:=World.block_lt_of_cell? w _ f;simp only at this
  omega
theorem XcK{cR:Nat}(hp:1<=cR):∀(n at':Nat),∀s∈Z2 at' n cR,s.1*cR+s.2.1+s.2.2<=at'+n/\0<s.2.2/\s.2.1+s.2.2<=cR/\at'<=s.1*cR+s.2.1:=by
 intro n
 induction n using QS with
 |_ n ih=>
  intro at' s hs;by_cases b:n=0
  .subst b;cases hs
  .have c:=Ko (at':=at') hp (show 0<n by omega);have d:=YW at' (show 0<cR by omega);have a:=YG at' cR;rw[L7 hp X] at hs;rcases ZC.1 hs with rfl|hs
   .unfold Dq;simp only
    rw[YJ] at a;omega
   .have:=ih _ X _ s hs;omega
def Z1(c:Conf)(q:Plc)(at' n:Nat):List (Int×Int):=
 if q.cL=-1 then (Z2 at' n c.size.toNat).map λs=>(q.bS.getD s.1 0*c.size+s.2.1,(s.2.2:Int)) else [(Aj c q+at',(n:Int))]
theorem Xjn(A:Ar)(V:ArV)(n:Int)(w:dD)(h:Zc w A V):Xe prog 175 #[Jj A.mb,W n] w (λ_ w'=>Zc w' A (V.cT A n)/\Xc (Y4 A) w w'):=by
 cases a:A.mb with
 |none=>
  refine(XbG n w).mono λ_ w' e=>?_;subst e;exact⟨by unfold ArV.cT;rw[a];exact h,Xc.refl _ _⟩
 |some b=>
  refine(XbF b V.total V.dA n w (h.met b a)).mono λ_ w' ⟨hm,c⟩=>?_;exact⟨by unfold ArV.cT;rw[a];exact h.metered a hm c,c.mono λx _ d=>by unfold Y4;rw[d];exact a⟩
theorem Xo0(v:Vw)(q:Plc)(at' n:Int)(w:dD):Xe prog 230 #[Gb v,.agg (Xw q).toArray,W at',W n] w (λu w'=>∃pb vb ab nb,u=.func (.func 279) #[] #[xV pb,xV vb,xV ab,xV nb]/\
 w.heap.size<=pb/\w.heap.size<=vb/\w.heap.size<=ab/\w.heap.size<=nb/\Ji w' pb q/\He w' vb v/\Du w' ab at'/\Du w' nb n/\Xc Xf w w'):=by
 refine aR func230 ntmps230 Y (bC Y λvb p e1 g d k=>bC Y λpb r e2 h f l=>bC Y λab s e3 i c m=>bC Y λnb t e4 j a o=>?_);have b:=f.trans (c.trans a);exact bE func230 Y ⟨pb,vb,ab,nb,rfl,X,X,X,X,(c.trans a).bP h,b.bP g,a.bP i,j,d.trans b⟩
def B6(q:Plc)(A:Ar)(V:ArV):ArV:=if q.cL=-1 then V.cT A 1 else V
theorem Zc.mlt(h:Zc w A V):∀z,Y4 A z->z<w.heap.size:=λz a=>Xg (h.met z a).1
theorem Xo1(l:Nat)(v:Vw)(q:Plc)(at' n pb vb ab nb:Nat)(A:Ar)(Vs:Nat->ArV)(K:Nat->(Nat->Prop)->dD->Prop)(Y0:Nat->Prop)(w:dD)(hv:Bq w v)(hq:Zw w q)(hmb:v.mb=A.mb)(hin:Ym v.c q=true)(hr:(at':Int)+n<=Zt v.c q)(hfew:q.bS.length<=4096)(hpb:Ji w pb q)(hvb:He w vb v)(hab:Du w ab at')(hnb:Du w nb n)(hP1:∀z,Y0 z\/Y4 A z->z≠pb/\z≠vb/\z≠v.vb)(hPq:0<q.bS.length->Xj (λz=>Y0 z\/Y4 A z) q.pa)(hPc:0<v.c.bT.length->Xj (λz=>Y0 z\/Y4 A z) v.p.ca)(hPk:0<v.c.bV.length->Xj (λz=>Y0 z\/Y4 A z) v.p.ka)(hKlt:∀k xY w,K k xY w -> ∀z,xY z->z<w.heap.size)(hK:∀k xY w w',K k xY w->Xc (Y4 A) w w'->K k xY w')(hy:∀k xY w0 w (h:k<(Z1 v.c q at' n).length),Zc w0 A (B6 q A (Vs k))->K k xY w0->Xc Xf w0 w -> Lh prog l [W (Z1 v.c q at' n)[k].1,W (Z1 v.c q at' n)[k].2] w (λu w'=>u=.bool true/\Zc w' A (Vs (k+1))/\Xc xY w w'/\∃Y',K (k+1) Y' w'/\∀z,Y' z->xY z\/w.heap.size<=z))(h0:Zc w A (Vs 0))(hK0:K 0 Y0 w):Xe prog 279 #[Ke l,xV pb,xV vb,xV ab,xV nb] w
  (λu w'=>u=.tuple #[]/\Zc w' A (Vs (Z1 v.c q at' n).length)/\(∃Y',K (Z1 v.c q at' n).length Y' w'/\∀z,Y' z->Y0 z\/w.heap.size<=z)/\Xc (λz=>Y0 z\/Y4 A z) w w'):=by
 obtain⟨m1,m2,m3⟩:=Ea hv.may;have b1:=Ny hv.may;have a2:∀{x y:dD},Xc Xf x y->Xc (Y4 A) x y:=λh=>h.gr;refine aR func279 ntmps279 Y (bB hpb Y ?_);by_cases d:q.cL=-1
 .obtain⟨b2,I⟩:=Uw hin d;have J:Zt v.c q=(q.bS.length:Int)*v.c.size:=by unfold Zt;rw[bK hin,bK d]
  rw[J] at hr;have a3:(q.bS.length:Int)*v.c.size<=4096*4096:=ZH X X X X;obtain⟨sz,a4⟩:=XE (show 0<=v.c.size by omega);have a9:v.c.size.toNat=sz:=X
  have o:Z1 v.c q at' n=(Z2 at' n sz).map λs=>(q.bS.getD s.1 0*v.c.size+s.2.1,(s.2.2:Int)):=by unfold Z1;rw[bK d,a9]
  have B:(Z1 v.c q at' n).length=(Z2 at' n sz).length:=by rw[o,XU]
  have b9:=Ti (cR:=sz) X n at';refine Xa.no Xb rfl (show(q.cL != -1)=false by rw[d];rfl) rfl ?_;refine Xa.drawn (q:=10) Xf Xb Xn xK rfl ?_;intro c;refine Xd.cJ Xb c rfl hab (by first|exact λh=>h|(intro h;omega)|assumption) rfl rfl ?_;refine Xd.cJ Xb c rfl hnb (by first|exact λh=>h|(intro h;omega)|assumption) rfl rfl ?_;refine Xd.cJ Xb c rfl hvb (by first|exact λh=>h|(intro h;omega)|assumption) rfl rfl ?_;refine Xd.cJ Xb c rfl hv.obj (by first|exact λh=>h|(intro h;omega)|assumption) rfl rfl ?_;have hd:∀w',Xc Xf w w'->Xe prog 280 #[W at',W n,W v.c.size] w' (λu m=>Xc Xf w' m/\∃a cap,u=.slice a (Z2 at' n sz).length cap/\Rows Cv 3 m a (Z2 at' n sz)/\(∀b off s,a=some ⟨b,off,s⟩->w'.heap.size<=b)):=λw' r=>by
   rw[a4];exact(Xjj at' n sz w' X).mono λu m ⟨a,cap,L,h2,h3,h4⟩=>⟨h4,a,cap,L,h2,h3⟩
  refine Xd.callQ c rfl rfl (λw' r=>(hd w' r).mono λu m ⟨L,a,cap,h2,h3,h4⟩=>(⟨L,a,cap,h2,h3,λb off s e=>YB r.size (h4 b off s e)⟩:Xc Xf w' m/\∃a cap,u=.slice a (Z2 at' n sz).length cap/\Rows Cv 3 m a (Z2 at' n sz)/\(∀b off s,a=some ⟨b,off,s⟩->w.heap.size<=b))) ?_;rintro _ w1 ai ⟨sa,scap,rfl,a1,ae⟩;refine Xd.adv Xb c rfl (aF c Y λm t=>?_);have f:=ai.trans t;have aj:Xj (λz=>Y0 z\/Y4 A z) sa:=λb off s e hb=>by
   have:=ae b off s e;rcases hb with hb|hb
   .have:=hKlt _ _ _ hK0 b hb;omega
   .have:=h0.mlt b hb;omega
  refine Xa.loop (α:=Nat) (λk=>[(0,false,Ke l),(1,false,xV pb),(2,false,xV vb),(26,false,.slice sa (Z2 at' n sz).length scap),(27,false,W (Z2 at' n sz).length),(28,false,W k)])
   (λk w'=>k<=(Z2 at' n sz).length/\Zc w' A (Vs k)/\(∃xY,K k xY w'/\∀z,xY z->Y0 z\/m.heap.size<=z)/\Xc (λz=>Y0 z\/Y4 A z) m w') (λk=>(Z2 at' n sz).length-k) 0 ⟨rfl,rfl,rfl,rfl,rfl,rfl,trivial⟩
   ⟨XQ _,h0.bQ f,⟨Y0,hK _ _ _ _ hK0 (a2 f),λ_ h=>.inl h⟩,Xc.refl _ _⟩ ?_
  rintro k w3 ⟨hk,M,⟨xY,a5,N⟩,i⟩ ih;refine aN Y (aT Y (λhc=>?_) λhc=>?_)
  .have C:k<(Z2 at' n sz).length:=xH (bL hc)
   obtain⟨s,hs⟩:∃s,s=(Z2 at' n sz)[k]:=⟨_,rfl⟩;obtain⟨i1,i2,i3,i4⟩:=XcK (cR:=sz) X n at' s (hs▸XL C);have G:s.1<q.bS.length:=by
    have L:(s.1*sz:Nat)<q.bS.length*sz:=by
     have:((q.bS.length*sz:Nat):Int)=(q.bS.length:Int)*v.c.size:=by rw[a4];rfl
     omega
    exact Nat.lt_of_mul_lt_mul_right L
   obtain⟨rb,roff,ak,H⟩:=((a1.bR t).at C);subst ak;rw[<-hs] at H;have O:∀j u,(Cv s)[j]?=some u->w3.cell? ⟨rb,roff+k*3+j,none⟩=some u:=λj u hu=>i.cell (H j u hu) (aj rb roff none rfl);have P:=i.heap (f.bP hvb) (λe=>(hP1 _ e).2.1 rfl);have a6:=(hv.bQ f).bW (λe=>(hP1 _ e).2.2 rfl) hPc hPk i;refine aU (k*3) Y (Xa.loadC Xb (Cv s) rfl xT (O) rfl (bC Y λsb w4 e4 al am ba=>bF al Y λw5 ah an bb=>?_));have p:=am.sn an;refine bB (p.bP P) Y (bB (a6.bQ p).obj Y ?_);rw[hmb];refine aP Y (Xjn A (Vs k) 1 w5 (M.bQ p)) ?_;rintro _ w6 ⟨ao,Q⟩;refine aN Y ?_;have ap:∀{x y:dD},Xc (Y4 A) x y->Xc (λz=>Y0 z\/Y4 A z) x y:=λh=>h.mono λ_ _ h=>.inr h;have g:=p.gr.trans (ap Q);have F:=Q.heap ah (λe=>xH (M.mlt _ e));obtain⟨gb,goff,a7,aq⟩:=(((hq.bQ f).bW hPq i).bW hPq g).rd s.1 G;have ar:0<=q.bS.getD s.1 0/\q.bS.getD s.1 0<v.c.bS:=I _ (by rw[XB,XD G];exact XL G);have R:0<=q.bS.getD s.1 0*v.c.size/\q.bS.getD s.1 0*v.c.size<=1024*4096:=⟨ZG ar.1 X,ZH X X X X⟩;have au:(Z1 v.c q at' n)[k]'(by rw[B];exact C)=(q.bS.getD s.1 0*v.c.size+s.2.1,(s.2.2:Int)):=by
    simp only[o,YZ,<-hs]
   obtain⟨cL,cR,idx,pa,pc,bS⟩:=q;simp only at a7
   subst a7;refine aQ 18 Xf xK Y λc=>aE c (g.heap (i.heap (f.bP hpb) (λe=>(hP1 _ e).1 rfl)) (λe=>(hP1 _ e).1 rfl)) Y (aE c F Y (Xd.index Xb c rfl (j:=s.1) (show(0:Int)<=(s.1:Nat) by omega) (show((s.1:Nat):Int)<bS.length by have:s.1<bS.length:=G;omega) xS rfl (aD c aq Y (aE c (g.heap P (λe=>(hP1 _ e).2.1 rfl)) Y (aE c (a6.bW (λe=>(hP1 _ e).2.2 rfl) hPc hPk g).obj Y (Xd.arith Xb c rfl (w64 (by show _/\_;simp only at R⊢;omega)) rfl (aE c F Y (Xd.arith Xb c rfl (w64 (by show _/\_;simp only at R⊢;omega)) rfl (aE c F Y (aF c Y λw7 S=>?_))))))))));have D:=hy k xY w6 w7 (by rw[B];exact C) (by unfold B6;rw[bK d];exact ao) (hK _ _ _ _ (hK _ _ _ _ a5 (a2 p)) Q) S;rw[au] at D;refine Xa.yield rfl D ?_;rintro _ w8 ⟨rfl,T,U,Y',V,a0⟩;refine aN Y (aS Y (aV Y ?_));have az:m.heap.size<=w7.heap.size:=by have:=i.size;have:=g.size;have:=S.size;omega
   exact ih (k+1) _ _ ⟨C,T,⟨Y',V,λz E=>(a0 z E).elim (N z) (λh=>.inr X)⟩,
    ((i.trans g).trans S.gr).bU U (λz E h=>.inl ((N z h).elim id (λh=>X)))⟩ X ⟨rfl,rfl,rfl,rfl,rfl,rfl,trivial⟩
  .have aw:k=(Z2 at' n sz).length:=xH (bM hc)
   subst aw;have b0:=f.size;rw[B];exact bE func279 Y ⟨rfl,M,⟨xY,a5,λz E=>(N z E).imp id (λh=>X)⟩,f.gr.trans i⟩
 .have o:Z1 v.c q at' n=[(Aj v.c q+at',(n:Int))]:=by unfold Z1;rw[bJ d]
  obtain⟨kk,pg,ix,a8,I,ax,bc,g1,g2,g3,g4,g5,g6,g7⟩:=Ik hv.may hin d;have ay:Aj v.c q=(pg:Int)*v.c.size+(ix:Int)*Zn v.c kk:=by unfold Aj;rw[bK ⟨hin,d⟩,a8,I,ax]
  have J:Zt v.c q=Zn v.c kk:=by unfold Zt;rw[bK hin,bJ d,a8]
  rw[J] at hr;refine aM Y (show(q.cL != -1)=true by simpa using d) (aQ 7 Xf xK Y λc=>aE c hvb Y (aE c hpb Y (aG c (λw' r=>Xdc v q w' (hv.bQ r) (hq.bQ r)) Y (aE c hab Y (Xd.arith Xb c rfl (w64 (by show _/\_;rw[ay];omega)) rfl (aE c hnb Y (aF c Y λm t=>?_)))))));have D:=hy 0 Y0 w m (by rw[o];simp) (by unfold B6;rw[bJ d];exact h0) hK0 t;rw[show(Z1 v.c q at' n)[0]'(by rw[o];simp)=(Aj v.c q+at',(n:Int)) from by simp only[o];rfl] at D;refine Xa.yield rfl D ?_;rintro _ w8 ⟨rfl,T,U,Y',V,a0⟩;refine aN Y ?_;have a3:(Z1 v.c q at' n).length=1:=by rw[o];rfl
  rw[a3];have:=t.size;exact bE func279 Y ⟨rfl,T,⟨Y',V,λz E=>(a0 z E).imp id (λh=>X)⟩,t.gr.trans (U.mono λ_ _ h=>.inl h)⟩
def Qy(c:Conf)(q:Plc)(at' n:Int):Int:=if Ym c q=false then 1 else if at'<0\/n<0\/Zt c q<n\/Zt c q-n<at' then 8 else 0
theorem Lb(hm:Xy c=true)(hfew:q.bS.length<=4096):0<=Zt c q/\Zt c q<=16777216:=by
 obtain⟨f,g,h⟩:=Ea hm;unfold Zt;split
 .rename_i hi
  split
  .have i:(q.bS.length:Int)*c.size<=4096*4096:=ZH X X X X;exact⟨ZG X X,X⟩
  .rename_i a
   obtain⟨kk,pg,ix,b,_,_,d,_,j,k,_⟩:=Ik hm hi a;rw[b];omega
 .omega
theorem Zc.blt(h:Zc w A V):∀b,b=A.ab\/b=A.db\/b=A.mc\/A.mb=some b->b<w.heap.size:=λb hb=>by
 rcases hb with rfl|rfl|rfl|hb
 .exact Xg h.obj
 .exact Xg h.dat
 .exact Xg h.cap
 .exact Xg (h.met b hb).1
theorem Xde(v:Vw)(q:Plc)(at' n fk:Nat)(caps:List dE)(A:Ar)(Vs:Nat->ArV)(K:Nat->(Nat->Prop)->dD->Prop)(Y0:Nat->Prop)(w:dD)(hv:Bq w v)(hq:Zw w q)(hmb:v.mb=A.mb)(hck:Qy v.c q at' n=0)(hfew:q.bS.length<=4096)(hPv:¬(Y0 v.vb\/Y4 A v.vb))(hPq:0<q.bS.length->Xj (λz=>Y0 z\/Y4 A z) q.pa)(hPc:0<v.c.bT.length->Xj (λz=>Y0 z\/Y4 A z) v.p.ca)(hPk:0<v.c.bV.length->Xj (λz=>Y0 z\/Y4 A z) v.p.ka)(hKlt:∀k xY w,K k xY w -> ∀z,xY z->z<w.heap.size)(hK:∀k xY w1 w2 S,K k xY w1->Xc S w1 w2->(∀z,S z->Y4 A z\/(¬xY z/\w.heap.size<=z))->K k xY w2)(hdo:∀k xY w0 (h:k<(Z1 v.c q at' n).length),Zc w0 A (B6 q A (Vs k))->K k xY w0 -> Xe prog fk (W (Z1 v.c q at' n)[k].1::W (Z1 v.c q at' n)[k].2::caps).toArray w0 (λ_ w'=>Zc w' A (Vs (k+1))/\Xc xY w0 w'/\∃Y',K (k+1) Y' w'/\∀z,Y' z->xY z\/w0.heap.size<=z))(h0:Zc w A (Vs 0))(hK0:K 0 Y0 w):Xe prog 163 #[Gb v,.agg (Xw q).toArray,W at',W n,.func (.func fk) #[] caps.toArray] w
  (λu w'=>u=W 0/\Zc w' A (Vs (Z1 v.c q at' n).length)/\(∃Y',K (Z1 v.c q at' n).length Y' w'/\∀z,Y' z->Y0 z\/w.heap.size<=z)/\Xc (λz=>Y0 z\/Y4 A z) w w'):=by
 have l:=Lb (c:=v.c) (q:=q) hv.may hfew;have hi:Ym v.c q=true:=by
  cases hi:Ym v.c q with
  |true=>rfl
  |false=>unfold Qy at hck;rw[bK hi] at hck;cases hck
 have av:¬((at':Int)<0\/(n:Int)<0\/Zt v.c q<n\/Zt v.c q-n<at'):=λh=>by
  unfold Qy at hck;rw[bJ (by rw[hi];decide),bK h] at hck;cases hck
 refine aR func163 ntmps163 Y (bC Y λqb w1 e1 ad ae af=>bC Y λdb w2 e2 ag a1 b8=>?_);have j:=a1.bP ad;have hw:=ae.trans a1;refine bB j Y (bG (Xdf v q w2 (hv.bQ hw) (hq.bQ hw)) Y λw3 D=>?_);have J:=hw.trans D;rw[hi];refine aS Y (aS Y (aS Y (bB (D.bP j) Y (bG (Xdd v q w3 (hv.bQ J) (hq.bQ J) X) Y λw4 L=>?_))));have M:=J.trans L;refine aS Y (bB ((D.trans L).bP j) Y (bG (Xdd v q w4 (hv.bQ M) (hq.bQ M) X) Y λw5 a2=>?_));have a3:=M.trans a2;have N:=(D.trans L).trans a2;refine aV Y (aS Y (bB (N.bP j) Y (aP Y (Xo0 v q at' n w5) ?_)));rintro _ w6 ⟨pb,vb,ab,nb,rfl,b9,ba,bb,bc,bpb,bvb,bab,bnb,a4⟩;have ah:=a3.trans a4;have O:=(N.trans a4).bP ag;have l1:=Xg bpb;have l2:=Xg bvb;have b0:=a3.size;have b1:=Xg O;refine aN Y (Xa.rangeFunc rfl rfl ⟨Tryz.f279,func279,rfl,rfl⟩ λP B tmps w7 E hB a7 ai aj g bd=>?_);have m:=ah.trans g;have Q:=hKlt _ _ _ hK0;have F:=h0.mlt;have be:=Xg hv.obj;have hN:∀{x y:dD} {k xY},K k xY x->Xc Xf x y->K k xY y:=λhk hc=>hK _ _ _ _ _ hk hc (λ_ h=>h.elim);have a9:P.state=.ready:=by rw[E]
 have b4:({P with state:=.ready,pending:=none}:Loop)=P:=by rw[E]
 have aa:P.pending=none:=by rw[E]
 refine(Xo1 (B+1) v q at' n pb vb ab nb A Vs
  (λk R x=>∃xY,K k xY x/\(∀z,R z↔xY z\/z=B+1)/\x.heap[B+1]?=some (.loop P)/\x.heap[B]?=some (.deferred (some []))/\x.heap[db]?=some (.cells ([.func (.func fk) #[] caps.toArray]:List dE).toArray 169 (0,0))/\(∀z,xY z->z≠B/\z≠B+1/\z≠db))
  (λz=>Y0 z\/z=B+1) w7 (hv.bQ m) (hq.bQ m) hmb hi X hfew (g.bP bpb) (g.bP bvb) (g.bP bab) (g.bP bnb) ?_ ?_ ?_ ?_ ?_ ?_ ?_ (h0.bQ m) ?_).mono ?_
 .intro z hz;rcases hz with(hz|hz)|hz
  .have:=Q z hz;exact⟨X,X,λe=>hPv (.inl (e▸hz))⟩
  .exact⟨X,X,X⟩
  .have:=F z hz;exact⟨X,X,λe=>hPv (.inr (e▸hz))⟩
 .exact hq.rd.outNew hPq (λz hz=>by rcases hz with(hz|hz)|hz;exact .inl (.inl hz);exact .inr X;exact .inl (.inr hz))
 .exact hv.cO.bT.outNew hPc (λz hz=>by rcases hz with(hz|hz)|hz;exact .inl (.inl hz);exact .inr X;exact .inl (.inr hz))
 .exact hv.cO.bV.outNew hPk (λz hz=>by rcases hz with(hz|hz)|hz;exact .inl (.inl hz);exact .inr X;exact .inl (.inr hz))
 .rintro k R x ⟨xY,p,d,r,I,T,f⟩ z hz;rcases(d z).1 hz with hz|rfl
  .exact hKlt _ _ _ p z hz
  .exact Xg r
 .rintro k R x y ⟨xY,p,d,r,I,T,f⟩ hs;exact⟨xY,hK _ _ _ _ _ p hs (λz h=>.inl h),d,hs.heap r (λe=>xH (F _ e)),hs.heap I (λe=>xH (F _ e)),hs.heap T (λe=>xH (F _ e)),f⟩
 .rintro k R x0 x hk al ⟨xY,p,d,r,I,T,f⟩ U;have s:=U.bP r;have ac:=U.bP I;have t:=U.bP T;subst E;refine Lh.enter (ps:=[46,47]) s rfl rfl a7 rfl (aN Y (Xa.beginRound rfl s rfl λx1 am i af=>aN Y ?_));refine bB (i.heap t X) Y (aP Y (hdo k xY x1 hk ((al.bQ U).bR i (λb l e=>xH (h0.blt b l))) (hK _ _ _ _ _ (hN p U) i (λz e=>.inr ⟨λa=>(f z a).2.1 e,X⟩))) ?_);rintro _ x2 ⟨an,G,Y',ao,a5⟩;refine aN Y ?_;refine Xa.roundEnd rfl (G.heap am (λa=>(f _ a).2.1 rfl)) ?_;intro x3 ap o bf;have b6:=Xg t;have aw:=Xg s;have V:∀z,Y' z->z≠B/\z≠B+1/\z≠db:=λz hz=>(a5 z hz).elim (f z) (λh=>X);refine⟨_,rfl,rfl,(an.bR o (λb l e=>xH (h0.blt b l))),((i.mono λz _ e=>(d z).2 (.inr e)).trans (G.mono λz _ e=>(d z).2 (.inl e))).trans (o.mono λz _ e=>(d z).2 (.inr e)),λz=>Y' z\/z=B+1,⟨Y',(hK _ _ _ _ _ ao o (λz e=>.inr ⟨λa=>(V z a).2.1 e,X⟩)),λz=>Iff.rfl,ap,o.heap (G.heap (i.heap ac X) (λa=>(f _ a).1 rfl)) X,o.heap (G.heap (i.heap t X) (λa=>(f _ a).2.2 rfl)) X,V⟩,λz hz=>?_⟩;rcases hz with hz|hz
  .exact(a5 z hz).elim (λh=>.inl ((d z).2 (.inl h))) (λh=>.inr X)
  .exact .inl ((d z).2 (.inr hz))
 .exact⟨Y0,hN hK0 m,λz=>Iff.rfl,aj,ai,g.bP O,λz hz=>xH (Q z hz)⟩
 .rintro _ w8 ⟨rfl,aq,⟨R,⟨xY,p,d,r,I,T,f⟩,ar⟩,au⟩;refine⟨_,r,by rw[a9];simp,?_⟩;intro w9 H bg;rw[aa];refine aN Y (Xa.retM Xb rfl func163 (H.heap I X) (vs:=[W 0]) (λ_ _=>.tmp rfl .nil) λbh C b7=>?_);refine⟨rfl,((aq.bR H (λb l e=>xH (h0.blt b l))).bR C (λb l e=>xH (h0.blt b l))),⟨xY,(hK _ _ _ _ _ (hK _ _ _ _ _ p H (λz e=>.inr ⟨λa=>(f z a).2.1 e,X⟩)) C (λz e=>.inr ⟨λa=>(f z a).1 e,X⟩)),λz hz=>?_⟩,?_⟩
  .rcases ar z ((d z).2 (.inl hz)) with(h|h)|h
   .exact .inl h
   .exact .inr X
   .exact .inr X
  .exact(((m.gr.bU au (λz hz h=>by rcases h with(h|h)|h;exact .inl h;exact absurd hz X;exact .inr h))).bU H (λz hz e=>absurd hz X)).bU C (λz hz e=>absurd hz X)
theorem Xi0(A:Ar)(V:ArV)(i n:Nat)(w:dD)(h:Zc w A V)(ht:i+n<=V.bs.length):Xe prog 281 #[.pointer (some ⟨A.ab,0,none⟩),W i,W n] w
 (λv w'=>∃x,v=.tuple #[.slice x n (V.bs.length-i),W 0]/\(0<n->x=some ⟨A.db,i,none⟩)/\x.isSome=true/\w=w'):=
 (XdQ A V i n w h ht).mono λ_ _ ⟨a,b⟩=>⟨_,a,λc=>Xhu ht c,by unfold Ae;split <;> rfl,b⟩
theorem XdP(A:Ar)(V:ArV)(t f n:Nat)(w:dD)(h:Zc w A V)(hf:f+n<=V.bs.length)(ht:t+n<=V.bs.length):Xe prog 254 #[.pointer (some ⟨A.ab,0,none⟩),W t,W f,W n] w (λv w'=>v=W 0/\Zc w' A {V.cT A n with bs:=Q8 V.bs t (sub V.bs f n)}/\Xc (Z4 A) w w'):=by
 refine aR func254 ntmps254 Y (aP Y (Xi0 A V f n w h hf) ?_);rintro _ F ⟨y,rfl,z,_,rfl⟩;refine aN Y (aS Y (aP Y (T4 A V t n w h ht) ?_));rintro _ B ⟨x,rfl,a,_,d,C⟩;refine aN Y ?_;have g:Xc (Z4 A) w B:=C.mono λb _ o=>.inr o;have e1:=V.charge_bs A n;by_cases r:n=0
 .refine Xa.copy0 Xb rfl (by simp[r]) rfl ?_;subst r;have p:sub V.bs f 0=[]:=by simp[sub]
  exact bE func254 Y ⟨rfl,by rw[p,Xal,<-V.charge_bs A 0];exact d,g⟩
 .have s:=a X;have u:=z X;subst s u;have j:=d.sub (i:=f) (n:=n) (x:=some ⟨A.db,f,none⟩) (λ_=>rfl) (by rw[e1];exact hf);rw[e1] at j;have k:=d.dat;rw[e1] at k;have c:=Hj hf;refine Xa.copy Xb rfl k (cs:=(sub V.bs f n).map (Value.int .u8)) (by simp[c]) j.cells (by simp[c];omega) J5 λG l m E=>aN Y ?_;have q:(V.bs.map (Value.int .u8)).take t++(sub V.bs f n).map (Value.int .u8)++(V.bs.map (Value.int .u8)).drop (t+((sub V.bs f n).map (Value.int .u8)).length)=(Q8 V.bs t (sub V.bs f n)).map (Value.int .u8):=by
   unfold Q8;simp[As,List.map_drop]
  rw[q] at l;have D:=d.laid l m (by rw[Jq (by rw[c];exact ht),e1]) (λx a=>(N9 a).elim (h.rng x) (λa=>h.rng x (ZR (ZB a))));exact bE func254 Y ⟨rfl,D,g.trans (m.mono λb _ o=>.inl o)⟩
theorem N8(h:i+l.length<=bs.length):(Q8 bs i l).getD j 0=if j<i then bs.getD j 0 else if j<i+l.length then l.getD (j-i) 0 else bs.getD j 0:=by
 unfold Q8;simp only[XB];by_cases a:j<i
 .rw[bK a,List.append_assoc,ZA xQ,Y2,bK a]
 .rw[bJ a];by_cases b:j<i+l.length
  .rw[bK b,ZA xQ,YC xQ];simp[show min i bs.length=i from by omega]
  .rw[bJ b,YC xQ];simp only[ZE,XX,List.getElem?_drop,show min i bs.length=i from by omega];rw[show i+l.length+(j-(i+l.length))=j from by omega]
theorem XeH{a b:List Int}(hl:a.length=b.length)(h:∀j,j<a.length->a.getD j 0=b.getD j 0):a=b:=by
 apply List.ext_getElem hl
 intro j c d;have:=h j c
 simpa [QX,c,d] using this
theorem Xnz{x:Int}(hi:i<l.length):(l.set i x).getD j 0=if j=i then x else l.getD j 0:=by
 simp only[XB,YE];by_cases h:i=j
 .subst h;simp[hi]
 .rw[bJ h,bJ (Ne.symm h)]
theorem Ww:∀(l:List dE) (i:Nat) (v:dE),i<l.length->Ya l i [v]=some (l.set i v)
 |x::r,0,v,_=>by simp[Ya]
 |x::r,i+1,v,h=>by simp[Ya,Ww r i v (xU h)]
theorem Xnx{x:Int}(hi:i<l.length):Ya (l.map (Value.int .u8)) i [.int .u8 x]=some ((l.set i x).map (Value.int .u8)):=by
 rw[Ww _ _ _ (xU hi),ZW]
theorem Xo6:IntKind.u8.wrap z=z%256:=by
 simp only[IntKind.wrap,IntKind.signed,IntKind.bits]
 simp
def Eu(bs:List Int)(i:Nat)(l:List Int)(k:Nat):List Int:=Q8 bs i (l.take k)
theorem XbW(h:i+l.length<=bs.length)(hk:k<l.length):(Eu bs i l k).set (i+k) (l.getD k 0)=Eu bs i l (k+1):=by
 unfold Eu;have n:(l.take k).length=k:=xQ
 have o:(l.take (k+1)).length=k+1:=xQ
 have c:(Q8 bs i (l.take k)).length=bs.length:=Jq X;have d:(Q8 bs i (l.take (k+1))).length=bs.length:=Jq X;refine XeH (by simp[c,d]) λj p=>?_;have f:∀m,m<k->(l.take k).getD m 0=l.getD m 0:=λm hm=>by simp[QX,hm]
 have a:∀m,m<k+1->(l.take (k+1)).getD m 0=l.getD m 0:=λm hm=>by simp[QX,hm]
 rw[Xnz X,N8 X,N8 X,n,o];by_cases e:j=i+k
 .subst e;rw[bK rfl,bJ X,bK X,show i+k-i=k from by omega,a k X]
 .rw[bJ e];by_cases b:j<i
  .rw[bK b,bK b]
  .rw[bJ b,bJ b];by_cases g:j<i+k
   .rw[bK g,bK X,f _ X,a _ X]
   .rw[bJ g,bJ X]
theorem XbX:Eu bs i l 0=bs:=by unfold Eu;simp[Xal]
theorem Xf2:Eu bs i l l.length=Q8 bs i l:=by unfold Eu;rw[ZM]
theorem Sp(h:i+l.length<=bs.length):(Eu bs i l k).length=bs.length:=Jq xQ
theorem XlI(h:Qo bs)(h':Qo l):Qo (Eu bs i l k):=λx a=>(N9 a).elim (h x) (λa=>h' x (ZB a))
theorem Xlu{c:Int}(h:0<=c/\c<256):Li .or .u8 0 c=c:=by
 obtain⟨c,rfl⟩:=XE h.1;have a:(BitVec.ofInt 8 (0:Int)|||BitVec.ofInt 8 (c:Int)).toNat=c:=by
  rw[BitVec.toNat_or,BitVec.toNat_ofInt,BitVec.toNat_ofInt];rw[show((c:Int)%((2^8:Nat):Int)).toNat=c from by omega]
  simp
 change IntKind.u8.wrap ((BitVec.ofInt 8 (0:Int)|||BitVec.ofInt 8 (c:Int)).toNat:Int)=_
 rw[a,Xo6];omega
theorem XjB(h:Zc w A V)(hj:j<V.bs.length):w.cell? ⟨A.db,j,none⟩=some (.int .u8 (V.bs.getD j 0)):=by
 rw[Yx h.dat];simp[hj]
theorem XiV(A:Ar)(V:ArV)(i n:Nat)(c:Int)(w:dD)(h:Zc w A V)(ht:i+n<=V.bs.length)(hc:0<=c/\c<256):Xe prog 172 #[.pointer (some ⟨A.ab,0,none⟩),W i,W n,.int .u8 c] w (λv w'=>v=W 0/\Zc w' A {V.cT A n with bs:=Q8 V.bs i (List.replicate n c)}/\Xc (Z4 A) w w'):=by
 have a0:=h.len;refine aR func172 ntmps172 Y (aP Y (T4 A V i n w h ht) ?_);rintro _ w1 ⟨x,rfl,a,_,D,hs⟩;refine aN Y ?_;have q:Xc (Z4 A) w w1:=hs.mono λb _ g=>.inr g;have e1:=V.charge_bs A n;by_cases K:n=0
 .refine Xa.clear0 Xb rfl K rfl (Xa.unroll Xb rfl (aS Y ?_));subst K;exact bE func172 Y ⟨rfl,by rw[List.replicate_zero,Xal,<-V.charge_bs A 0];exact D,q⟩
 .have L:=a X;subst L;have r:=D.dat;rw[e1] at r;have M:(List.replicate n (0:Int)).length=n:=XJ;have N:(List.replicate n c).length=n:=XJ;refine Xa.clear Xb rfl r rfl rfl X xQ λw2 s t a7=>aN Y ?_;have E:(V.bs.map (Value.int .u8)).take i++List.replicate n (Value.int .u8 0)++(V.bs.map (Value.int .u8)).drop (i+n)=(Q8 V.bs i (List.replicate n 0)).map (Value.int .u8):=by
   unfold Q8;simp[As,List.map_drop]
  rw[E] at s;have u:Qo (List.replicate n (0:Int)):=λx a=>by rw[ZX a];omega
  have O:Qo (List.replicate n c):=λx a=>by rw[ZX a];exact hc
  have P:=D.laid s t (by rw[Jq X,e1]) (λx a=>(N9 a).elim (h.rng x) (u x));have F:Xc (Z4 A) w w2:=q.trans (t.mono λb _ g=>.inl g);obtain⟨d,f⟩:∃d,d=Q8 V.bs i (List.replicate n 0):=⟨_,rfl⟩;rw[<-f] at P;have m:d.length=V.bs.length:=by rw[f,Jq X]
  have G:Qo d:=λx a=>by rw[f] at a;exact(N9 a).elim (h.rng x) (u x)
  refine Xa.loop (α:=Nat) (λk=>[(3,false,.int .u8 c),(9,false,.slice (some ⟨A.db,i,none⟩) n (V.bs.length-i)),(10,false,W 0),(21,false,W n),(22,false,W k)])
   (λk w'=>Zc w' A {V.cT A n with bs:=Eu d i (List.replicate n c) k}/\Xc (Z4 A) w w'/\k<=n) (λk=>n-k) 0 ⟨rfl,rfl,rfl,rfl,rfl,trivial⟩ ⟨by rw[XbX];exact P,F,X⟩ ?_
  rintro k w3 ⟨o,y,hk⟩ ih;refine aN Y (aT Y (λH=>?_) λH=>?_)
  .have z:k<n:=xH (bL H)
   have B:(Eu d i (List.replicate n c) k).length=V.bs.length:=by rw[Sp X,m]
   have Q:(Eu d i (List.replicate n c) k).getD (i+k) 0=0:=by
    unfold Eu;rw[N8 xQ,bJ X,bJ xQ,f,N8 X,bJ X,bK X];simp[QX,z]
   have p:w3.cell? ⟨A.db,i+k,none⟩=some (.int .u8 0):=by rw[<-Q];exact XjB (j:=i+k) o (by simp only[B];omega)
   refine aU k Y (aW Y p Y (Xa.bits Xb rfl (Xlu hc) rfl (aU k Y (aL Y o.dat (Xnx (by simp only[B];omega)) Y λw4 R C a8=>?_))));have I:w4.heap[A.db]?=some (.cells ((Eu d i (List.replicate n c) (k+1)).map (Value.int .u8)).toArray 5 (0,0)):=by
    rw[<-XbW (l:=List.replicate n c) (i:=i) (bs:=d) (k:=k) X X,show(List.replicate n c).getD k 0=c from by simp[QX,z]];exact R
   have h4:=o.laid I C (by simp only;rw[Sp X,Sp X]) (XlI G O);exact aV Y (ih (k+1) _ _ ⟨h4,y.trans (C.mono λb _ g=>.inl g),X⟩ X ⟨rfl,rfl,rfl,rfl,rfl,trivial⟩)
  .have S:k=n:=xH (bM H)
   subst S;have J:Eu d i (List.replicate k c) k=Q8 V.bs i (List.replicate k c):=by
    refine XeH (by rw[Sp X,Jq X,m]) λj hj=>?_;unfold Eu;rw[show(List.replicate k c).take k=List.replicate k c from by simp,N8 X,N8 X,f,N8 X];by_cases T:j<i
    .simp only[bK T]
    .simp only[bJ T,N,M];by_cases U:j<i+k
     .simp only[bK U]
     .simp only[bJ U]
   rw[J] at o;exact bE func172 Y ⟨rfl,o,y⟩
theorem Sq(hm:Xy c=true)(hck:Qy c q at' n=0)(hfew:q.bS.length<=4096):∀p∈Z1 c q at' n,∃i m:Nat,p=((i:Int),(m:Int))/\((i+m:Nat):Int)<=c.size*c.bS:=by
 obtain⟨C,D,E⟩:=Ea hm;have hi:Ym c q=true:=by
  cases hi:Ym c q with
  |true=>rfl
  |false=>unfold Qy at hck;rw[bK hi] at hck;cases hck
 have v:¬((at':Int)<0\/(n:Int)<0\/Zt c q<n\/Zt c q-n<at'):=λh=>by
  unfold Qy at hck;rw[bJ (by rw[hi];decide),bK h] at hck;cases hck
 intro p d;unfold Z1 at d;split at d
 .rename_i b
  obtain⟨s,o,rfl⟩:=XP.1 d;obtain⟨w,f⟩:=Uw hi b;have r:Zt c q=(q.bS.length:Int)*c.size:=by unfold Zt;rw[bK hi,bK b]
  obtain⟨sz,j⟩:=XE (show 0<=c.size by omega);rw[show c.size.toNat=sz from by omega] at o;obtain⟨F,G,H,I⟩:=XcK (cR:=sz) X n at' s o;have k:s.1<q.bS.length:=by
   have x:(s.1*sz:Nat)<q.bS.length*sz:=by
    have:((q.bS.length*sz:Nat):Int)=(q.bS.length:Int)*c.size:=by rw[j];rfl
    omega
   exact Nat.lt_of_mul_lt_mul_right x
  have t:=f _ (show q.bS.getD s.1 0∈q.bS by rw[XB,XD k];exact XL k);obtain⟨g,y⟩:=XE t.1;refine⟨g*sz+s.2.1,s.2.2,?_,?_⟩
  .rw[y,j];rfl
  .have e2:(g:Int)*c.size+c.size<=c.size*c.bS:=by
    have:((g:Int)+1)*c.size<=c.bS*c.size:=XZ X X;rw[QG,QO,YK c.bS] at this;exact this
   have e3:((g*sz:Nat):Int)=(g:Int)*c.size:=by rw[j];rfl
   omega
 .rename_i b
  simp at d;subst d;obtain⟨kk,pg,ix,l,f,u,A,J,K,L,M,N,O,P⟩:=Ik hm hi b;have B:Aj c q=(pg:Int)*c.size+(ix:Int)*Zn c kk:=by unfold Aj;rw[bK ⟨hi,b⟩,l,f,u]
  have r:Zt c q=Zn c kk:=by unfold Zt;rw[bK hi,bJ b,l]
  obtain⟨a,z⟩:=XE (show 0<=Aj c q by omega);exact⟨a+at',n,by rw[z];rfl,X⟩
def I0(q:Plc)(A:Ar)(V:ArV)(ps:List (Int×Int)):Nat->ArV
 |0=>V
 |k+1=>(B6 q A (I0 q A V ps k)).cT A (ps.getD k (0,0)).2
theorem Uf(q:Plc)(A:Ar)(V:ArV):(B6 q A V).bs=V.bs:=by unfold B6;split;exact V.charge_bs A 1;rfl
theorem Xdg(q:Plc)(A:Ar)(V:ArV)(ps:List (Int×Int)):∀k,(I0 q A V ps k).bs=V.bs
 |0=>rfl
 |k+1=>by unfold I0;rw[ArV.charge_bs,Uf,Xdg q A V ps k]
def Eb(bs:List Int)(ps:List (Int×Int)):List Int:=ps.flatMap λp=>sub bs p.1.toNat p.2.toNat
theorem XoU(v:Vw)(vb ob:Nat)(A:Ar)(V:ArV)(i m base j:Nat)(u:dE)(xs:List Int)(w:dD)(hvb:He w vb v)(hv:w.heap[v.vb]?=some (.cells (N6 v).toArray 226 (0,0)))(hab:v.ab=A.ab)(hob:w.heap[ob]?=some (.cells ([u]:List dE).toArray 30 (0,0)))(hown:Xm base 5 1 w u j (xs.map (Value.int .u8)))(hbase:base<=w.heap.size)(hobb:ob<base)(hA:Zc w A V)(him:i+m<=V.bs.length)(hj:j+m<=16777216)(hmo:∀z,Y4 A z->z≠ob/\z<base)(hArow:∀b,b=A.ab\/b=A.db\/b=A.mc\/A.mb=some b->some b=u.ownBlock->False)(hAob:∀b,b=A.ab\/b=A.db\/b=A.mc\/A.mb=some b->b=ob->False):Xe prog 164 #[W i,W m,xV vb,xV ob] w (λ_ w'=>Zc w' A (V.cT A m)/\Xc (λz=>z=ob\/some z=u.ownBlock\/Y4 A z) w w'/\
  ∃u',w'.heap[ob]?=some (.cells ([u']:List dE).toArray 30 (0,0))/\Xm base 5 1 w' u' (j+m) ((xs++sub V.bs i m).map (Value.int .u8))/\∀z,some z=u'.ownBlock->some z=u.ownBlock\/w.heap.size<=z):=by
 have O:maxLen=9223372036854775807:=rfl;refine aR func164 ntmps164 Y (bB hvb Y (bB hv Y ?_));rw[hab];refine aP Y (XiX A V i m w hA him) ?_;rintro _ J ⟨Q,rfl,⟨g,cap,cur,rfl,R,G,H,y⟩,B,f⟩;refine aN Y ?_;have r:=Hj him;have n:=f.heap hob (λe=>(hmo _ e).1 rfl);have s:=hown.bR f (λb a e=>xI (World.ownsRow.lt hown b a.symm).1 (hmo _ e).2);rw[r] at H y⊢;have K:=f.size;have t:∀k x,((sub V.bs i m).map (Value.int .u8))[k]?=some x->J.cell? ((⟨g,0,none⟩:dF).add k)=some x:=λk x D=>by
  rw[C0,Yx G];have L:k<m:=by have:=(XC.1 D).1;simpa [r] using this
  rw[<-y,Y2,bK L] at D
  simpa using D
 refine bB n Y (Xa.append (base:=base) (news:=(sub V.bs i m).map (Value.int .u8)) Xb rfl s X (by simp[r]) t J5 xP λS T l d C=>?_);rcases l.2 with⟨o,P⟩|⟨U,M,N,o,_⟩
 .subst o;refine aN Y ?_;refine bF (d.heap n (λe=>xH (World.ownsRow.lt s _ e.symm).1)) Y λE p c I=>?_;have F:Xc (λz=>z=ob\/some z=u.ownBlock\/Y4 A z) w E:=((f.mono λz _ h=>.inr (.inr h)).trans (d.mono λz _ h=>.inr (.inl h))).trans (c.mono λz _ h=>.inl h);exact bE func164 Y ⟨((B.bR d (λb a e=>hArow b a e)).bR c (λb a e=>hAob b a e)),F,_,p,by rw[XM];exact(l.bR c (λb a e=>xH (World.ownsRow.lt l b a.symm).1)),λz q=>by rcases C.2 with h|h;exact .inl (q.trans h);exact .inr (by rw[h] at q;cases q;omega)⟩
 .subst o;refine aN Y ?_;refine bF (d.heap n (λe=>xH (World.ownsRow.lt s _ e.symm).1)) Y λE p c I=>?_;have F:Xc (λz=>z=ob\/some z=u.ownBlock\/Y4 A z) w E:=((f.mono λz _ h=>.inr (.inr h)).trans (d.mono λz _ h=>.inr (.inl h))).trans (c.mono λz _ h=>.inl h);exact bE func164 Y ⟨((B.bR d (λb a e=>hArow b a e)).bR c (λb a e=>hAob b a e)),F,_,p,by rw[XM];exact(l.bR c (λb a e=>xH (World.ownsRow.lt l b a.symm).1)),λz q=>by rcases C.2 with h|h;exact .inl (q.trans h);exact .inr (by rw[h] at q;cases q;omega)⟩
theorem Xoa{cR:Nat}(hp:1<=cR):∀(n at':Nat),((Z2 at' n cR).map λs=>s.2.2).sum=n:=by
 intro n
 induction n using QS with
 |_ n ih=>
  intro at';by_cases a:n=0
  .subst a;rfl
  .have b:=Ko (at':=at') hp (show 0<n by omega);rw[L7 hp X,ZL,QJ,ih _ X];unfold Dq;simp only
   omega
def Zv(ps:List (Int×Int)):Nat:=(ps.map λp=>p.2.toNat).sum
theorem Xh6(p:Int×Int)(ps:List (Int×Int)):Zv (p::ps)=p.2.toNat+Zv ps:=by simp[Zv]
theorem Xah(a b:List (Int×Int)):Zv (a++b)=Zv a+Zv b:=by simp[Zv]
theorem Po(hm:Xy c=true):Zv (Z1 c q at' n)=n:=by
 obtain⟨a,b,d⟩:=Ea hm;unfold Z1;split
 .unfold Zv;rw[List.map_map];have:=Xoa (cR:=c.size.toNat) X n at';exact this
 .simp[Zv]
theorem Tm{ps:List (Int×Int)}(h:k<ps.length):Zv (ps.take k)+ps[k].2.toNat<=Zv ps:=by
 have e:ps=ps.take k++ps[k]::ps.drop (k+1):=by rw[<-ZT h,XY]
 have e2:Zv ps=Zv (ps.take k)+(ps[k].2.toNat+Zv (ps.drop (k+1))):=by
  conv=>lhs;rw[e]
  rw[Xah,Xh6]
 omega
theorem Xgh{bs:List Int}{N:Nat}(hN:bs.length=N):∀{ps:List (Int×Int)},(∀p∈ps,∃i m:Nat,p=((i:Int),(m:Int))/\i+m<=N)->(Eb bs ps).length=Zv ps
 |[],_=>rfl
 |p::r,h=>by
  obtain⟨i,m,rfl,b⟩:=h p ZO;rw[Xh6];unfold Eb;rw[ZV,ZE];have:=Xgh hN (ps:=r) (λp a=>h p (YA _ a));unfold Eb at this;rw[this];simp only[XA];rw[Hj X]
theorem Xih{ps:List (Int×Int)}(h:k<ps.length):I0 q A V ps (k+1)=(B6 q A (I0 q A V ps k)).cT A ps[k].2:=by
 show(B6 q A (I0 q A V ps k)).cT A (ps.getD k (0,0)).2=_
 rw[XB,XD h];rfl
theorem XoT(v:Vw)(q:Plc)(at' n:Nat)(A:Ar)(V:ArV)(w:dD)(hv:Bq w v)(hq:Zw w q)(hmb:v.mb=A.mb)(hab:v.ab=A.ab)(hck:Qy v.c q at' n=0)(hfew:q.bS.length<=4096)(hPv:¬Y4 A v.vb)(hPq:0<q.bS.length->Xj (Y4 A) q.pa)(hPc:0<v.c.bT.length->Xj (Y4 A) v.p.ca)(hPk:0<v.c.bV.length->Xj (Y4 A) v.p.ka)(hA:Zc w A V)(hlen:(V.bs.length:Int)=v.c.size*v.c.bS):Xe prog 107 #[Gb v,.agg (Xw q).toArray,W at',W n] w (λu w'=>∃u1,u=.tuple #[u1,W 0]/\Zc w' A (I0 q A V (Z1 v.c q at' n) (Z1 v.c q at' n).length)/\Xc (Y4 A) w w'/\
  Xm w.heap.size 5 1 w' u1 (Eb V.bs (Z1 v.c q at' n)).length ((Eb V.bs (Z1 v.c q at' n)).map (Value.int .u8))):=by
 obtain⟨ps,l⟩:∃ps,ps=Z1 v.c q at' n:=⟨_,rfl⟩;have E:∀p∈ps,∃i m:Nat,p=((i:Int),(m:Int))/\i+m<=V.bs.length:=λp r=>by
  obtain⟨i,m,o,d⟩:=Sq hv.may hck hfew p (l▸r);exact⟨i,m,o,X⟩
 have ag:Zv ps=n:=by rw[l];exact Po hv.may
 have al:=Lb (c:=v.c) (q:=q) hv.may hfew;have hn:n<=16777216:=by
  unfold Qy at hck;split at hck
  .cases hck
  .split at hck
   .cases hck
   .omega
 rw[<-l];refine Xe.enter func107 rfl ntmps107 rfl rfl ?_;refine aN rfl ?_;refine Xa.alloc Xb rfl ?_;intro vb w1 e1 a0 a6 am;refine aN rfl ?_;refine Xa.alloc Xb rfl ?_;intro qb w2 e2 F N an;refine aN rfl ?_;refine Xa.alloc Xb rfl ?_;intro ob s e3 a7 G ao;refine aN rfl ?_;replace F:Ji w2 qb q:=F;have H:=(a6.trans N).trans G;have I:He s vb v:=(N.trans G).bP a0;refine Xa.cJ Xb rfl I rfl rfl ?_;refine Xa.loads Xb rfl (G.bP F) rfl rfl ?_;have f:=hA.mlt;have ap:=Xg hv.obj;have hE:=Xde v q at' n 164 [xV vb,xV ob] A (I0 q A V ps)
  (λk xY x=>∃u,x.heap[ob]?=some (.cells ([u]:List dE).toArray 30 (0,0))/\Xm s.heap.size 5 1 x u (Eb V.bs (ps.take k)).length ((Eb V.bs (ps.take k)).map (Value.int .u8))/\
   (∀z,xY z↔z=ob\/some z=u.ownBlock\/Y4 A z)/\He x vb v/\x.heap[v.vb]?=some (.cells (N6 v).toArray 226 (0,0))/\s.heap.size<=x.heap.size)
  (λz=>z=ob\/Y4 A z) s (hv.bQ H) (hq.bQ H) hmb hck hfew
  (by rintro((h|h)|h);omega;exact hPv h;exact hPv h)
  (hq.rd.outNew hPq (λz a=>by rcases a with(h|h)|h;exact .inr X;exact .inl h;exact .inl h))
  (hv.cO.bT.outNew hPc (λz a=>by rcases a with(h|h)|h;exact .inr X;exact .inl h;exact .inl h))
  (hv.cO.bV.outNew hPk (λz a=>by rcases a with(h|h)|h;exact .inr X;exact .inl h;exact .inl h))
  (by
   rintro k xY x ⟨u,o,d,j,t,B,C⟩ z a;rcases(j z).1 a with rfl|h|h
   .exact Xg o
   .exact(World.ownsRow.lt d z h.symm).2
   .have:=f z h;omega)
  (by
   rintro k xY x y S ⟨u,o,d,j,t,B,C⟩ J hS;have no:∀z,z<s.heap.size -> ¬Y4 A z -> ¬S z:=λz a hm h=>(hS z h).elim hm (λh=>X);exact⟨u,J.heap o (no _ X (λh=>xH (f _ h))),d.bR J (λb D h=>by
    have aq:=World.ownsRow.lt d b D.symm;rcases hS b h with hm|hm
    .have:=f b hm;omega
    .exact hm.1 ((j b).2 (.inr (.inl D)))),j,J.heap t (no _ X (λh=>xH (f _ h))),J.heap B (no _ X hPv),YB C J.size⟩)
  (by
   rintro k xY x K aa ⟨u,o,d,j,t,B,C⟩;rw[<-l] at K;obtain⟨i,m,r,O⟩:=E ps[k] (XL K);have P:(B6 q A (I0 q A V ps k)).bs=V.bs:=by rw[Uf,Xdg]
   have ar:(Eb V.bs (ps.take k)).length=Zv (ps.take k):=Xgh rfl (λp r=>E p (ZB r));have Q:=Tm K;rw[r] at Q;simp only[XA] at Q;have R:∀b,b=A.ab\/b=A.db\/b=A.mc\/A.mb=some b->b<w.heap.size:=hA.blt;have hR:=XoU v vb ob A (B6 q A (I0 q A V ps k)) i m s.heap.size (Eb V.bs (ps.take k)).length u (Eb V.bs (ps.take k)) x t B hab o d C X aa (by rw[P];exact O) X
    (λz a=>xH (f z a)) (λb D e=>xI (R b D) (World.ownsRow.lt d b e.symm).1) (λb D e=>xH (R b D))
   simp only[<-l];rw[r];refine hR.mono λ_ y ⟨T,L,u',U,a4,a5⟩=>?_;rw[P] at a4;have M:Eb V.bs (ps.take (k+1))=Eb V.bs (ps.take k)++sub V.bs i m:=by
    rw[ZI,XD K,r];unfold Eb;rw[List.flatMap_append]
    simp
   refine⟨by rw[Xih K,r];exact T,L.mono λz _ a=>(j z).2 a,λz=>z=ob\/some z=u'.ownBlock\/Y4 A z,⟨u',U,?_,λz=>Iff.rfl,?_,?_,YB C L.size⟩,λz a=>?_⟩
   .rw[M,ZE,Hj O];exact a4
   .exact L.heap t (λh=>by rcases h with h|h|h;omega;have:=(World.ownsRow.lt d _ h.symm).1;omega;have:=f _ h;omega)
   .exact L.heap B (λh=>by rcases h with h|h|h;omega;have:=(World.ownsRow.lt d _ h.symm).1;omega;exact hPv h)
   .rcases a with h|h|h
    .exact .inl ((j z).2 (.inl h))
    .rcases a5 z h with h|h
     .exact .inl ((j z).2 (.inr (.inl h)))
     .exact .inr h
    .exact .inl ((j z).2 (.inr (.inr h))))
  (hA.bQ H) ⟨.slice none 0 0,a7,World.ownsRow_nil _ _ _ _,λz=>⟨λh=>h.elim .inl (λh=>.inr (.inr h)),λh=>by rcases h with h|h|h;exact .inl h;cases h;exact .inr h⟩,I,H.bP hv.obj,XF _⟩
 rw[<-l] at hE;refine aP Y (hE) ?_;rintro _ w4 ⟨rfl,ad,⟨Y',⟨u,o,d,j,t,B,C⟩,au⟩,ae⟩;refine aN Y ?_;rw[ZM] at d;have af:Xc (Y4 A) w w4:=H.gr.bU ae (λz a h=>by rcases h with(h|h)|h;omega;exact h;exact h);have ho:Xm w.heap.size 5 1 w4 u (Eb V.bs ps).length ((Eb V.bs ps).map (Value.int .u8)):=by
  refine⟨d.1,?_⟩;rcases d.2 with h|⟨g,cap,cur,T,L,U⟩
  .exact .inl h
  .exact .inr ⟨g,cap,cur,T,X,U⟩
 exact bB o Y (bE func107 Y ⟨u,rfl,ad,af,ho⟩)
def B4(q:Plc)(A:Ar)(V:ArV)(ps:List (Int×Int))(l:List Int):Nat->ArV
 |0=>V
 |k+1=>{(B6 q A (B4 q A V ps l k)).cT A (ps.getD k (0,0)).2 with bs:=Q8 (B4 q A V ps l k).bs (ps.getD k (0,0)).1.toNat (sub l (Zv (ps.take k)) (ps.getD k (0,0)).2.toNat)}
theorem Tp{ps:List (Int×Int)}(h:k<ps.length)(hp:ps[k]=((i:Int),(m:Int))):B4 q A V ps l (k+1)={(B6 q A (B4 q A V ps l k)).cT A m with bs:=Q8 (B4 q A V ps l k).bs i (sub l (Zv (ps.take k)) m)}:=by
 have a:ps.getD k (0,0)=((i:Int),(m:Int)):=by rw[XB,XD h,hp];rfl
 show({(B6 q A (B4 q A V ps l k)).cT A (ps.getD k (0,0)).2 with bs:=Q8 (B4 q A V ps l k).bs (ps.getD k (0,0)).1.toNat (sub l (Zv (ps.take k)) (ps.getD k (0,0)).2.toNat)}:ArV)=_
 rw[a];rfl
theorem Xdi{q:Plc}{A:Ar}{V:ArV}{ps:List (Int×Int)}{l:List Int}(hpin:∀p∈ps,∃i m:Nat,p=((i:Int),(m:Int))/\i+m<=V.bs.length)(htot:Zv ps=l.length):∀{k:Nat},k<=ps.length->(B4 q A V ps l k).bs.length=V.bs.length
 |0,_=>rfl
 |k+1,h=>by
  obtain⟨i,m,b,c⟩:=hpin ps[k] (XL h);have ih:=Xdi (q:=q) (A:=A) hpin htot (k:=k) X;have a:=Tm h;rw[b] at a;simp only[XA] at a;rw[Tp h b];show(Q8 _ _ _).length=_
  rw[Jq (by rw[Hj X,ih];exact c),ih]
theorem XnT{l:Nat}(h:Xj S a):Xj S (Ae a cap l sz):=by
 intro b off s e;unfold Ae at e;by_cases c:cap=l
 .rw[bK c] at e;exact h b off s e
 .rw[bJ c] at e;cases a with
  |none=>cases e
  |some x=>
   obtain⟨xb,xo,xs⟩:=x;simp only[QZ,Option.some.injEq] at e;unfold Addr.add at e;have d:xb=b:=by
    split at e <;> (cases e;rfl)
   rw[<-d];exact(h xb xo xs rfl)
theorem XoW(v:Vw)(vb bb:Nat)(A:Ar)(V:ArV)(i m:Nat)(a:Option dF)(cap:Nat)(l:List Int)(w:dD)(hvb:He w vb v)(hv:w.heap[v.vb]?=some (.cells (N6 v).toArray 226 (0,0)))(hab:v.ab=A.ab)(hbb:w.heap[bb]?=some (.cells ([.slice a l.length cap]:List dE).toArray 30 (0,0)))(hr:Rd .u8 w a l)(hlc:l.length<=cap)(hin:Qo l)(hm:m<=l.length)(hA:Zc w A V)(him:i+m<=V.bs.length)(hfo:∀z,Z4 A z->z≠bb)(hAb:∀b,b=A.ab\/b=A.db\/b=A.mc\/A.mb=some b->b≠bb)(S:Nat->Prop)(hS:∀z,z=bb\/Z4 A z->S z)(hout:0<l.length->Xj S a):Xe prog 167 #[W i,W m,xV vb,xV bb] w (λ_ w'=>Zc w' A {V.cT A m with bs:=Q8 V.bs i (l.take m)}/\Xc (λz=>z=bb\/Z4 A z) w w'/\
  ∃a' cap',w'.heap[bb]?=some (.cells ([.slice a' (l.drop m).length cap']:List dE).toArray 30 (0,0))/\Rd .u8 w' a' (l.drop m)/\(l.drop m).length<=cap'/\(0<(l.drop m).length->Xj S a')):=by
 have j:(l.take m).length=m:=xQ
 refine aR func167 ntmps167 Y (aQ 8 Xf xK Y λd=>aE d hvb Y (aE d hv Y (aE d hbb Y (Xd.slice Xb d rfl (l:=0) (h:=m) (by first|rfl|omega|simp[Dx]) (by first|rfl|omega|simp[Dr]) X X rfl (aF d Y λC c=>?_)))));rw[hab];have r:=hr.bR c;have k:=r.shift (l:=0) (m:=m) X hlc;rw[List.drop_zero] at k;have s:=XiY A V i (Ae a cap 0 1) (cap-0) (l.take m) C (hA.bQ c) k (λx D=>hin x (ZB D)) (by rw[j];exact him);rw[j] at s;refine aP Y s ?_;rintro _ G ⟨rfl,t,n⟩;refine aN Y ?_;have f:=n.heap (c.bP hbb) (λe=>hfo _ e rfl);refine bB f Y (Xa.slice Xb rfl (l:=m) (h:=l.length) (by first|rfl|omega|simp[Dx]) (by first|rfl|omega|simp[Dr]) X X rfl (bF f Y λu q o F=>?_));have g:(l.drop m).length=l.length-m:=xS
 have y:Xc (λz=>z=bb\/Z4 A z) w u:=(c.gr.trans (n.mono λ_ _ h=>.inr h)).trans (o.mono λ_ _ h=>.inl h);have B:Rd .u8 u a l:=hr.far' hout (y.mono λz _ h=>hS z h);have p:=B.shift (l:=m) (m:=l.length-m) X hlc;rw[YV (by rw[g];exact XF _)] at p;exact bE func167 Y ⟨t.bR o (λb E e=>hAb b E e),y,_,_,by rw[g];exact q,p,by rw[g];omega,λh=>XnT (hout X)⟩
theorem foot_lt(h:Zc w A V):∀z,Z4 A z->z<w.heap.size:=λz a=>h.blt z (a.elim (λe=>.inr (.inl e)) (λe=>.inr (.inr (.inr e))))
theorem XoV(v:Vw)(q:Plc)(at':Nat)(a:Option dF)(cap:Nat)(l:List Int)(A:Ar)(V:ArV)(w:dD)(hv:Bq w v)(hq:Zw w q)(hmb:v.mb=A.mb)(hab:v.ab=A.ab)(hck:Qy v.c q at' l.length=0)(hfew:q.bS.length<=4096)(hPv:¬Z4 A v.vb)(hPq:0<q.bS.length->Xj (Z4 A) q.pa)(hPc:0<v.c.bT.length->Xj (Z4 A) v.p.ca)(hPk:0<v.c.bV.length->Xj (Z4 A) v.p.ka)(hA:Zc w A V)(hlen:(V.bs.length:Int)=v.c.size*v.c.bS)(hr:Rd .u8 w a l)(hlc:l.length<=cap)(hin:Qo l)(hout:0<l.length->Xj (Z4 A) a):Xe prog 109 #[Gb v,.agg (Xw q).toArray,W at',.slice a l.length cap] w (λu w'=>u=W 0/\Zc w' A (B4 q A V (Z1 v.c q at' l.length) l (Z1 v.c q at' l.length).length)/\Xc (Z4 A) w w'):=by
 obtain⟨ps,g⟩:∃ps,ps=Z1 v.c q at' l.length:=⟨_,rfl⟩;have C:∀p∈ps,∃i m:Nat,p=((i:Int),(m:Int))/\i+m<=V.bs.length:=λp t=>by
  obtain⟨i,m,n,D⟩:=Sq hv.may hck hfew p (g▸t);exact⟨i,m,n,X⟩
 have T:Zv ps=l.length:=by rw[g];exact Po hv.may
 rw[<-g];refine Xe.enter func109 rfl ntmps109 rfl rfl ?_;refine aN rfl ?_;refine Xa.alloc Xb rfl ?_;intro vb w1 e1 a5 a6 au;refine aN rfl ?_;refine Xa.alloc Xb rfl ?_;intro qb w2 e2 E P av;refine aN rfl ?_;refine Xa.alloc Xb rfl ?_;intro bb j e3 r F aw;refine aN rfl ?_;replace E:Ji w2 qb q:=E;replace r:j.heap[bb]?=some (.cells ([.slice a l.length cap]:List dE).toArray 30 (0,0)):=r;have o:=(a6.trans P).trans F;have G:He j vb v:=(P.trans F).bP a5;refine Xa.cJ Xb rfl G rfl rfl ?_;refine Xa.loads Xb rfl (F.bP E) rfl rfl ?_;refine Xa.cJ Xb rfl r rfl rfl ?_;have f:=foot_lt hA;have d:∀z,Y4 A z->Z4 A z:=λz h=>.inr h;have ax:=Xg hv.obj;have a7:=hA.blt;have hE:=Xde v q at' l.length 167 [xV vb,xV bb] A (B4 q A V ps l)
  (λk xY x=>∃a' cap',x.heap[bb]?=some (.cells ([.slice a' (l.drop (Zv (ps.take k))).length cap']:List dE).toArray 30 (0,0))/\Rd .u8 x a' (l.drop (Zv (ps.take k)))/\(l.drop (Zv (ps.take k))).length<=cap'/\
   (0<(l.drop (Zv (ps.take k))).length->Xj (λz=>z=bb\/Z4 A z\/j.heap.size<=z) a')/\(∀z,xY z↔z=bb\/Z4 A z)/\He x vb v/\x.heap[v.vb]?=some (.cells (N6 v).toArray 226 (0,0))/\j.heap.size<=x.heap.size)
  (λz=>z=bb\/Z4 A z) j (hv.bQ o) (hq.bQ o) hmb hck hfew
  (by rintro((h|h)|h);omega;exact hPv h;exact hPv (d _ h))
  (hq.rd.outNew hPq (λz c=>by rcases c with(h|h)|h;exact .inr X;exact .inl h;exact .inl (d _ h)))
  (hv.cO.bT.outNew hPc (λz c=>by rcases c with(h|h)|h;exact .inr X;exact .inl h;exact .inl (d _ h)))
  (hv.cO.bV.outNew hPk (λz c=>by rcases c with(h|h)|h;exact .inr X;exact .inl h;exact .inl (d _ h)))
  (by
   rintro k xY x ⟨a',cap',n,D,M,H,B,I,J,N⟩ z c;rcases(B z).1 c with rfl|h
   .exact Xg n
   .have:=f z h;omega)
  (by
   rintro k xY x y S ⟨a',cap',n,D,M,H,B,I,J,N⟩ K hS;have no:∀z,z<j.heap.size -> ¬Y4 A z -> ¬S z:=λz c hm h=>(hS z h).elim hm (λh=>X);refine⟨a',cap',K.heap n (no _ X (λh=>xH (f _ (d _ h)))),D.far' (λhl b off s e U=>H hl b off s e ((hS b U).elim (λh=>.inr (.inl (d _ h))) (λh=>.inr (.inr h.2)))) K,M,H,B,K.heap I (no _ X (λh=>xH (f _ (d _ h)))),K.heap J (no _ X (λh=>hPv (d _ h))),YB N K.size⟩)
  (by
   rintro k xY x L aa ⟨a',cap',n,D,M,H,B,I,J,N⟩;rw[<-g] at L;obtain⟨i,m,t,ab⟩:=C ps[k] (XL L);have Q:(B6 q A (B4 q A V ps l k)).bs=(B4 q A V ps l k).bs:=Uf _ _ _;have a0:(B4 q A V ps l k).bs.length=V.bs.length:=Xdi C T X;have R:=Tm L;rw[t] at R;simp only[XA] at R;have ay:(l.drop (Zv (ps.take k))).length=l.length-Zv (ps.take k):=xS
   have hR:=XoW v vb bb A (B6 q A (B4 q A V ps l k)) i m a' cap' (l.drop (Zv (ps.take k))) x I J hab n D M (λy hy=>hin y (ZR hy)) X aa (by rw[Q,a0];exact ab)
    (λz c=>xH (f z c)) (λb U=>xH (a7 b U)) (λz=>z=bb\/Z4 A z\/j.heap.size<=z) (λz h=>h.imp id .inl) H
   simp only[<-g];rw[t];refine hR.mono λ_ y ⟨a1,O,a3,c3,b1,b2,b3,b4⟩=>?_;rw[Q] at a1;have a4:Zv (ps.take (k+1))=Zv (ps.take k)+m:=by
    rw[ZI,XD L,t,Xah];simp[Zv]
   have ah:(l.drop (Zv (ps.take k))).drop m=l.drop (Zv (ps.take (k+1))):=by rw[List.drop_drop,a4]
   rw[ah] at b1 b2 b3 b4;refine⟨by rw[Tp L t];exact a1,O.mono λz _ c=>(B z).2 c,λz=>z=bb\/Z4 A z,⟨a3,c3,b1,b2,b3,b4,λz=>Iff.rfl,?_,?_,YB N O.size⟩,λz c=>.inl ((B z).2 c)⟩
   .exact O.heap I (λh=>by rcases h with h|h;omega;have:=f _ h;omega)
   .exact O.heap J (λh=>by rcases h with h|h;omega;exact hPv h))
  (hA.bQ o) ⟨a,cap,by simpa [Zv] using r,by simpa [Zv] using hr.bR o,by simpa [Zv] using hlc,λh=>by
   have:=hr.outNew hout (S':=λz=>z=bb\/Z4 A z\/j.heap.size<=z) (λz c=>by rcases c with h|h|h;exact .inr X;exact .inl h;exact .inr (xH o.size));exact this (by simpa [Zv] using h),λz=>Iff.rfl,G,o.bP hv.obj,XF _⟩
 rw[<-g] at hE;refine aP Y (hE) ?_;rintro _ w4 ⟨rfl,ai,_,aj⟩;refine aN Y ?_;have ak:Xc (Z4 A) w w4:=o.gr.bU aj (λz c h=>by rcases h with(h|h)|h;omega;exact h;exact d _ h);exact bE func109 Y ⟨rfl,ai,ak⟩
structure RA where
 a:Option dF
 cap:Nat
 bs:List Int
 cM:Int
def Hf(r:RA):List dE:=[.slice r.a r.bs.length r.cap,.int .i64 r.cM]
structure Yp(w:dD)(r:RA):Prop where
 rd:Rd .u8 w r.a r.bs
 len:r.bs.length<=4194304
 lc:r.bs.length<=r.cap
 rng:Qo r.bs
theorem Yp.bQ{r:RA}(h:Yp w r)(hc:Xc Xf w w'):Yp w' r:=⟨h.rd.bR hc,h.len,h.lc,h.rng⟩
theorem RdU.of{c:Array dE}{t:TypeId}(h:w.heap[b]?=some (.cells c t fz))(hc:c=(zs.map (Value.int .u8)).toArray):Rd .u8 w (some ⟨b,0,none⟩) zs:=λi hi=>
 ⟨b,0,rfl,by rw[Yx h,hc];simp[hi]⟩
theorem Xmh(p s:Int)(w:dD)(ht:Oj p s=true):Xe prog 127 #[W p,W s] w
 (λv w'=>∃b,v=.tuple #[.agg (Hf ⟨some ⟨b,0,none⟩,(p*s).toNat,X7 (p*s).toNat,0⟩).toArray,W 0]/\w.heap.size<=b/\Yp w' ⟨some ⟨b,0,none⟩,(p*s).toNat,X7 (p*s).toNat,0⟩/\Xc Xf w w'):=by
 have g:=T3.1 ht;have B:0<=p*s:=ZG X X;have C:p*s<=1024*4096:=ZH X X X X;have a:(X7 (p*s).toNat).length=(p*s).toNat:=XJ;refine aR func127 ntmps127 Y (bC Y λrb D e1 f h u=>aS Y (aS Y (aS Y (aS Y (Xa.div Xb rfl X (Hg X) rfl (aI Y xQ (aV Y (Xa.make Xb (m:=(p*s).toNat) (k:=(p*s).toNat) rfl X X (XF _) xP X λb E e2 i c y=>aN Y (aO Y (bF (c.bP f) Y λj l d z=>?_))))))))));have n:Xc Xf w j:=(h.trans c).sn d;have q:(Qa (Y8 (Value.int .u8 0)) (p*s).toNat)=(X7 (p*s).toNat).map (Value.int .u8):=Xan _;rw[q] at i;have r:=d.heap i X;have t:Yp j ⟨some ⟨b,0,none⟩,(p*s).toNat,X7 (p*s).toNat,0⟩:=⟨RdU.of r rfl,by simp only[a];omega,by simp only[a];omega,λx o=>by rw[ZX o];omega⟩;exact aK func127 l Y ⟨b,by unfold Hf;simp only[a];rfl,X,t,n⟩
def Mw(c:Conf):Bool:=Xy c && decide (c.size<=256) && decide (c.bS<=24) && decide (c.cN<=20)
theorem Xme(c:Conf)(p:Yz)(w:dD)(hc:Yd w c p):Xe prog 7 #[.agg (X5 c p).toArray] w (Grow (.bool (Mw c)) w):=by
 refine aR func7 ntmps7 Y (bC Y λcb j e1 d f k=>?_);refine bB d Y (bG (Xcb c p j (hc.bR f)) Y λl g=>?_);have b:=f.trans g;have a:=g.bP d;unfold Mw;cases hm:Xy c with
 |false=>
  rw[show Bw c=1 from by unfold Bw;rw[hm];rfl];exact aS Y (bE func7 Y ⟨rfl,b⟩)
 |true=>
  rw[show Bw c=0 from by unfold Bw;rw[hm];rfl];refine bI Y (bB a Y (aT Y (λh=>?_) λh=>?_))
  .refine bB a Y ?_;rw[h];refine aT Y (λi=>?_) λi=>?_
   .refine bB a Y ?_;rw[i];exact bE func7 Y ⟨rfl,b⟩
   .rw[i];exact bE func7 Y ⟨rfl,b⟩
  .rw[h];exact bE func7 Y ⟨rfl,b⟩
theorem XjL(h:Mw c=true):Xy c=true/\c.size<=256/\c.bS<=24:=by
 unfold Mw at h;simp only[XI,decide_eq_true_eq] at h;exact⟨h.1.1.1,h.1.1.2,h.1.2⟩
theorem Xcm(c:Conf)(p:Yz)(q:Plc)(w:dD)(hc:Yd w c p)(hq:Zw w q):Xe prog 222 #[.agg (X5 c p).toArray,.agg (Xw q).toArray] w (Grow (.bool (Ym c q)) w):=by
 have z:=hq.len;refine aR func222 ntmps222 Y (bC Y λcb w1 e1 K L S=>bC Y λqb M e2 f A T=>?_);have i:=L.trans A;have l:=A.bP K;have u:=hq.bQ i;obtain⟨cL,cR,idx,pa,pc,bS⟩:=q;replace f:M.heap[qb]?=some (.cells ([W cL,W cR,W idx,.slice pa bS.length pc]:List dE).toArray 83 (0,0)):=f;replace u:=u.rd;replace z:bS.length<=9223372036854775807:=z;refine Xa.cJ Xb rfl f rfl rfl ?_;refine Xa.fork Xb rfl rfl rfl (λr=>?_) (λr=>?_)
 .have g:cL=-1:=xU r
  have v:Ym c ⟨cL,cR,idx,pa,pc,bS⟩=(decide (0<bS.length) && !bS.any (λn=>!Bt n c.bS)):=by unfold Ym;simp only;rw[bK g]
  rw[v];refine Xa.loop (α:=Nat) (λk=>[(2,false,xV cb),(3,false,xV qb),(5,false,W k)])
   (λk w'=>k<=bS.length/\Xc Xf M w'/\∀j (h:j<bS.length),j<k->Bt bS[j] c.bS=true) (λk=>bS.length-k) 0 ⟨rfl,rfl,rfl,trivial⟩ ⟨XQ _,Xc.refl _ _,λ_ _ h=>X⟩ ?_
  rintro k t ⟨hk,a,x⟩ ih;refine aN rfl ?_;refine Xa.cJ Xb rfl (a.bP f) rfl rfl ?_;refine Xa.fork Xb rfl rfl rfl (λB=>?_) (λB=>?_)
  .have o:k<bS.length:=xH (bL B)
   obtain⟨b,off,rfl,m⟩:=(u.bR a) k o;have N:bS.getD k 0=bS[k]:=by rw[XB,XD o];rfl
   rw[N] at m;refine aQ 16 Xf xK Y λd=>aE d (a.bP f) Y (aB k d Y (aD d m Y ?_));refine Xd.fork Xb d rfl rfl rfl (λy=>?_) (λy=>?_)
   .have P:=bL y;refine aF d Y λQ s=>?_;exact Xa.ret1 Xb rfl func222 rfl rfl ⟨Q5 (by
     have:bS.any (λn=>!Bt n c.bS)=true:=QU.2 ⟨bS[k],XL o,by cases C:Bt bS[k] c.bS;rfl;have:=Nb.1 C;omega⟩;rw[this];simp),i.trans (a.trans s)⟩
   .have P:=bM y;refine aE d (a.bP f) Y (aB k d Y (aD d m Y (aE d (a.bP l) Y (aF d Y λQ s=>aT Y (λD=>?_) λD=>?_))))
    .have R:=bL D;exact Xa.ret1 Xb rfl func222 rfl rfl ⟨Q5 (by
      have:bS.any (λn=>!Bt n c.bS)=true:=QU.2 ⟨bS[k],XL o,by cases C:Bt bS[k] c.bS;rfl;have:=Nb.1 C;omega⟩;rw[this];simp),i.trans (a.trans s)⟩
    .have R:=bM D;refine aV Y ?_;exact ih (k+1) _ _ ⟨o,a.trans s,λj E U=>by
      by_cases e:j=k
      .subst e;exact Nb.2 ⟨X,X⟩
      .exact x j E X⟩ X ⟨rfl,rfl,rfl,trivial⟩
  .have V:k=bS.length:=xH (bM B)
   refine bB (a.bP f) Y ?_;exact Xa.ret1 Xb rfl func222 rfl rfl ⟨Q5 (by
    have:bS.any (λn=>!Bt n c.bS)=false:=QI.2 (λn y=>by obtain⟨j,E,rfl⟩:=QV y;rw[x j E X];decide);rw[this,Bool.not_false,Bool.and_true];by_cases h:0<bS.length
    .rw[bN h,bN X]
    .rw[bO h,bO X]),i.trans a⟩
 .have g:¬cL=-1:=xU r
  have v:Ym c ⟨cL,cR,idx,pa,pc,bS⟩=(Bt cL c.bT.length && Bt cR c.bS && Bt idx (A8 c cL)):=by unfold Ym;simp only;rw[bJ g]
  rw[v];unfold Bt;refine aQ 38 Xf xK Y λd=>aE d f Y ?_;refine Xd.fork Xb d rfl rfl rfl (λF=>?_) (λF=>?_)
  .rw[F];refine aE d f Y (aE d l Y ?_);refine Xd.fork Xb d rfl rfl rfl (λG=>?_) (λG=>?_)
   .rw[G];refine aE d f Y ?_;refine Xd.fork Xb d rfl rfl rfl (λH=>?_) (λH=>?_)
    .rw[H];refine aE d f Y (aE d l Y ?_);refine Xd.fork Xb d rfl rfl rfl (λI=>?_) (λI=>?_)
     .rw[I];refine aE d f Y ?_;refine Xd.fork Xb d rfl rfl rfl (λJ=>?_) (λJ=>?_)
      .rw[J];exact aE d f Y (aE d l Y (aE d f Y (aG d (λw' O=>Xgk c p cL w' ((hc.bR i).bR O)) Y (aF d Y λt a=>bE func222 Y ⟨rfl,i.trans a⟩))))
      .rw[J];exact aF d Y λt a=>bE func222 Y ⟨rfl,i.trans a⟩
     .rw[I];exact aF d Y λt a=>bE func222 Y ⟨rfl,i.trans a⟩
    .rw[H];exact aF d Y λt a=>bE func222 Y ⟨rfl,i.trans a⟩
   .rw[G];exact aF d Y λt a=>bE func222 Y ⟨rfl,i.trans a⟩
  .rw[F];exact aF d Y λt a=>bE func222 Y ⟨rfl,i.trans a⟩
theorem Xel{p:Yz}(h:Yd w c p)(hk:k<c.bT.length):∃b off,p.ca=some ⟨b,off,none⟩/\w.cell? ⟨b,off+k,none⟩=some (W (Zn c k)):=h.bT k hk
theorem Xcl(c:Conf)(p:Yz)(q:Plc)(w:dD)(hc:Yd w c p)(hq:Zw w q)(hm:Xy c=true)(hfew:q.bS.length<=1000000000):Xe prog 209 #[.agg (X5 c p).toArray,.agg (Xw q).toArray] w (Grow (W (Zt c q)) w):=by
 obtain⟨D,E,F⟩:=Ea hm;refine aR func209 ntmps209 Y (bC Y λcb G e1 l r x=>bC Y λqb v e2 m f y=>?_);have o:=r.trans f;refine bB (f.bP l) Y (bB m Y (bG (Xcm c p q v (hc.bR o) (hq.bQ o)) Y λH h=>?_));have d:=o.trans h;have i:=(f.trans h).bP l;have a:=h.bP m;cases hi:Ym c q with
 |false=>
  exact bI Y (bE func209 Y ⟨X0 (by unfold Zt;rw[hi];rfl),d⟩)
 |true=>
  refine aS Y (bB a Y (aT Y (λb=>?_) λb=>?_))
  .have g:q.cL=-1:=xU b
   have z:0<=(q.bS.length:Int)*c.size:=ZG X X;have A:(q.bS.length:Int)*c.size<=1000000000*4096:=ZH X X X X;refine Xa.cJ Xb rfl a rfl rfl ?_;refine Xa.cJ Xb rfl i rfl rfl ?_;refine Xa.arith Xb rfl (w64 X) rfl ?_;exact bE func209 Y ⟨X0 (by unfold Zt;rw[bK hi,bK g]),d⟩
  .have g:¬q.cL=-1:=xU b
   obtain⟨k,pg,ix,s,B,C,t,_,_,_,_,_,_,_⟩:=Ik hm hi g;obtain⟨cb',off,n,u⟩:=Xel (hc.bR d) t;obtain⟨ca,cc,ka,kc⟩:=p;simp only at n
   subst n;obtain⟨cL,cR,idx,pa,pc,bS⟩:=q;simp only at s
   subst s;exact bB i Y (bB a Y (Xa.index Xb rfl (j:=k) (show(0:Int)<=k by omega) (show(k:Int)<c.bT.length by omega) xS rfl (aW Y u Y (bE func209 Y ⟨X0 (by unfold Zt;rw[bK hi];simp only;rw[bJ g]),d⟩))))
theorem Xck(c:Conf)(p:Yz)(q:Plc)(w:dD)(hc:Yd w c p)(hq:Zw w q)(hm:Xy c=true):Xe prog 150 #[.agg (X5 c p).toArray,.agg (Xw q).toArray] w (Grow (W (Aj c q)) w):=by
 obtain⟨F,G,H⟩:=Ea hm;have A:=Ny hm;refine aR func150 ntmps150 Y (bC Y λcb I e1 m u D=>bC Y λqb B e2 n h E=>?_);have t:=u.trans h;refine bB (h.bP m) Y (bB n Y (bG (Xcm c p q B (hc.bR t) (hq.bQ t)) Y λJ i=>?_));have f:=t.trans i;have l:=(h.trans i).bP m;have b:=i.bP n;cases hi:Ym c q with
 |false=>
  exact bI Y (bE func150 Y ⟨X0 (by unfold Aj;rw[hi,bJ xS]),f⟩)
 |true=>
  refine aS Y (bB b Y (aT Y (λd=>?_) λd=>?_))
  .have g:q.cL=-1:=xU d
   exact bE func150 Y ⟨X0 (by unfold Aj;rw[bJ (λC=>C.2 g)]),f⟩
  .have g:¬q.cL=-1:=xU d
   obtain⟨k,pg,ix,v,o,r,x,K,L,M,N,O,P,Q⟩:=Ik hm hi g;obtain⟨cb',off,s,y⟩:=Xel (hc.bR f) x;obtain⟨ca,cc,ka,kc⟩:=p;simp only at s
   subst s;obtain⟨cL,cR,idx,pa,pc,bS⟩:=q;simp only at v o r
   subst v;subst o;subst r;exact aQ 16 Xf xK Y λa=>aE a b Y (aE a l Y (Xd.arith Xb a rfl (w64 (by show _/\_;simp only;omega)) rfl (aE a b Y (aE a l Y (aE a b Y (Xd.index Xb a rfl (j:=k) (show(0:Int)<=k by omega) (show(k:Int)<c.bT.length by omega) xS rfl (aD a y Y (Xd.arith Xb a rfl (w64 (by show _/\_;simp only;omega)) rfl (Xd.arith Xb a rfl (w64 (by show _/\_;simp only;omega)) rfl (aF a Y λR z=>bE func150 Y ⟨X0 (by unfold Aj;rw[bK ⟨hi,g⟩]),f.trans z⟩))))))))))
theorem Xco(c:Conf)(p:Yz)(q:Plc)(at' n:Int)(w:dD)(hc:Yd w c p)(hq:Zw w q)(hm:Xy c=true)(hfew:q.bS.length<=4096):Xe prog 258 #[.agg (X5 c p).toArray,.agg (Xw q).toArray,W at',W n] w (Grow (W (Qy c q at' n)) w):=by
 have y:=Lb (c:=c) (q:=q) hm hfew;refine aR func258 ntmps258 Y (bC Y λcb z e1 j o v=>bC Y λqb s e2 k d x=>?_);have m:=o.trans d;refine bB (d.bP j) Y (bB k Y (bG (Xcm c p q s (hc.bR m) (hq.bQ m)) Y λt f=>?_));have a:=m.trans f;have g:=(d.trans f).bP j;have h:=f.bP k;cases hi:Ym c q with
 |false=>
  exact bI Y (bE func258 Y ⟨X0 (by unfold Qy;rw[bK hi]),a⟩)
 |true=>
  have r:Qy c q at' n=if at'<0\/n<0\/Zt c q<n\/Zt c q-n<at' then 8 else 0:=by unfold Qy;rw[bJ (by rw[hi];decide)]
  rw[r];refine aS Y ?_;by_cases A:at'<0
  .exact bI Y (bE func258 Y ⟨X0 (by rw[bK X]),a⟩)
  refine aS Y ?_;by_cases B:n<0
  .exact bI Y (bE func258 Y ⟨X0 (by rw[bK X]),a⟩)
  refine aS Y (bB g Y (bB h Y (bG (Xcl c p q t (hc.bR a) (hq.bQ a) hm X) Y λu i=>?_)));have b:=a.trans i;by_cases C:Zt c q<n
  .exact bI Y (bE func258 Y ⟨X0 (by rw[bK X]),b⟩)
  refine aS Y (bB (i.bP g) Y (bB (i.bP h) Y (bG (Xcl c p q u (hc.bR b) (hq.bQ b) hm X) Y λD l=>aV Y ?_)));by_cases E:Zt c q-n<at'
  .exact bI Y (bE func258 Y ⟨X0 (by rw[bK X]),b.trans l⟩)
  .exact aS Y (bE func258 Y ⟨X0 (by rw[bJ X]),b.trans l⟩)
def B5(c:Conf)(q:Plc)(i:Nat):Int:=if q.cL=-1 then q.bS.getD (i/c.size.toNat) 0*c.size+((i%c.size.toNat:Nat):Int) else Aj c q+i
theorem Xgz(c:Conf)(p:Yz)(q:Plc)(i:Nat)(w:dD)(hc:Yd w c p)(hq:Zw w q)(hm:Xy c=true)(hin:Ym c q=true)(hfew:q.bS.length<=4096)(hi:(i:Int)<Zt c q):Xe prog 262 #[.agg (X5 c p).toArray,.agg (Xw q).toArray,W i] w (Grow (W (B5 c q i)) w):=by
 obtain⟨T,U,V⟩:=Ea hm;have K:=Ny hm;refine aR func262 ntmps262 Y (bC Y λcb w1 e1 A B P=>bC Y λqb L e2 g t Q=>?_);have h:=B.trans t;have d:=t.bP A;refine bB g Y ?_;by_cases a:q.cL=-1
 .obtain⟨N,l⟩:=Uw hin a;have m:Zt c q=(q.bS.length:Int)*c.size:=by unfold Zt;rw[bK hin,bK a]
  rw[m] at hi;obtain⟨sz,n⟩:=XE (show 0<=c.size by omega);have y:c.size.toNat=sz:=X
  have f:i/sz<q.bS.length:=by
   apply Nat.div_lt_of_lt_mul
   have:((sz*q.bS.length:Nat):Int)=(q.bS.length:Int)*c.size:=by rw[n,YK];rfl
   omega
  have z:=YW i (show 0<sz by omega);have R:i<=16777216:=by
   have:(q.bS.length:Int)*c.size<=4096*4096:=ZH X X X X;omega
  have u:(i:Int)/c.size=((i/sz:Nat):Int):=by rw[n];rfl
  have v:(i:Int)%c.size=((i%sz:Nat):Int):=by rw[n];rfl
  have o:B5 c q i=q.bS.getD (i/sz) 0*c.size+((i%sz:Nat):Int):=by unfold B5;rw[bK a,y]
  obtain⟨D,C⟩:∃D,D=i/sz:=⟨_,rfl⟩;obtain⟨M,E⟩:∃M,M=i%sz:=⟨_,rfl⟩;rw[<-C] at f u o;rw[<-E] at z v o
  clear C E
  obtain⟨gb,goff,x,F⟩:=(hq.bQ h).rd D f;have G:0<=q.bS.getD D 0/\q.bS.getD D 0<c.bS:=l _ (by rw[XB,XD f];exact XL f);have r:0<=q.bS.getD D 0*c.size/\q.bS.getD D 0*c.size<=1024*4096:=⟨ZG G.1 X,ZH X X X X⟩;rw[o];obtain⟨cL,cR,idx,pa,pc,bS⟩:=q;simp only at x
  subst x;refine aM Y (show(cL == -1)=true by rw[show cL=-1 from a];rfl) (aQ 17 Xf xK Y λb=>aE b g Y (aE b d Y (Xd.div Xb b rfl X (Gr X X) rfl ?_)));rw[u];refine Xd.index Xb b rfl (j:=D) (show(0:Int)<=(D:Int) by omega) (show(D:Int)<bS.length by have:D<bS.length:=f;omega) xS rfl (aD b F Y (aE b d Y (Xd.arith Xb b rfl (w64 (by show _/\_;simp only at r⊢;omega)) rfl (aE b d Y (Xd.div Xb b rfl X (Hg X) rfl ?_)))));rw[v];exact Xd.arith Xb b rfl (w64 (by show _/\_;simp only at r⊢;omega)) rfl (aF b Y λO s=>bE func262 Y ⟨rfl,h.trans s⟩)
 .obtain⟨k,pg,ix,H,l,I,S,g1,g2,g3,g4,g5,g6,g7⟩:=Ik hm hin a;have J:Aj c q=(pg:Int)*c.size+(ix:Int)*Zn c k:=by unfold Aj;rw[bK ⟨hin,a⟩,H,l,I]
  have m:Zt c q=Zn c k:=by unfold Zt;rw[bK hin,bJ a,H]
  rw[m] at hi;exact aI Y (show(q.cL == -1)=false by simpa using a) (bB d Y (bB g Y (bG (Xck c p q L (hc.bR h) (hq.bQ h) hm) Y λO s=>aJ Y (by rw[J];omega) (bE func262 Y ⟨X0 (by unfold B5;rw[bJ a]),h.trans s⟩))))
theorem Xhw{cR:Nat}(hp:1<=cR):∀(n at':Nat),0<n->(Z2 at' n cR).length+at'/cR=(at'+n-1)/cR+1:=by
 intro n
 induction n using QS with
 |_ n ih=>
  intro at' b;have c:=YW at' (show 0<cR by omega);have g:=YG at' cR;rw[L7 hp b,XN];by_cases a:n<=cR-at'%cR
  .rw[Nat.min_eq_left a,Nat.sub_self,Tj];have:(at'+n-1)/cR=at'/cR:=by
    apply Nat.div_eq_of_lt_le
    .rw[YJ];omega
    .rw[Nat.add_mul,Nat.one_mul,YJ];omega
   rw[this]
   simp
   omega
  .rw[Nat.min_eq_right X];have d:=ih (n-(cR-at'%cR)) X (at'+(cR-at'%cR)) X;have f:(at'+(cR-at'%cR))/cR=at'/cR+1:=by
    have e:at'+(cR-at'%cR)=(at'/cR+1)*cR:=by rw[Nat.add_mul,Nat.one_mul,YJ (at'/cR)];omega
    rw[e,Nat.mul_div_cancel _ X]
   rw[f,show at'+(cR-at'%cR)+(n-(cR-at'%cR))-1=at'+n-1 from by omega] at d;omega
theorem XmL(at' n cR:Nat)(w:dD)(hb:at'+n<=16777216/\1<=cR/\cR<=16777216):Xe prog 300 #[W at',W n,W cR] w
 (λv w'=>∃a cap,v=.slice a (Z2 at' n cR).length cap/\Xc Xf w w'):=by
 have a4:maxLen=9223372036854775807:=rfl;refine aR func300 ntmps300 Y (aS Y ?_);by_cases P:n=0
 .subst P;exact bI Y (bE func300 Y ⟨none,0,by rw[Tj];rfl,Xc.refl _ _⟩)
 refine aS Y (aS Y (aS Y (aV Y (aS Y (Xa.div Xb rfl X (Gr X X) rfl ?_)))));have c:=Xhw (cR:=cR) hb.2.1 n at' X;have C:=Ti (cR:=cR) hb.2.1 n at';obtain⟨L,D⟩:∃L,L=(Z2 at' n cR).length:=⟨_,rfl⟩;rw[<-D] at c C⊢;have F:(at':Int)/cR=((at'/cR:Nat):Int):=rfl;rw[F];obtain⟨b,s⟩:∃b,b=at'/cR:=⟨_,rfl⟩;rw[<-s] at c⊢;have z:=Nat.div_mul_le_self (at'+n-1) cR;have m:((at':Int)+n-1)/cR=(((at'+n-1)/cR:Nat):Int):=by
  rw[show(at':Int)+n-1=((at'+n-1:Nat):Int) from by omega];rfl
 obtain⟨E,G⟩:∃E,E=(at'+n-1)/cR:=⟨_,rfl⟩;rw[<-G] at c z m
 clear G
 have H:L=0->False:=λh=>by
  subst h;have:Z2 at' n cR=[]:=ZZ.1 D.symm;rw[L7 hb.2.1 X] at this;cases this
 have a5:=Nat.pos_of_ne_zero H;have t:E=b+L-1:=X
 have I:((at':Int)+n-1)/cR=((b+L-1:Nat):Int):=by rw[m,t]
 have Q:(b+L-1)*cR<=at'+n:=by rw[<-t];omega
 refine Xa.loop (α:=Nat×dE) (λx=>[(0,false,W at'),(1,false,W n),(2,false,W cR),(7,false,x.2),(8,false,W ((b+x.1:Nat):Int))])
  (λx w'=>x.1<=L/\(∃xs,Xm w.heap.size 341 3 w' x.2 x.1 xs)/\Xc Xf w w') (λx=>L-x.1) (0,.slice none 0 0) ⟨rfl,rfl,rfl,rfl,rfl,trivial⟩ ⟨XQ _,⟨[],World.ownsRow_nil _ _ _ _⟩,Xc.refl _ _⟩ ?_
 rintro⟨j,v⟩ w1 ⟨R,⟨xs,r⟩,k⟩ ih;simp only at R r
 refine aN Y (aV Y (aV Y (Xa.div Xb rfl X (Gr X X) rfl ?_)));rw[I];refine aT Y (λA=>?_) λA=>?_
 .have y:j<L:=by have:=bL A;simp only at this;omega
  have J:((b+j:Nat):Int)*cR<=at'+n:=by
   have h1:(b+j)*cR<=(b+L-1)*cR:=Nat.mul_le_mul_right _ X;omega
  have K:0<=((b+j:Nat):Int)*cR:=ZG X X;have S:((b+(j,v).fst:Nat):Int)*cR<=at'+n:=J;have T:0<=((b+(j,v).fst:Nat):Int)*cR:=K;have a6:(j,v).fst<=16777216:=by show j<=16777216;omega
  have U:b<=16777216:=by rw[s];exact YB (Nat.div_le_self _ _) X
  refine Xa.arith Xb rfl (w64 X) rfl ?_;refine aV Y (aV Y (aV Y (aT Y (λV=>?_) λV=>?_)))
  .refine aV Y (aV Y (aV Y (aJ Y (by first|omega|(split <;> omega)) (aJ Y (by first|omega|(split <;> omega)) (aO Y (Xa.buildSlice Xb rfl λb2 w2 e2 o d M=>aN Y ?_))))));have l:=r.bR d (λ_ _ h=>h);exact Xa.append (base:=w.heap.size) (news:=(_:List dE)) Xb rfl l (xI k.size d.size) rfl (λi u f=>by rw[C0,Yx o];simpa [Qa] using f) (λu f=>by simp at f;rcases f with rfl|rfl|rfl <;> rfl) xP λB w3 p q N=>aN Y (aV Y (ih (j+1,B) _ _ ⟨y,⟨_,p⟩,l.bU (k.trans d) (XF _) q⟩ xP ⟨rfl,rfl,rfl,rfl,by show some (W (((b+j:Nat):Int)+1))=some (W ((b+(j+1):Nat):Int));exact Xbr X,trivial⟩))
  .refine aV Y (aJ Y (by first|omega|(split <;> omega)) (aJ Y (by first|omega|(split <;> omega)) (aO Y (Xa.buildSlice Xb rfl λb2 w2 e2 o d M=>aN Y ?_))));have l:=r.bR d (λ_ _ h=>h);exact Xa.append (base:=w.heap.size) (news:=(_:List dE)) Xb rfl l (xI k.size d.size) rfl (λi u f=>by rw[C0,Yx o];simpa [Qa] using f) (λu f=>by simp at f;rcases f with rfl|rfl|rfl <;> rfl) xP λB w3 p q N=>aN Y (aV Y (ih (j+1,B) _ _ ⟨y,⟨_,p⟩,l.bU (k.trans d) (XF _) q⟩ xP ⟨rfl,rfl,rfl,rfl,by show some (W (((b+j:Nat):Int)+1))=some (W ((b+(j+1):Nat):Int));exact Xbr X,trivial⟩))
 .have O:j=L:=by have:=bM A;simp only at this;omega
  subst O;rcases r.2 with⟨rfl,h0⟩|⟨g,cap,cur,rfl,_⟩
  .exact absurd h0 X
  .exact bE func300 Y ⟨_,cap,rfl,k⟩
def Ak(c:Conf)(p:Yz)(r:RA):List dE:=X5 c p++Hf r
def Zb(c:Conf)(q:Plc)(at' n:Nat):Int:=n+(if q.cL=-1 then ((Z2 at' n c.size.toNat).length:Int) else 0)
theorem XgB(c:Conf)(p:Yz)(r:RA)(q:Plc)(at' n:Nat)(w:dD)(hm:Xy c=true)(hb:at'+n<=16777216)(hst:0<=r.cM/\r.cM<=1152921504606846976):Xe prog 263 #[.agg (Ak c p r).toArray,.agg (Xw q).toArray,W at',W n] w (Grow (.agg (Ak c p {r with cM:=r.cM+Zb c q at' n}).toArray) w):=by
 obtain⟨m1,m2,m3⟩:=Ea hm;obtain⟨ra,rcap,rbs,st⟩:=r;replace hst:0<=st/\st<=1152921504606846976:=hst;refine aR func263 ntmps263 Y (bC Y λxb M e1 i j S=>bC Y λqb x e2 k y T=>bC Y λob w3 e3 G l U=>?_);replace k:x.heap[qb]?=some (.cells (Xw q).toArray 83 (0,0)):=k;replace i:M.heap[xb]?=some (.cells (Ak c p ⟨ra,rcap,rbs,st⟩).toArray 264 (0,0)):=i;have m:=l.bP (y.bP i);refine Xa.cJ Xb rfl m rfl rfl ?_;refine Xa.arith Xb rfl (w64 (by show _/\_;simp only;omega)) rfl ?_;refine bF m Y λN b o V=>?_;have A:=((j.trans y).trans l).sn o;have s:=o.heap G X;refine bB (o.heap (l.bP k) X) Y ?_;by_cases g:q.cL=-1
 .obtain⟨sz,H⟩:=XE (show 0<=c.size by omega);have D:c.size.toNat=sz:=X
  have a0:=Ti (cR:=sz) X n at';refine aM Y (show(q.cL == -1)=true by rw[g];rfl) (aQ 13 Xf xK Y λd=>aE d b Y ?_);refine Xd.cJ Xb d rfl b (by first|exact λh=>h|(intro h;omega)|assumption) rfl rfl ?_;have O:∀w',Xc Xf N w'->Xe prog 300 #[W at',W n,W c.size] w' (λu x=>Xc Xf w' x/\∃a cap,u=.slice a (Z2 at' n sz).length cap):=λw' a1=>by
   rw[H];exact(XmL at' n sz w' X).mono λu x ⟨a,cap,P,Q⟩=>⟨Q,a,cap,P⟩
  refine Xd.callQ d rfl rfl (O) ?_;rintro _ R I ⟨sa,scap,rfl⟩;refine Xd.adv Xb d rfl (Xd.arith Xb d rfl (w64 (by show _/\_;simp only;omega)) rfl (Xd.adv Xb d rfl (aF d Y λw6 J=>?_)));have f:=I.trans J;refine bF (f.bP b) Y λw7 E B a2=>?_;refine bB E Y (bF (B.heap (f.bP s) X) Y λw8 t K a3=>?_);have F:st+(n:Int)+((Z2 at' n sz).length:Int)=st+Zb c q at' n:=by unfold Zb;rw[bK g,D];omega
  rw[F] at t;exact aK func263 t Y ⟨rfl,(((A.trans f).sn B).bU K (λz C e=>xH j.size))⟩
 .refine aI Y (show(q.cL == -1)=false by simpa using g) (bB b Y (bF s Y λR v L a4=>?_));have F:st+(n:Int)=st+Zb c q at' n:=by unfold Zb;rw[bJ g];omega
  rw[F] at v;exact aK func263 v Y ⟨rfl,(A.bU L (λz C e=>xH j.size))⟩
theorem Xdj(hm:Xy c=true)(hin:Ym c q=true)(hi:(i:Int)<Zt c q):0<=B5 c q i/\B5 c q i<c.size*c.bS:=by
 obtain⟨u,v,w⟩:=Ea hm;unfold B5;by_cases a:q.cL=-1
 .rw[bK a];obtain⟨o,b⟩:=Uw hin a;have f:Zt c q=(q.bS.length:Int)*c.size:=by unfold Zt;rw[bK hin,bK a]
  rw[f] at hi;obtain⟨sz,j⟩:=XE (show 0<=c.size by omega);have g:c.size.toNat=sz:=X
  rw[g];have d:i/sz<q.bS.length:=by
   apply Nat.div_lt_of_lt_mul
   have:((sz*q.bS.length:Nat):Int)=(q.bS.length:Int)*c.size:=by rw[j,YK];rfl
   omega
  have h:=YW i (show 0<sz by omega);obtain⟨D,p⟩:∃D,D=i/sz:=⟨_,rfl⟩;obtain⟨M,r⟩:∃M,M=i%sz:=⟨_,rfl⟩;rw[<-p] at d⊢;rw[<-r] at h⊢;have l:0<=q.bS.getD D 0/\q.bS.getD D 0<c.bS:=b _ (by rw[XB,XD d];exact XL d);have x:0<=q.bS.getD D 0*c.size:=ZG l.1 X;have e2:q.bS.getD D 0*c.size+c.size<=c.size*c.bS:=by
   have:(q.bS.getD D 0+1)*c.size<=c.bS*c.size:=XZ X X;rw[QG,QO,YK c.bS] at this;exact this
  omega
 .rw[bJ a];obtain⟨k,pg,ix,m,b,n,s,y,z,A,B,C,E,F⟩:=Ik hm hin a;have t:Aj c q=(pg:Int)*c.size+(ix:Int)*Zn c k:=by unfold Aj;rw[bK ⟨hin,a⟩,m,b,n]
  have f:Zt c q=Zn c k:=by unfold Zt;rw[bK hin,bJ a,m]
  omega
def Yh(c:Conf)(q:Plc)(bs:List Int)(at' n:Nat):List Int:=(List.range n).map λi=>bs.getD (B5 c q (at'+i)).toNat 0
theorem XoI(c:Conf)(q:Plc)(bs:List Int)(at' n:Nat):Yh c q bs at' (n+1)=Yh c q bs at' n++[bs.getD (B5 c q (at'+n)).toNat 0]:=by
 unfold Yh;rw[YQ,XM];rfl
theorem Ue{at' n:Int}(h:Qy c q at' n=0):Ym c q=true/\0<=at'/\0<=n/\at'+n<=Zt c q:=by
 have hi:Ym c q=true:=by
  cases hi:Ym c q with
  |true=>rfl
  |false=>unfold Qy at h;rw[bK hi] at h;cases h
 have a:¬(at'<0\/n<0\/Zt c q<n\/Zt c q-n<at'):=λb=>by
  unfold Qy at h;rw[bJ (by rw[hi];decide),bK b] at h;cases h
 exact⟨hi,X,X,X⟩
theorem Xgy(c:Conf)(p:Yz)(r:RA)(q:Plc)(at' n:Nat)(w:dD)(hc:Yd w c p)(hq:Zw w q)(hm:Xy c=true)(hfew:q.bS.length<=4096)(hck:Qy c q at' n=0)(hR:Yp w r)(hrl:(r.bs.length:Int)=c.size*c.bS)(hst:0<=r.cM/\r.cM<=1152921504606846976):Xe prog 213 #[.agg (Ak c p r).toArray,.agg (Xw q).toArray,W at',W n] w (λu w'=>∃u1,u=.tuple #[.agg (Ak c p {r with cM:=r.cM+Zb c q at' n}).toArray,u1,W 0]/\Xm w.heap.size 5 1 w' u1 n ((Yh c q r.bs at' n).map (Value.int .u8))/\Xc Xf w w'):=by
 have am:maxLen=9223372036854775807:=rfl;obtain⟨C,_,_,an⟩:=Ue hck;have ao:=Lb (c:=c) (q:=q) hm hfew;refine aR func213 ntmps213 Y (bC Y λxb w1 e1 Q D ap=>bC Y λqb w2 e2 R E aq=>bC Y λob w3 e3 S t ar=>?_);have d:=t.bP (E.bP Q);have l:=t.bP R;have M:=(D.trans E).trans t;refine bB d Y (bB l Y (bG (Xco c p q at' n w3 (hc.bR M) (hq.bQ M) hm hfew) Y λN y=>?_));have F:=M.trans y;rw[hck];refine aS Y ?_;refine Xa.loop (α:=Nat×dE) (λx=>[(2,false,W at'),(3,false,W n),(4,false,xV xb),(5,false,xV qb),(8,false,xV ob),(12,false,x.2),(13,false,W ((at'+x.1:Nat):Int))])
  (λx w'=>x.1<=n/\Xm N.heap.size 5 1 w' x.2 x.1 ((Yh c q r.bs at' x.1).map (Value.int .u8))/\Xc Xf N w') (λx=>n-x.1) (0,.slice none 0 0) ⟨rfl,rfl,rfl,rfl,rfl,rfl,rfl,trivial⟩ ⟨XQ _,World.ownsRow_nil _ _ _ _,Xc.refl _ _⟩ ?_
 rintro⟨j,v⟩ w5 ⟨hj,B,o⟩ ih;simp only at hj B
 have a:=y.trans o;have s:=F.trans o;refine aN Y (aV Y (aT Y (λO=>?_) λO=>?_))
 .have T:j<n:=by have:=bL O;simp only at this;omega
  have U:=Xdj (i:=at'+j) hm C X;obtain⟨x,V⟩:=XE U.1;have A:x<r.bs.length:=X
  have a0:Yh c q r.bs at' (j+1)=Yh c q r.bs at' j++[r.bs.getD x 0]:=by rw[XoI,V];rfl
  obtain⟨bb,boff,G,a4⟩:=(hR.rd.bR (s)) x A;obtain⟨ra,rcap,rbs,st⟩:=r;simp only at G
  subst G;replace A:x<rbs.length:=A;refine aQ 12 Xf xK Y λf=>aE f (a.bP d) Y (aE f (a.bP d) Y (aE f (a.bP l) Y (aG f (λw' H=>Xgz c p q (at'+j) w' ((hc.bR s).bR H) ((hq.bQ s).bQ H) hm C hfew X) Y ?_)));rw[V];refine Xd.index Xb f rfl (j:=x) (show(0:Int)<=(x:Int) by omega) (show(x:Int)<rbs.length by omega) xS rfl ?_;refine aD f a4 Y (Xd.cK f rfl λw6 k=>Xo.buildSlice Xb f rfl (λ_=>rfl) λb7 w7 e7 a6 a7 a8=>aF f Y λw8 I=>?_);have m:=(k.trans a7).trans I;have J:=B.bR m (λ_ _ h=>h);exact Xa.append (base:=N.heap.size) (news:=[.int .u8 (rbs.getD x 0)]) Xb rfl J (xI o.size m.size) rfl (Hs (I.bP a6)) (by simp[Value.oneCell']) xP λv9 w9 a9 aa au=>aN Y (aV Y (ih (j+1,v9) _ _ ⟨T,by rw[a0,XM];exact a9,J.bU (o.trans m) (XF _) aa⟩ xP ⟨rfl,rfl,rfl,rfl,rfl,rfl,by show some (W (((at'+j:Nat):Int)+1))=some (W ((at'+(j+1):Nat):Int));exact Xbr X,trivial⟩))
 .have ab:j=n:=by have:=bM O;simp only at this;omega
  subst ab;refine bB (a.bP d) Y (bB (a.bP l) Y (bG (XgB c p r q at' j w5 hm X hst) Y λw6 k=>?_));refine bF ((a.trans k).bP S) Y λw7 P K a8=>?_;have L:=(B.bR k (λ_ _ h=>h)).bR K (λb hb e=>xI (World.ownsRow.lt B b hb.symm).1 y.size);have aj:=F.size;have ac:Xm w.heap.size 5 1 w7 v j ((Yh c q r.bs at' j).map (Value.int .u8)):=by
   refine⟨L.1,?_⟩;rcases L.2 with h|⟨g,cap,cur,a1,a2,a3⟩
   .exact .inl h
   .exact .inr ⟨g,cap,cur,a1,X,a3⟩
  exact aK func213 P Y ⟨v,rfl,ac,(s.trans k).bU K (λz hz e=>xH D.size)⟩
def Ac(c:Conf)(q:Plc)(bs:List Int)(at':Nat)(l:List Int):Nat->List Int
 |0=>bs
 |k+1=>(Ac c q bs at' l k).set (B5 c q (at'+k)).toNat (l.getD k 0)
theorem Ks(c:Conf)(q:Plc)(bs:List Int)(at':Nat)(l:List Int):∀k,(Ac c q bs at' l k).length=bs.length
 |0=>rfl
 |k+1=>by show(List.set _ _ _).length=_;rw[XG,Ks c q bs at' l k]
theorem Xk7{v x:Int}(h:x∈l.set i v):x∈l\/x=v:=by
 rcases ZN h with h|h
 .exact .inl h
 .exact .inr h
theorem Xfe(hb:Qo bs)(hl:Qo l):∀{k:Nat},k<=l.length->Qo (Ac c q bs at' l k)
 |0,_=>hb
 |k+1,h=>λx hx=>by
  rcases Xk7 hx with hx|hx
  .exact Xfe hb hl (k:=k) X x hx
  .have a:k<l.length:=h;rw[XB,XD a] at hx;rw[hx];exact hl _ (XL a)
theorem Xcn(c:Conf)(p:Yz)(r:RA)(q:Plc)(at':Nat)(a:Option dF)(cap:Nat)(l:List Int)(w:dD)(hc:Yd w c p)(hq:Zw w q)(hm:Xy c=true)(hfew:q.bS.length<=4096)(hck:Qy c q at' l.length=0)(hR:Yp w r)(hrl:(r.bs.length:Int)=c.size*c.bS)(hst:0<=r.cM/\r.cM<=1152921504606846976)(hr:Rd .u8 w a l)(hin8:Qo l):Xe prog 214 #[.agg (Ak c p r).toArray,.agg (Xw q).toArray,W at',.slice a l.length cap] w (λu w'=>∃r':RA,u=.tuple #[.agg (Ak c p r').toArray,W 0]/\r'.bs=Ac c q r.bs at' l l.length/\r'.cM=r.cM+Zb c q at' l.length/\Yp w' r'/\Gg w r.a r'.a/\Xc Xf w w'):=by
 have bi:maxLen=9223372036854775807:=rfl;obtain⟨T,_,_,bj⟩:=Ue hck;have bk:=Lb (c:=c) (q:=q) hm hfew;have ba:=Ny hm;have A:=hR.len;obtain⟨ra,rcap,rbs,st⟩:=r;replace hrl:(rbs.length:Int)=c.size*c.bS:=hrl;replace A:rbs.length<=4194304:=A;refine Xe.enter func214 rfl ntmps214 rfl rfl ?_;refine aN rfl ?_;refine Xa.alloc Xb rfl ?_;intro xb w1 e1 F U bm;refine aN rfl ?_;refine Xa.alloc Xb rfl ?_;intro qb w2 e2 G V bn;refine aN rfl ?_;refine Xa.alloc Xb rfl ?_;intro ob w3 e3 a0 H bo;refine aN rfl ?_;replace G:w2.heap[qb]?=some (.cells (Xw q).toArray 83 (0,0)):=G;replace F:w1.heap[xb]?=some (.cells (Ak c p ⟨ra,rcap,rbs,st⟩).toArray 264 (0,0)):=F;have b:=H.bP (V.bP F);have s:=H.bP G;have hw:=(U.trans V).trans H;refine Xa.loads Xb rfl b rfl rfl ?_;refine Xa.loads Xb rfl s rfl rfl ?_;refine aP rfl (Xco c p q at' l.length w3 (hc.bR hw) (hq.bQ hw) hm hfew) ?_;rintro _ w4 ⟨rfl,m⟩;refine aN rfl ?_;have a1:=hw.trans m;rw[hck];refine Xa.no Xb rfl rfl rfl ?_;refine Xa.buildSlice Xb rfl ?_;intro I w5 e5 ap a2 bp;refine aN rfl ?_;have J:=a1.trans a2;have d:=m.trans a2;have a3:Xm w.heap.size 5 1 w5 (.slice (some ⟨I,0,none⟩) 0 0) 0 []:=Xm.empty (xH a1.size) ap;obtain⟨a4,B,K,_⟩:=hR.rd 0 (by show 0<rbs.length;omega);replace K:ra=some ⟨a4,B,none⟩:=K;subst K;refine bB (d.bP b) Y ?_;have ab:Rd .u8 w5 (some ⟨a4,B,none⟩) rbs:=hR.rd.bR J;refine Xa.append (base:=w.heap.size) (xs:=[]) (news:=rbs.map (Value.int .u8)) Xb rfl a3 J.size xS ab.cells J5 xP ?_;intro v6 w6 aq C ar;obtain⟨g,gcap,cur,ad,bq,au,av,br,aw⟩:=aq.form (by show 0<0+rbs.length;omega);subst ad;refine aN Y ?_;have ax:Xc Xf w w6:=a3.bU J (XF _) C;have t:∀z,z<I -> ¬J3 (.slice (some ⟨I,0,none⟩) 0 0) z:=λz hz h=>by have e:some z=some I:=h;have:=Option.some.inj e;omega
 have bs:=Xg (m.bP b);have bt:=Xg (m.bP s);have bu:=Xg (m.bP a0);have af:=C.heap (d.bP b) (t xb X);have ag:=C.heap (d.bP s) (t qb X);have ah:=C.heap (d.bP a0) (t ob X);have L:cur.toList=rbs.map (Value.int .u8)++cur.toList.drop rbs.length:=by
  have e:=XY rbs.length cur.toList;rw[show cur.toList.take rbs.length=rbs.map (Value.int .u8) from by simpa using aw] at e;exact e.symm
 obtain⟨rest,R⟩:∃rest,rest=cur.toList.drop rbs.length:=⟨_,rfl⟩;rw[<-R] at L;have ai:w6.heap[g]?=some (.cells (rbs.map (Value.int .u8)++rest).toArray 5 (0,0)):=by rw[<-L];exact au
 have ay:0+rbs.length=rbs.length:=X
 rw[ay] at av⊢;have bv:w4.heap.size<=g:=by
  rcases ar.2 with h|h
  .have e:some g=some I:=h;have:=Option.some.inj e;omega
  .have e:some g=some w5.heap.size:=h;have:=Option.some.inj e;omega
 refine Xa.loop (α:=Nat) (λk=>[(2,false,W at'),(3,false,.slice a l.length cap),(4,false,xV xb),(5,false,xV qb),(8,false,xV ob),(11,false,.slice (some ⟨g,0,none⟩) rbs.length gcap),(12,false,W k)])
  (λk w'=>k<=l.length/\w'.heap[g]?=some (.cells ((Ac c q rbs at' l k).map (Value.int .u8)++rest).toArray 5 (0,0))/\Xc (λz=>z=g) w6 w') (λk=>l.length-k) 0 ⟨rfl,rfl,rfl,rfl,rfl,rfl,rfl,trivial⟩ ⟨XQ _,ai,Xc.refl _ _⟩ ?_
 rintro k w7 ⟨hk,a5,n⟩ ih;have D:Xc Xf w w7:=ax.sn n;have v:=n.heap af X;have M:=n.heap ag X;have aj:=n.heap ah X;have N:=Ks c q rbs at' l k;refine aN Y (aT Y (λh0=>?_) λh0=>?_)
 .have a6:k<l.length:=xH (bL h0)
  have az:=Xdj (i:=at'+k) hm T X;obtain⟨x,hx⟩:=XE az.1;obtain⟨sb,soff,rfl,b1⟩:=(hr.bR D) k a6;have b2:Ac c q rbs at' l (k+1)=(Ac c q rbs at' l k).set x (l.getD k 0):=by show(Ac c q rbs at' l k).set (B5 c q (at'+k)).toNat (l.getD k 0)=_;rw[hx];rfl
  refine aQ 13 Xf xK Y λo=>aE o v Y (aE o M Y (aC o Y (aG o (λw' a7=>Xgz c p q (at'+k) w' ((hc.bR D).bR a7) ((hq.bQ D).bQ a7) hm T hfew X) Y ?_)));rw[hx];exact aB k o Y (aD o b1 Y (Xd.index Xb o rfl (j:=x) (show(0:Int)<=(x:Int) by omega) (show(x:Int)<rbs.length by omega) xS rfl (aF o Y λS a8=>aL Y (a8.bP a5) (show Ya ((Ac c q rbs at' l k).map (Value.int .u8)++rest) (0+x) [.int .u8 (l.getD k 0)]=some (((Ac c q rbs at' l k).set x (l.getD k 0)).map (Value.int .u8)++rest) from by rw[XT,Ww _ _ _ xQ,YO _ _ xQ,ZW]) Y λw9 b3 b4 bw=>aV Y (ih (k+1) _ _ ⟨a6,by rw[b2];exact b3,(n.trans a8.gr).trans b4⟩ X ⟨rfl,rfl,rfl,rfl,rfl,rfl,rfl,trivial⟩))))
 .have b6:k=l.length:=xH (bM h0)
  subst b6;refine bB v Y (aO Y ?_);rw[<-N];refine bF v Y λS y E bx=>?_;replace y:S.heap[xb]?=some (.cells (Ak c p ⟨some ⟨g,0,none⟩,gcap,Ac c q rbs at' l l.length,st⟩).toArray 264 (0,0)):=y;have al:=E.heap M X;have am:=E.heap aj X;have b7:=E.heap a5 X;have b8:Xc Xf w S:=D.sn E;refine bB y Y (bB al Y (bG (XgB c p ⟨some ⟨g,0,none⟩,gcap,Ac c q rbs at' l l.length,st⟩ q at' l.length S hm X hst) Y λw9 O=>bF (O.bP am) Y λP f Q bh=>?_));replace f:P.heap[ob]?=some (.cells (Ak c p ⟨some ⟨g,0,none⟩,gcap,Ac c q rbs at' l l.length,st+Zb c q at' l.length⟩).toArray 264 (0,0)):=f;have an:=Q.heap (O.bP b7) X;have ao:Xc Xf w P:=(b8.trans O).bU Q (λz hz e=>xH U.size);have b9:Yp P ⟨some ⟨g,0,none⟩,gcap,Ac c q rbs at' l l.length,st+Zb c q at' l.length⟩:=⟨Rd.of_take an xS,by simp only[N];omega,by simp only[N];omega,Xfe hR.rng hin8 (XF _)⟩;exact aK func214 f Y ⟨_,rfl,rfl,rfl,b9,.inr ⟨g,0,rfl,X⟩,ao⟩
theorem XgA(c:Conf)(p:Yz)(r:RA)(q:Plc)(at' n:Nat)(w:dD)(hc:Yd w c p)(hq:Zw w q)(hm:Xy c=true)(hfew:q.bS.length<=4096)(hck:Qy c q at' n=0)(hR:Yp w r)(hrl:(r.bs.length:Int)=c.size*c.bS)(hst:0<=r.cM/\r.cM<=1152921504606846976):Xe prog 207 #[.agg (Ak c p r).toArray,.agg (Xw q).toArray,W at',W n] w (λu w'=>∃r':RA,u=.tuple #[.agg (Ak c p r').toArray,W 0]/\r'.bs=Ac c q r.bs at' (X7 n) n/\r'.cM=r.cM+Zb c q at' n/\Yp w' r'/\Gg w r.a r'.a/\Xc Xf w w'):=by
 obtain⟨aj,_,_,ak⟩:=Ue hck;have al:=Lb (c:=c) (q:=q) hm hfew;have E:(X7 n).length=n:=XJ;refine aR func207 ntmps207 Y (bC Y λxb w1 e1 l F am=>bC Y λqb C e2 S G an=>bC Y λob w3 e3 H o ao=>?_);replace l:w1.heap[xb]?=some (.cells (Ak c p r).toArray 264 (0,0)):=l;have t:=o.bP (G.bP l);have v:=o.bP S;have L:=(F.trans G).trans o;refine bB t Y (bB v Y (bG (Xco c p q at' n w3 (hc.bR L) (hq.bQ L) hm hfew) Y λw4 d=>?_));have T:=L.trans d;rw[hck];refine aS Y (aQ 8 Xf xK Y λi=>aE i (d.bP t) Y (aE i (d.bP v) Y (Xd.cK i rfl λw5 y=>Xo.make Xb i rfl (m:=n) (kk:=n) rfl rfl (XF _) xP X (λ_=>rfl) λU w6 e6 I A ap=>?_)));have f:=T.trans (y.trans A);have hd:∀w',Xc Xf w6 w'->Xe prog 214 #[.agg (Ak c p r).toArray,.agg (Xw q).toArray,W at',.slice (some ⟨U,0,none⟩) n n] w' (λu C=>Xc Xf w' C/\∃r':RA,u=.tuple #[.agg (Ak c p r').toArray,W 0]/\r'.bs=Ac c q r.bs at' (X7 n) n/\r'.cM=r.cM+Zb c q at' n/\Yp C r'/\Gg w r.a r'.a/\Xj (λz=>z=ob) r'.a):=λw' a=>by
  have V:Qa (Y8 (Value.int .u8 0)) n=(X7 n).map (Value.int .u8):=Xan _;rw[V] at I;have hW:=Xcn c p r q at' (some ⟨U,0,none⟩) n (X7 n) w' ((hc.bR f).bR a) ((hq.bQ f).bQ a) hm hfew (by rw[E];exact hck) ((hR.bQ f).bQ a) hrl hst (Rd.of (a.bP I) rfl) (λx hx=>by rw[ZX hx];omega);rw[E] at hW;exact hW.mono λu C ⟨r',a1,M,N,O,D,P⟩=>⟨P,r',a1,M,N,O,D.imp id (λ⟨g,off,Q,h2⟩=>⟨g,off,Q,xI f.size a.size⟩),λb off s e hb=>by
   rcases D with h|⟨g,off',Q,h2⟩
   .rw[h] at e;have ai:=Ny hm;obtain⟨b',off',e',a7⟩:=hR.rd 0 X;rw[e] at e';cases e'
    have:=World.block_lt_of_cell? w _ a7;simp only at this
    omega
   .rw[Q] at e;cases e
    have:=Xg H;have:=d.size;have:=y.size;have:=A.size;have:=a.size;omega⟩
 refine Xd.callQ i rfl rfl (hd) ?_;rintro _ w7 J ⟨r',rfl,M,N,O,D,P⟩;refine Xd.adv Xb i rfl (aF i Y λw8 B=>?_);have a8:=f.trans (J.trans B);have R:=(d.trans (y.trans A)).bP H;refine bF ((J.trans B).bP R) Y λw9 j K aq=>?_;replace j:w9.heap[ob]?=some (.cells (Ak c p r').toArray 264 (0,0)):=j;have k:=O.bQ B;have aa:Yp w9 r':=⟨k.rd.bW P K,k.len,k.lc,k.rng⟩;exact aK func207 j Y ⟨r',rfl,M,N,aa,D,a8.bU K (λz V e=>xH F.size)⟩
theorem Rd.at{k:IntKind}{w:dD}{a:Option dF}{l:List Int}(h:Rd k w a l)(hl:0<l.length):∃b off,a=some ⟨b,off,none⟩/\∀j,j<l.length->w.cell? ⟨b,off+j,none⟩=some (.int k (l.getD j 0)):=by
 obtain⟨b,off,e,_⟩:=h 0 hl;refine⟨b,off,e,λj c=>?_⟩;obtain⟨b',off',e',d⟩:=h j c;rw[e] at e';cases e';exact d
structure Mv where
 mv:Nat
 f:Nat
 t:Nat
 size:Nat
def Ph(A:Ar)(M:Mv)(cE:Nat):List dE:=[.func (.func 254) #[.pointer (some ⟨A.ab,0,none⟩)] #[],.int .i64 M.f,.int .i64 M.t,.int .i64 M.size,.int .i64 cE]
structure E3(w:dD)(A:Ar)(V:ArV)(M:Mv)(cE:Nat):Prop where
 ar:Zc w A V
 obj:w.heap[M.mv]?=some (.cells (Ph A M cE).toArray 288 (0,0))
 pos:1<=M.size
 cE:cE<=M.size
 f:M.f+M.size<=V.bs.length
 t:M.t+M.size<=V.bs.length
theorem E3.nfoot{M:Mv}(h:E3 w A V M g):¬Z4 A M.mv:=by
 rintro(e|e)
 .exact Ib h.obj h.ar.dat xD e
 .exact Ib h.obj (h.ar.met _ e).1 xD rfl
theorem E3.bQ{w w':dD}{A:Ar}{V:ArV}{M:Mv}{g:Nat}(h:E3 w A V M g)(hc:Xc Xf w w'):E3 w' A V M g:=⟨h.ar.bQ hc,hc.bP h.obj,h.pos,h.cE,h.f,h.t⟩
def Ie(bs:List Int)(t f n:Nat):List Int:=Q8 bs t (sub bs f n)
theorem Rw{f:Nat}(h:f+n<=bs.length)(h':t+n<=bs.length):(Ie bs t f n).length=bs.length:=Jq (by rw[Hj h];exact h')
def Se(A:Ar)(M:Mv):Nat->Prop:=λb=>Z4 A b\/b=M.mv
theorem XbI(A:Ar)(V:ArV)(M:Mv)(g:Nat)(w:dD)(h:E3 w A V M g):Xe prog 158 #[.pointer (some ⟨M.mv,0,none⟩)] w (Grow (W (M.size-g:Nat)) w):=by
 have b:=h.ar.len;have c:=h.cE;have ht:=h.t;exact aR func158 ntmps158 Y (Xa.quiet rfl Xn xK (Xk.adv Xb rfl (Xk.cJ Xb rfl h.obj rfl rfl (Xk.cJ Xb rfl h.obj rfl rfl (Xk.arith Xb rfl (w64 X) rfl (Xk.nil λd a=>aN Y (bE func158 Y ⟨X0 X,a⟩)))))))
theorem XfE(A:Ar)(V:ArV)(M:Mv)(g i n:Nat)(w:dD)(h:E3 w A V M g)(hi:i+n<=M.size)(hn:0<n):Xe prog 233 #[.pointer (some ⟨M.mv,0,none⟩),W i,W n] w
 (λ_ w'=>E3 w' A {V.cT A n with bs:=Ie V.bs (M.t+i) (M.f+i) n} M g/\Xc (Z4 A) w w'):=by
 have r:=h.ar.len;have ht:=h.t;have hf:=h.f;have m:=h.nfoot;have e1:((M.t:Int)+i)=((M.t+i:Nat):Int):=X
 have e2:((M.f:Int)+i)=((M.f+i:Nat):Int):=X
 refine aR func233 ntmps233 Y (bI Y (aQ 18 (Z4 A) xK Y λa=>aE a h.obj Y (aE a h.obj Y (aC a Y (aE a h.obj Y (aC a Y ?_))))));rw[e1,e2];refine Xd.cK a rfl ?_;intro k f;have l:=h.bQ f;refine Xo.call rfl (XdP A V (M.t+i) (M.f+i) n k l.ar X X).fn (Post:=λv d=>v=W 0/\Zc d A {V.cT A n with bs:=Ie V.bs (M.t+i) (M.f+i) n}/\Xc (Z4 A) k d)
  (λq=>(XdP A V (M.t+i) (M.f+i) n k l.ar X X).mono λv d o=>⟨q.trans o.2.2,o⟩) ?_
 rintro _ d _ ⟨rfl,p,j⟩;refine aF a Y λs b=>?_;have c:(Ie V.bs (M.t+i) (M.f+i) n).length=V.bs.length:=Rw X X;exact bE func233 Y ⟨⟨p.bQ b,b.bP (j.heap l.obj m),h.pos,h.cE,by simp only[c];exact hf,by simp only[c];exact ht⟩,f.gr.trans (j.trans b.gr)⟩
theorem Xlh(M:Mv)(i n:Int)(w:dD)(hn:n<=0):Xe prog 233 #[.pointer (some ⟨M.mv,0,none⟩),W i,W n] w (λ_ w'=>w=w'):=by
 exact aR func233 ntmps233 Y (aS Y (bE func233 Y rfl))
def Dh(n:Int)(left:Nat):Nat:=(min n left).toNat
def Rc(A:Ar)(V:ArV)(M:Mv)(g k:Nat):ArV:=if k=0 then V else {V.cT A k with bs:=Ie V.bs (M.t+g) (M.f+g) k}
theorem Xlf(A:Ar)(V:ArV)(M:Mv)(g:Nat)(n:Int)(w:dD)(h:E3 w A V M g):Xe prog 203 #[.pointer (some ⟨M.mv,0,none⟩),W n] w
 (λv w'=>v=W (Dh n (M.size-g))/\E3 w' A (Rc A V M g (Dh n (M.size-g))) M (g+Dh n (M.size-g))/\Xc (Se A M) w w'):=by
 have z:=h.ar.len;have B:=h.cE;have ht:=h.t;obtain⟨k,j⟩:∃k,k=Dh n (M.size-g):=⟨_,rfl⟩;rw[<-j];unfold Dh at j;have x:k<=M.size-g:=X
 have m:(if (0:Int)>(if ((M.size-g:Nat):Int)<n then ((M.size-g:Nat):Int) else n) then 0 else (if ((M.size-g:Nat):Int)<n then ((M.size-g:Nat):Int) else n))=(k:Int):=by
  subst j;split <;> split <;> omega
 refine aR func203 ntmps203 Y (bG (XbI A V M g w h) Y λr c=>?_);rw[m];have l:=h.bQ c;by_cases f:k=0
 .refine aS Y ?_;subst f;exact bE func203 Y ⟨rfl,by unfold Rc;rw[bK rfl];exact l,c.gr⟩
 .refine bI Y (bB l.obj Y (aP Y (XfE A V M g g k r l X X) ?_));rintro _ C ⟨a,o⟩;refine aN Y (bB a.obj Y (aV Y ?_));rw[show((g:Int)+k)=((g+k:Nat):Int) from by omega];refine bF a.obj Y λs p i y=>?_;have q:=a.ar.bR i (λb d e=>by
   subst e;rcases d with e|e|e|e
   .exact Ib a.obj a.ar.obj xD e
   .exact Ib a.obj a.ar.dat xD e
   .exact Ib a.obj a.ar.cap xD e
   .exact Ib a.obj (a.ar.met _ e).1 xD rfl)
  have t:Xc (Se A M) w s:=c.gr.trans ((o.mono λb _ d=>.inl d).trans (i.mono λb _ d=>.inr d));have u:Rc A V M g k={V.cT A k with bs:=Ie V.bs (M.t+g) (M.f+g) k}:=by unfold Rc;rw[bJ f]
  exact bE func203 Y ⟨rfl,by rw[u];exact⟨q,p,h.pos,X,a.f,a.t⟩,t⟩
def Qv(i n g:Nat):Nat:=min (i+n) g-i
def Oa(A:Ar)(V:ArV)(M:Mv)(g i n:Nat):ArV:=if Qv i n g=0 then V else {V.cT A (Qv i n g) with bs:=Ie V.bs (M.t+i) (M.f+i) (Qv i n g)}
theorem Xlg(A:Ar)(V:ArV)(M:Mv)(g i n:Nat)(w:dD)(h:E3 w A V M g)(hi:i+n<=M.size):Xe prog 169 #[.pointer (some ⟨M.mv,0,none⟩),W i,W n] w
 (λv w'=>v=W 0/\E3 w' A (Oa A V M g i n) M g/\Xc (Z4 A) w w'):=by
 have j:=h.ar.len;have k:=h.cE;have ht:=h.t;refine aR func169 ntmps169 Y (aS Y (aS Y (bB h.obj Y (aS Y (bB h.obj Y (aV Y (aS Y (aV Y (bB h.obj Y (aJ Y (by split <;> omega) ?_))))))))));by_cases a:Qv i n g=0
 .refine aP Y (Xlh M i _ w (by unfold Qv at a;split <;> omega)) ?_;rintro _ d rfl;have b:Oa A V M g i n=V:=by unfold Oa;rw[bK a]
  exact aN Y (bE func169 Y ⟨rfl,by rw[b];exact h,Xc.refl _ _⟩)
 .have e:(if (g:Int)<(i:Int)+n then (g:Int) else (i:Int)+n)-i=((Qv i n g:Nat):Int):=by unfold Qv at a⊢;split <;> omega
  rw[e];refine aP Y (XfE A V M g i (Qv i n g) w h (by unfold Qv;omega) X) ?_;rintro _ d ⟨f,c⟩;have b:Oa A V M g i n={V.cT A (Qv i n g) with bs:=Ie V.bs (M.t+i) (M.f+i) (Qv i n g)}:=by unfold Oa;rw[bJ a]
  exact aN Y (bE func169 Y ⟨rfl,by rw[b];exact f,c⟩)
def Pi(N:Nat)(f t size:Int):Bool:=decide (1<=size) && (decide (0<=f) && decide (size<=N) && decide (f<=N-size)) && (decide (0<=t) && decide (size<=N) && decide (t<=N-size)) && (decide (f+size<=t)||decide (t+size<=f))
theorem Vf{f t:Int}:Pi N f t size=true↔1<=size/\(0<=f/\size<=N/\f<=N-size)/\(0<=t/\t<=N-size)/\(f+size<=t\/t+size<=f):=by
 unfold Pi;simp only[XI,Bool.or_eq_true,decide_eq_true_eq];constructor
 .rintro⟨⟨⟨b,⟨c,a⟩,d⟩,⟨g,_⟩,h⟩,i⟩;exact⟨b,⟨c,a,d⟩,⟨g,h⟩,i⟩
 .rintro⟨b,⟨c,a,d⟩,⟨g,h⟩,i⟩;exact⟨⟨⟨b,⟨c,a⟩,d⟩,⟨g,a⟩,h⟩,i⟩
def G3(N:Nat)(size at':Int):Bool:=decide (0<=at') && decide (size<=N) && decide (at'<=N-size)
theorem XfD(A:Ar)(V:ArV)(x size:Int)(sb pb:Nat)(w:dD)(hA:Zc w A V)(hs:w.heap[sb]?=some (.cells #[W size] 3 (0,0)))(hp:w.heap[pb]?=some (.cells #[.pointer (some ⟨A.ab,0,none⟩)] 153 (0,0)))(hsz:1<=size):Xe prog 253 #[W x,xV sb,xV pb] w (Grow (.bool (G3 V.bs.length size x)) w):=by
 have g:=hA.len;refine aR func253 ntmps253 Y (Xa.quiet rfl Xn xK (Xk.adv Xb rfl ?_));refine Xk.fork Xb rfl rfl rfl (λc=>?_) (λc=>?_)
 .refine Xk.cJ Xb rfl hs rfl rfl (Xk.cJ Xb rfl hp rfl rfl (Xk.call Xb rfl (λw' b=>(XaI A V w' (hA.bQ b)).bQ) rfl ?_));refine Xk.fork Xb rfl rfl rfl (λd=>?_) (λd=>?_)
  .have h:=bL d;exact Xk.cJ Xb rfl hp rfl rfl (Xk.call Xb rfl (λw' b=>(XaI A V w' (hA.bQ b)).bQ) rfl (Xk.cJ Xb rfl hs rfl rfl (Xk.arith Xb rfl (w64 X) rfl (Xk.nil λf a=>aN Y (bE func253 Y ⟨Q5 (by unfold G3;rw[show decide (0<=x)=true from c,show decide (size<=(V.bs.length:Int))=true from d];rfl),a⟩)))))
  .exact Xk.nil λf a=>aN Y (bE func253 Y ⟨Q5 (by unfold G3;rw[show decide (0<=x)=true from c,show decide (size<=(V.bs.length:Int))=false from d];rfl),a⟩)
 .exact Xk.nil λf a=>aN Y (bE func253 Y ⟨Q5 (by unfold G3;rw[show decide (0<=x)=false from c];rfl),a⟩)
theorem Ut{x:Int}:G3 N size x=true↔0<=x/\size<=N/\x<=N-size:=by unfold G3;simp[and_assoc]
theorem Xle(A:Ar)(V:ArV)(f t size:Nat)(w:dD)(hA:Zc w A V)(hm:Pi V.bs.length f t size=true):Xe prog 202 #[.pointer (some ⟨A.ab,0,none⟩),W f,W t,W size] w
 (λv w'=>∃M:Mv,v=.tuple #[.pointer (some ⟨M.mv,0,none⟩),W 0]/\M.f=f/\M.t=t/\M.size=size/\w.heap.size<=M.mv/\E3 w' A V M 0/\Xc Xf w w'):=by
 have z:=hA.len;have g:=Vf.1 hm;have l:G3 V.bs.length size f=true:=Ut.2 X;have m:G3 V.bs.length size t=true:=Ut.2 X;refine aR func202 ntmps202 Y (bC Y λpb B e1 n i u=>bC Y λsb r e2 c d x=>?_);have k:=(hA.bQ i).bQ d;have b:=d.bP n;refine bB b Y (bB c Y (aS Y (bG (XfD A V f size sb pb r k c b X) Y λs a=>aI Y (by rw[l];rfl) (bG (XfD A V t size sb pb s (k.bQ a) (a.bP c) (a.bP b) X) Y λC h=>aI Y (by rw[m];rfl) (aJ Y (by split <;> split <;> omega) ?_)))));have j:=h.bP (a.bP c);refine bB j Y (aI Y (bO (by split <;> split <;> omega)) (bB (h.bP (a.bP b)) Y (bB j Y (aO Y (bC Y λmv D e5 o p y=>?_)))));have q:=(((i.trans d).trans a).trans h).trans p;exact bE func202 Y ⟨⟨mv,f,t,size⟩,rfl,rfl,rfl,rfl,by have:=((i.trans d).trans a).trans h;have:=this.size;simp only;omega,⟨hA.bQ q,o,xP,XQ _,xP,xP⟩,q⟩
theorem Xk9(b cb:Nat)(total dA:Int)(w:dD)(h:Bi w b total dA)(hc:w.heap[cb]?=some (.cells #[xV b] 152 (0,0))):Hp prog 194 #[xV cb] w (λ_ w'=>Bi w' b total total/\Xc (λx=>x=b) w w'):=by
 obtain⟨d,k,l,i⟩:=h;exact Hp.enter func194 rfl ntmps194 rfl rfl (aN Y (aQ 5 Xf xK Y λa=>aD a (Cr (off:=0) hc rfl) Y (aD a (Cr (off:=0) hc rfl) Y (aE a d Y (aF a Y λm c=>bF (c.bP d) Y λn f g j=>bE func194 Y ⟨⟨f,X,X,i⟩,c.gr.trans g⟩)))))
theorem Xk8(b:Nat)(total dA:Int)(w:dD)(h:Bi w b total dA):Xe prog 125 #[xV b] w (λv w'=>v=W (total-dA)/\Bi w' b total total/\Xc (λx=>x=b) w w'):=by
 have l:=h;obtain⟨j,s,t,u⟩:=h;refine aR func125 ntmps125 Y (bC Y λcb y e1 a d r=>bB a Y (Xa.defer rfl rfl (aN Y (Xa.quiet rfl Xn xK (Xk.adv Xb rfl (Xk.cJ Xb rfl a rfl rfl (Xk.cJ Xb rfl (d.bP j) rfl rfl (Xk.cJ Xb rfl a rfl rfl (Xk.cJ Xb rfl (d.bP j) rfl rfl (Xk.arith Xb rfl (w64 X) rfl (Xk.nil λm f=>aN Y ?_)))))))))));have i:=Xk9 b cb total dA m ((l.bR d).bR f) (f.bP a);refine Xa.ret1D Xb rfl func125 rfl rfl rfl (O9 (args:=[]) (captured:=[xV cb]) i.fn) ⟨i.fn,?_⟩;intro c cs n;obtain⟨en,u',w',fr,⟨o,v,p,q,k⟩,g⟩:=i.calls c cs n;exact⟨en,u',w',fr,⟨o,v,p,rfl,q,((d.trans f).gr).trans k⟩,g⟩
theorem Xcc(r:RA)(i n:Int)(w:dD)(hl:r.bs.length<=4194304):Xe prog 303 #[.agg (Hf r).toArray,W i,W n] w (Grow (.bool (N1 r.bs.length i n)) w):=by
 refine aR func303 ntmps303 Y (bC Y λb m e1 j a l=>aT Y (λc=>?_) λc=>?_)
 .have d:=bL c;refine aT Y (λf=>?_) λf=>?_
  .have g:=bL f;refine bB j Y (aT Y (λh=>?_) λh=>?_)
   .have k:=bL h;exact bB j Y (aV Y (bE func303 Y ⟨Q5 (by unfold N1;rw[bN d,bN g,bN k];rfl),a⟩))
   .exact bE func303 Y ⟨Q5 (by unfold N1;rw[bO (bM h)];simp),a⟩
  .have g:=bM f;exact bE func303 Y ⟨Q5 (by unfold N1;rw[bO g];simp),a⟩
 .have d:=bM c;exact bE func303 Y ⟨Q5 (by unfold N1;rw[bO d];rfl),a⟩
theorem Rd.keepU{q:Nat}{c:Array dE}(hr:Rd .u8 w a l)(hq:w.heap[q]?=some (.cells c t fz))(hc:∀x∈c.toList,∀z,x≠.int .u8 z)(hs:Xc (λb=>b=q) w w'):Rd .u8 w' a l:=λj f=>by
 obtain⟨b,off,e,d⟩:=hr j f;refine⟨b,off,e,hs.cell d (λg=>?_)⟩;subst g;rw[Yx hq] at d;exact hc _ (Array.mem_toList_iff.2 (Array.mem_of_getElem? d)) _ rfl
theorem Xny{x:Int}(hi:i<l.length):Ya (l.map (Value.int .u8)++rest) i [.int .u8 x]=some ((l.set i x).map (Value.int .u8)++rest):=by
 rw[Ww _ _ _ xQ,YO _ _ (xU hi),ZW]
def Oe(w:dD)(r:RA):Prop:=∃g,r.a=some ⟨g,0,none⟩/\w.heap.size<=g
theorem Oe.dC{r:RA}(h:Oe w' r)(hs:w.heap.size<=w'.heap.size):Oe w r:=by obtain⟨g,a,b⟩:=h;exact⟨g,a,YB hs b⟩
theorem Xmj(r:RA)(i:Nat)(a:Option dF)(cap:Nat)(l:List Int)(w:dD)(h:Yp w r)(h0:0<r.bs.length)(hr:Rd .u8 w a l)(hb:Qo l)(hi:i+l.length<=r.bs.length):Xe prog 319 #[.agg (Hf r).toArray,W i,.slice a l.length cap] w (λv w'=>∃r':RA,v=.agg (Hf r').toArray/\r'.bs=Q8 r.bs i l/\r'.cM=r.cM/\Yp w' r'/\Xc Xf w w'/\Oe w r'):=by
 have j:=h.len;have ad:maxLen=9223372036854775807:=rfl;obtain⟨ra,rc,bs,st⟩:=r;simp only at h0 hi j
 obtain⟨b1,a6,ea,_⟩:=h.rd.at h0;simp only at ea
 subst ea;refine aR func319 ntmps319 Y (bC Y λrb w1 e1 y m ae=>bC Y λqb D e2 L b af=>Xa.buildSlice Xb rfl λb3 w3 e3 M d ag=>aN Y ?_);have N:=(m.trans b).trans d;refine bB (d.bP (b.bP y)) Y ?_;have O:Xm D.heap.size 5 1 w3 (.slice (some ⟨b3,0,none⟩) 0 0) 0 []:=Xm.empty X M;refine Xa.append (base:=D.heap.size) (xs:=[]) (news:=bs.map (Value.int .u8)) Xb rfl O d.size xS (h.rd.bR N).cells J5 xP λv4 w4 P Q ah=>aN Y ?_;have R:=O.bU d (XF _) Q;obtain⟨g,n,cur,rfl,ai,S,z,aj,T⟩:=P.form xP;have o:cur.toList=bs.map (Value.int .u8)++cur.toList.drop bs.length:=by
  have e:=XY bs.length cur.toList;rw[show cur.toList.take bs.length=bs.map (Value.int .u8) from by simpa using T] at e;exact e.symm
 obtain⟨rest,t⟩:∃rest,rest=cur.toList.drop bs.length:=⟨_,rfl⟩;rw[<-t] at o;have E:w4.heap[g]?=some (.cells (bs.map (Value.int .u8)++rest).toArray 5 (0,0)):=by rw[<-o];exact S
 have U:0+bs.length=bs.length:=X
 rw[U] at z⊢;refine Xa.loop (α:=Nat) (λk=>[(1,false,W i),(2,false,.slice a l.length cap),(3,false,xV rb),(6,false,xV qb),(7,false,.slice (some ⟨g,0,none⟩) bs.length n),(8,false,W k)])
  (λk w'=>w'.heap[g]?=some (.cells ((Eu bs i l k).map (Value.int .u8)++rest).toArray 5 (0,0))/\Xc Xf D w'/\k<=l.length) (λk=>l.length-k) 0 ⟨rfl,rfl,rfl,rfl,rfl,rfl,trivial⟩ ⟨by rw[XbX];exact E,R,X⟩ ?_
 rintro k w5 ⟨F,f,hk⟩ ih;have p:Xc Xf w w5:=(m.trans b).trans f;refine aN Y (aT Y (λG=>?_) λG=>?_)
 .have A:k<l.length:=xH (bL G)
  obtain⟨b6,ab,rfl,V⟩:=(hr.bR p) k A;refine aV Y (aU k Y (aW Y V Y (aU (i+k) Y ?_)));have a0:=Sp (k:=k) (l:=l) (i:=i) (bs:=bs) hi;refine aL Y F (Xny (by rw[a0];omega)) Y λw6 h6 c a2=>?_;rw[XT,XbW hi A] at h6;exact aV Y (ih (k+1) _ _ ⟨h6,f.sn c,X⟩ X ⟨rfl,rfl,rfl,rfl,rfl,rfl,trivial⟩)
 .have a3:k=l.length:=xH (bM G)
  subst a3;rw[Xf2] at F;have H:=f.bP (b.bP y);refine bF H Y λw6 I c a2=>bB I Y (bF (c.heap (f.bP L) X) Y λJ q C ak=>?_);have K:J.heap[g]?=some (.cells ((Q8 bs i l).map (Value.int .u8)++rest).toArray 5 (0,0)):=C.heap (c.heap F X) X;have s:=Jq hi;have a4:Xc Xf w J:=(p.sn c).sn C;have a5:Rd .u8 J (some ⟨g,0,none⟩) (Q8 bs i l):=Rd.of_take K xS;rw[<-s] at q;exact aK func319 q Y ⟨⟨some ⟨g,0,none⟩,n,Q8 bs i l,st⟩,rfl,rfl,rfl,⟨a5,by simp only[s];exact j,by simp only[s];exact z,λx u=>(N9 u).elim (h.rng x) (hb x)⟩,a4,g,rfl,xI m.size b.size⟩
def XdH(w:dD)(bs:List Int)(st e:Int):dE->dD->Prop:=λv w'=>∃r':RA,v=.tuple #[.agg (Hf r').toArray,.int .i64 e]/\r'.bs=bs/\r'.cM=st/\Yp w' r'/\Xc Xf w w'/\Oe w r'
def Oh(st:Int):Prop:=0<=st/\st<=1000000000000
theorem Xmi(r:RA)(i:Nat)(a:Option dF)(cap:Nat)(l:List Int)(w:dD)(h:Yp w r)(hst:Oh r.cM)(h0:0<r.bs.length)(hr:Rd .u8 w a l)(hb:Qo l)(hi:i+l.length<=r.bs.length):Xe prog 304 #[.agg (Hf r).toArray,W i,.slice a l.length cap] w (XdH w (Q8 r.bs i l) (r.cM+l.length) 0):=by
 have q:=h.len;unfold Oh at hst;refine aR func304 ntmps304 Y (bC Y λrb M e1 m u I=>bC Y λqb E e2 v d J=>bB (d.bP m) Y (bG (Xcc r i l.length E q) Y λN f=>aI Y (by rw[Xc5.2 X];rfl) ?_));have g:=f.bP (d.bP m);refine bB g Y (aV Y (bF g Y λF s n K=>?_));have b:=((u.trans d).trans f).sn n;have k:=h.bQ b;refine bB s Y (aP Y (Xmj {r with cM:=r.cM+l.length} i a cap l F ⟨k.rd,k.len,k.lc,k.rng⟩ h0 (hr.bR b) hb hi) ?_);rintro _ O ⟨z,rfl,A,B,c,o,C⟩;have j:=o.bP (n.heap (f.bP v) X);refine aN Y (bF j Y λH t p L=>?_);have D:Yp H z:=by
  exact⟨c.rd.keepU j (by simp[Y8]) p,c.len,c.lc,c.rng⟩
 exact aK func304 t Y ⟨z,rfl,A,B,D,((b.trans o).sn p),C.dC b.size⟩
theorem Xmg(r:RA)(t f n:Nat)(w:dD)(h:Yp w r)(hst:Oh r.cM)(h0:0<r.bs.length)(hf:f+n<=r.bs.length)(ht:t+n<=r.bs.length):Xe prog 272 #[.agg (Hf r).toArray,W t,W f,W n] w (XdH w (Q8 r.bs t (sub r.bs f n)) (r.cM+n) 0):=by
 have k:=h.len;have E:=h.lc;refine aR func272 ntmps272 Y (bC Y λrb w1 e1 m F U=>bC Y λqb G e2 H d V=>bB (d.bP m) Y (bG (Xcc r f n G k) Y λQ g=>aI Y (by rw[Xc5.2 X];rfl) (bB (g.bP (d.bP m)) Y (bG (Xcc r t n Q k) Y λw4 o=>aI Y (by rw[Xc5.2 X];rfl) ?_))));have p:=o.bP (g.bP (d.bP m));have C:=o.bP (g.bP H);refine aQ 14 (λb=>b=qb) xK Y λa=>aE a p Y (aE a p Y (aC a Y (Xd.slice Xb a rfl (l:=f) (h:=(f+n)) (by first|rfl|omega|simp[Dx]) (by first|rfl|omega|simp[Dr]) X X rfl ?_)));rw[show f+n-f=n from by omega];refine Xd.cK a rfl ?_;intro R y;have i:=(((F.trans d).trans g).trans o).trans y;have z:=Hj hf;have c:=Xmi r t (Ae r.a r.cap f 1) (r.cap-f) (sub r.bs f n) R (h.bQ i) hst h0 ((h.rd.bR i).shift hf E) (λx I=>h.rng x (ZR (ZB I))) (by rw[z];exact ht);rw[z] at c;refine Xo.call rfl c.fn (λJ=>c.mono λv G K=>⟨by obtain⟨_,_,_,_,_,S,_⟩:=K;exact J.up S,K⟩) ?_;rintro _ w6 _ ⟨T,rfl,L,M,j,A,N⟩;refine Xd.adv Xb a rfl (Xd.cK a rfl λw7 q=>?_);have s:=q.bP (A.bP (y.bP C));refine Xo.store Xb a rfl s (by first|(intro h;exact rfl)|(intro h;omega)) rfl rfl rfl λw8 D B a0=>aF a Y λw9 u=>?_;have O:=((i.trans A).trans q).sn B;have P:=Yp.bQ ⟨((j.bQ q).rd).keepU s (by simp[Y8]) B,j.len,j.lc,j.rng⟩ u;exact aK func272 (u.bP D) Y ⟨T,rfl,L,M,P,O.trans u,N.dC i.size⟩
theorem Yp.bV{r:RA}{q:Nat}{c:Array dE}(h:Yp w r)(hq:w.heap[q]?=some (.cells c t fz))(hc:∀x∈c.toList,∀z,x≠.int .u8 z)(hs:Xc (λb=>b=q) w w'):Yp w' r:=
 ⟨h.rd.keepU hq hc hs,h.len,h.lc,h.rng⟩
structure RM where
 ra:RA
 f:Nat
 t:Nat
 size:Nat
 cE:Nat
def Jd(m:RM):List dE:=[.slice m.ra.a m.ra.bs.length m.ra.cap,.int .i64 m.ra.cM,.int .i64 m.f,.int .i64 m.t,.int .i64 m.size,.int .i64 m.cE]
structure Lg(w:dD)(m:RM):Prop where
 ra:Yp w m.ra
 pos:1<=m.size
 cE:m.cE<=m.size
 f:m.f+m.size<=m.ra.bs.length
 t:m.t+m.size<=m.ra.bs.length
theorem Lg.bQ{w w':dD}{m:RM}(h:Lg w m)(hc:Xc Xf w w'):Lg w' m:=⟨h.ra.bQ hc,h.pos,h.cE,h.f,h.t⟩
def Xas(m:RM)(w:dD)(bs:List Int)(st:Int)(g:Nat)(m':RM)(w':dD):Prop:=
 m'.ra.bs=bs/\m'.ra.cM=st/\m'.f=m.f/\m'.t=m.t/\m'.size=m.size/\m'.cE=g/\Yp w' m'.ra/\Xc Xf w w'/\(Oe w m'.ra\/m'.ra.a=m.ra.a)
theorem Xgr(r:RA)(i n:Int)(w:dD)(hl:r.bs.length<=4194304)(hn:1<=n):Xe prog 223 #[.agg (Hf r).toArray,W i,W n] w (Grow (.bool (G3 r.bs.length n i)) w):=by
 refine aR func223 ntmps223 Y (bC Y λb k e1 g a j=>aT Y (λc=>?_) λc=>?_)
 .have d:=bL c;refine bB g Y (aT Y (λf=>?_) λf=>?_)
  .have h:=bL f;exact bB g Y (aV Y (bE func223 Y ⟨Q5 (by unfold G3;rw[bN d,bN h];rfl),a⟩))
  .exact bE func223 Y ⟨Q5 (by unfold G3;rw[bO (bM f)];simp),a⟩
 .have d:=bM c;exact bE func223 Y ⟨Q5 (by unfold G3;rw[bO d];rfl),a⟩
theorem Xgs(m:RM)(i n:Nat)(w:dD)(h:Lg w m)(hst:Oh m.ra.cM)(hi:i+n<=m.size)(hn:0<n):Xe prog 224 #[.agg (Jd m).toArray,W i,W n] w
 (λv w'=>∃m',v=.agg (Jd m').toArray/\Xas m w (Ie m.ra.bs (m.t+i) (m.f+i) n) (m.ra.cM+n) m.cE m' w'):=by
 have Q:=h.ra.len;have hf:=h.f;have ht:=h.t;have e1:((m.t:Int)+i)=((m.t+i:Nat):Int):=X
 have e2:((m.f:Int)+i)=((m.f+i:Nat):Int):=X
 refine aR func224 ntmps224 Y (bC Y λmb R H s d I=>bC Y λqb F J t b K=>aS Y ?_);have a:=b.bP s;refine bB a Y (bB a Y (aV Y (bB a Y (aV Y ?_))));rw[e1,e2];refine aP Y (Xmg m.ra (m.t+i) (m.f+i) n F ((h.ra.bQ d).bQ b) hst (xH h.pos) X X) ?_;rintro _ S ⟨G,rfl,u,y,z,f,A⟩;refine aN Y (bC Y λnb T L B C M=>bF B Y λU p D N=>?_);have c:=C.sn D;have g:=c.bP (f.bP a);refine bB p Y (bF g Y λV q j O=>bB q Y ?_);have k:=j.heap (c.bP (f.bP t)) (show ¬_ by omega);refine bF k Y λw7 r o P=>?_;exact aK func224 r Y ⟨{m with ra:=G},rfl,u,y,rfl,rfl,rfl,rfl,(((z.bQ c).bV g (by simp[Y8,Jd]) j).bV k (by simp[Y8]) o),(((((d.trans b).trans f).trans c).sn j).sn o),.inl (A.dC (d.trans b).size)⟩
theorem XmK(m:RM)(i n:Int)(w:dD)(hn:n<1):Xe prog 224 #[.agg (Jd m).toArray,W i,W n] w (Grow (.agg (Jd m).toArray) w):=by
 exact aR func224 ntmps224 Y (bC Y λmb q h c d j=>bC Y λqb r k f a l=>bI Y (bB (a.bP c) Y (bF f Y λs b g o=>aK func224 b Y ⟨rfl,(d.trans a).sn g⟩)))
def Jo(bs:List Int)(f t g k:Nat):List Int:=if k=0 then bs else Ie bs (t+g) (f+g) k
theorem XmI(m:RM)(n:Int)(w:dD)(h:Lg w m)(hst:Oh m.ra.cM):Xe prog 153 #[.agg (Jd m).toArray,W n] w
 (λv w'=>∃m',v=.tuple #[.agg (Jd m').toArray,W (Dh n (m.size-m.cE))]/\Xas m w (Jo m.ra.bs m.f m.t m.cE (Dh n (m.size-m.cE))) (m.ra.cM+Dh n (m.size-m.cE)) (m.cE+Dh n (m.size-m.cE)) m' w'):=by
 have hl:=h.ra.len;have hg:=h.cE;have ht:=h.t;obtain⟨k,B⟩:∃k,k=Dh n (m.size-m.cE):=⟨_,rfl⟩;rw[<-B];unfold Dh at B;refine aR func153 ntmps153 Y (bC Y λmb w1 P C c Q=>bC Y λqb M R i b S=>?_);have a:=b.bP C;refine bB a Y (bB a Y (aV Y ?_));have D:(if ((m.size:Int)-m.cE)<n then ((m.size:Int)-m.cE) else n)<1/\k=0\/(if ((m.size:Int)-m.cE)<n then ((m.size:Int)-m.cE) else n)=(k:Int)/\1<=k:=by
  split <;> omega
 rcases D with⟨q,r⟩|⟨q,r⟩
 .subst r;refine bI Y (bB a Y (bF i Y λN u f s=>?_));exact aK func153 u Y ⟨m,rfl,by unfold Jo;rw[bK rfl],xS,rfl,rfl,rfl,xS,((h.ra.bQ (c.trans b)).bV i (by simp[Y8]) f),((c.trans b).sn f),.inr rfl⟩
 .rw[q];refine aS Y ?_;refine bB a Y (bB a Y (aP Y (Xgs m m.cE k M ((h.bQ c).bQ b) hst X X) ?_));rintro _ N ⟨O,rfl,E,f,F,G,s,T,H,d,I⟩;refine aN Y (bC Y λnb w4 U J K V=>bF J Y λw5 l L a0=>?_);have g:=K.sn L;refine bB (g.bP (d.bP a)) Y (aV Y ?_);rw[show((m.cE:Int)+k)=((m.cE+k:Nat):Int) from by omega];refine bF l Y λw6 z o a1=>bB z Y ?_;have p:=o.heap (g.bP (d.bP i)) (show ¬_ by have:=d.size;omega);refine bF p Y λw7 A t a2=>?_;exact aK func153 A Y ⟨{O with cE:=m.cE+k},rfl,by unfold Jo;rw[bJ X];exact E,f,F,G,s,rfl,(((H.bQ g).bV l (by simp[Y8,Jd]) o).bV p (by simp[Y8]) t),(((((c.trans b).trans d).trans g).bU o (λx y j=>xH d.size)).sn t),I.imp (λh=>h.dC (c.trans b).size) id⟩
def E1(bs:List Int)(f t g i n:Nat):List Int:=if Qv i n g=0 then bs else Ie bs (t+i) (f+i) (Qv i n g)
theorem XmJ(m:RM)(i n:Nat)(w:dD)(h:Lg w m)(hst:Oh m.ra.cM)(hi:i+n<=m.size):Xe prog 261 #[.agg (Jd m).toArray,W i,W n] w
 (λv w'=>∃m',v=.tuple #[.agg (Jd m').toArray,W 0]/\Xas m w (E1 m.ra.bs m.f m.t m.cE i n) (m.ra.cM+Qv i n m.cE) m.cE m' w'):=by
 have L:=h.ra.len;have M:=h.cE;have ht:=h.t;refine aR func261 ntmps261 Y (bC Y λmb N H o f I=>bC Y λqb p J l b K=>?_);have d:=b.bP o;refine aS Y (aS Y (bB d Y (aS Y (bB d Y (aV Y (aS Y (bB d Y (aV Y (bB d Y (aJ Y (by split <;> omega) ?_))))))))));by_cases k:Qv i n m.cE=0
 .refine bG (XmK m i _ p (by unfold Qv at k;split <;> omega)) Y λD c=>?_;have a:=c.bP l;refine bF a Y λE j g q=>?_;exact aK func261 j Y ⟨m,rfl,by unfold E1;rw[bK k],by rw[k];simp,rfl,rfl,rfl,rfl,((((h.ra.bQ f).bQ b).bQ c).bV a (by simp[Y8]) g),(((f.trans b).trans c).sn g),.inr rfl⟩
 .have e:(if (m.cE:Int)<(i:Int)+n then (m.cE:Int) else (i:Int)+n)-i=((Qv i n m.cE:Nat):Int):=by unfold Qv at k⊢;split <;> omega
  rw[e];refine aP Y (Xgs m i (Qv i n m.cE) p ((h.bQ f).bQ b) hst (by unfold Qv;omega) X) ?_;rintro _ D ⟨G,rfl,s,t,u,y,z,A,B,c,C⟩;have a:=c.bP l;refine aN Y (bF a Y λE j g q=>?_);exact aK func261 j Y ⟨G,rfl,by unfold E1;rw[bJ k];exact s,t,u,y,z,A,(B.bV a (by simp[Y8]) g),(((f.trans b).trans c).sn g),C.imp (λh=>h.dC (f.trans b).size) id⟩
theorem XmH(r:RA)(f t size:Nat)(w:dD)(h:Yp w r)(hm:Pi r.bs.length f t size=true):Xe prog 151 #[.agg (Hf r).toArray,W f,W t,W size] w
 (Grow (.tuple #[.agg (Jd ⟨r,f,t,size,0⟩).toArray,W 0]) w):=by
 have o:=h.len;have g:=Vf.1 hm;have p:G3 r.bs.length size f=true:=Ut.2 X;have q:G3 r.bs.length size t=true:=Ut.2 X;refine aR func151 ntmps151 Y (bC Y λrb G e1 s n E=>bC Y λqb A e2 u d F=>?_);have i:=d.bP s;refine aS Y (bB i Y (bG (Xgr r f size A o X) Y λB b=>aI Y (by rw[p];rfl) ?_));have j:=b.bP i;refine bB j Y (bG (Xgr r t size B o X) Y λH c=>aI Y (by rw[q];rfl) (aV Y ?_));have k:=c.bP j;have l:=c.bP (b.bP u);refine aT Y (λv=>?_) λv=>?_
 .have I:=bL v;refine aV Y (aS Y (bB k Y (aO Y (bF l Y λC a m y=>?_))));exact aK func151 a Y ⟨rfl,((((n.trans d).trans b).trans c).sn m)⟩
 .refine bB k Y (aO Y (bF l Y λC a m y=>?_));exact aK func151 a Y ⟨rfl,((((n.trans d).trans b).trans c).sn m)⟩
theorem XcM{f size:Nat}(hk:g+k<=size)(hf:f+size<=bs.length)(ht:t+size<=bs.length):(Jo bs f t g k).length=bs.length:=by
 unfold Jo;split
 .rfl
 .exact Rw X X
structure ThM where
 size:Int
 q:PlcM
structure MvM where
 who:Int
 pf:Int
 fa:Int
 pt:Int
 ta:Int
 f:Nat
 t:Nat
 size:Nat
 cE:Nat
structure StM where
 bV:List Int
 bs:List Int
 rm:RmM
 th:List (Option ThM)
 mv:List (Option MvM)
def PlcM.cQ(q:PlcM):Plc:=⟨q.cL,q.cR,q.idx,none,0,q.bS⟩
theorem Xif(c:Conf)(q:Plc):Ym c q=Ym c (Xz q).cQ:=by cases q;rfl
theorem Xie(c:Conf)(q:Plc):Zt c q=Zt c (Xz q).cQ:=by cases q;rfl
theorem Xa3(c:Conf)(q:Plc)(i n:Int):Qy c q i n=Qy c (Xz q).cQ i n:=by cases q;rfl
theorem Xo3(c:Conf)(q:Plc)(i:Nat):B5 c q i=B5 c (Xz q).cQ i:=by cases q;rfl
theorem Xc7(c:Conf)(q:Plc)(bs:List Int)(i n:Nat):Yh c q bs i n=Yh c (Xz q).cQ bs i n:=by cases q;rfl
theorem Ni(c:Conf)(q:Plc)(bs:List Int)(i:Nat)(l:List Int):∀k,Ac c q bs i l k=Ac c (Xz q).cQ bs i l k
 |0=>rfl
 |k+1=>by unfold Ac;rw[Ni c q bs i l k,Xo3]
theorem Jx(c:Conf)(q:Plc)(i n:Nat):Zb c q i n=Zb c (Xz q).cQ i n:=by cases q;rfl
def Xx(s:StM)(k:Int):Option MvM:=if 0<=k then s.mv.getD k.toNat none else none
def B3(s:StM)(o:Int):Option ThM:=if 0<=o then s.th.getD o.toNat none else none
def Ht(cG bV:Int):Bool:=decide (bV<cG) && decide (bV+1<cG)
def Hr(c:Conf)(k cR idx:Int):Int:=Aj c ⟨k,cR,idx,none,0,[]⟩
def Y3(s:StM)(n:Int):StM:={s with rm:={s.rm with tot:=Xu s.rm.tot n}}
def Kz(c:Conf)(M:RmM)(k:Nat):MvM:=⟨Zi M k (Yu M k).1 (Yu M k).2.1,(Yu M k).1,(Yu M k).2.1,(Yu M k).2.2.1,(Yu M k).2.2.2,(Hr c k (Yu M k).1 (Yu M k).2.1).toNat,(Hr c k (Yu M k).2.2.1 (Yu M k).2.2.2).toNat,(Zn c k).toNat,0⟩
def Bn(s:StM)(k:Nat):Bool:=(Xx s k).isNone && Ht (Qm s.rm k:Nat) (s.bV.getD k 0) && Iw s.rm k
def Yj(c:Conf)(s:StM)(k:Nat):StM:=if Bn s k=true then {s with rm:=Qe s.rm k (Zi s.rm k (Yu s.rm k).1 (Yu s.rm k).2.1),mv:=s.mv.set k (some (Kz c s.rm k))} else s
def Zm(m:MvM)(n:Int):Nat:=Dh n (m.size-m.cE)
def Q2(s:StM)(o:Int):Int:=match B3 s o with|some t=>t.size|none=>0
def Q3(s:StM)(m:MvM)(n:Int):StM:=Y3 {s with bs:=Jo s.bs m.f m.t m.cE (Zm m n)} (Zm m n)
def Yg(s:StM)(k:Nat)(n:Int):StM:=match Xx s k with
 |none=>s
 |some m=>if m.cE+Zm m n<m.size then {Q3 s m n with mv:=s.mv.set k (some {m with cE:=m.cE+Zm m n})}
  else {Q3 s m n with mv:=s.mv.set k none,th:=s.th.set m.who.toNat (some ⟨Q2 s m.who,⟨k,m.pt,m.ta,[]⟩⟩),rm:=Qw (Q3 s m n).rm k m.pf m.fa}
def X8(s:StM)(k:Int):StM:=match Xx s k with|none=>s|some m=>Yg s k.toNat m.size
def Di(c:Conf)(s:StM)(size:Int):Option MvM:=match Xx s (Xl c.bT size) with
 |some m=>if Qm s.rm (Xl c.bT size)=0 then some m else none
 |none=>none
def Zp(c:Conf)(s:StM)(who size:Int):PlcM:=match Di c s size with
 |some m=>⟨Xl c.bT size,m.pt,m.ta,[]⟩
 |none=>Bz c s.rm who size
def Yb(c:Conf)(s:StM)(who size:Int):StM:=match Di c s size with
 |some m=>Y3 {s with mv:=s.mv.set (Xl c.bT size).toNat none,rm:=Qq s.rm (Xl c.bT size) m.pt m.ta who} 3
 |none=>{s with rm:=Ai c s.rm who size}
def Yk(c:Conf)(s:StM)(q:PlcM)(at':Nat)(l:List Int):StM:=Y3 {s with bs:=Ac c q.cQ s.bs at' l l.length} (Zb c q.cQ at' l.length)
def Qs(c:Conf)(s:StM)(who size:Int):StM:=
 {Yk c (Yb c s who size) (Zp c s who size) 0 (X7 (Zt c (Zp c s who size).cQ).toNat) with th:=s.th.set who.toNat (some ⟨size,Zp c s who size⟩)}
def Ax(c:Conf)(s:StM)(q:PlcM):StM:=
 if q.cL<0 then {s with rm:=Yo s.rm q} else
  Yg (Yj c {s with rm:=Yo s.rm q} q.cL.toNat) q.cL.toNat c.step
def Z9(s:StM)(o:Int):Int:=if o<0\/(s.th.length:Int)<=o then 1 else match B3 s o with|none=>9|some _=>0
def Ys(c:Conf)(s:StM)(size:Int):Int:=if size<1\/c.cH<size then 3 else if (Xx s (Xl c.bT size)).isSome then 0 else Ql c s.rm size
def Cm(c:Conf)(s:StM)(o size:Int):Int:=if Z9 s o=1 then 1 else if Z9 s o=0 then 10 else Ys c s size
def Q1(c:Conf)(s:StM)(o size:Int):StM:=if Cm c s o size=0 then Qs c s o size else s
def Yy(s:StM)(o:Int):PlcM:=match B3 s o with|some t=>t.q|none=>⟨0,0,0,[]⟩
def Aq(c:Conf)(s:StM)(o:Int):StM:=if Z9 s o≠0 then s else
 Ax c {X8 s (Yy s o).cL with th:=(X8 s (Yy s o).cL).th.set o.toNat none} (Yy (X8 s (Yy s o).cL) o)
def Ay(c:Conf)(old size:Int):Bool:=decide (Xl c.bT old=Xl c.bT size) && (decide (Xl c.bT old≠-1)||decide (Zj old c.size=Zj size c.size))
def Af(s:StM)(o:Int)(at' n:Nat):StM:=match Xx s (Yy s o).cL with
 |some m=>if m.who=o then Y3 {s with bs:=E1 s.bs m.f m.t m.cE at' n} (Qv at' n m.cE) else s
 |none=>s
def A2(c:Conf)(s:StM)(o size:Int):Int:=if Z9 s o≠0 then Z9 s o else if size<1\/c.cH<size then 3 else if Ay c (Q2 s o) size=true then 0 else Ys c s size
def D3(s:StM)(o:Int)(t:ThM):StM:={s with th:=s.th.set o.toNat (some t)}
def Jn(c:Conf)(s:StM)(o size:Int):StM:=
 let s1:=X8 s (Yy s o).cL
 let m:=(min (Q2 s o) size).toNat
 let s2:=Qs c (Y3 s1 (Zb c (Yy s1 o).cQ 0 m)) o size
 Ax c (Yk c s2 (Yy s2 o) 0 (Yh c (Yy s1 o).cQ s1.bs 0 m)) (Yy s1 o)
def Q7(c:Conf)(s:StM)(o size:Int):StM:=
 if A2 c s o size≠0 then s
 else if Ay c (Q2 s o) size=true then
  (if size<Q2 s o then Af (D3 (Yk c s (Yy s o) size.toNat (X7 (Q2 s o-size).toNat)) o ⟨size,Yy s o⟩) o size.toNat (Q2 s o-size).toNat
   else D3 s o ⟨size,Yy s o⟩)
 else Jn c s o size
def Qt(s:StM)(o at' n:Int):Int:=if Z9 s o≠0 then Z9 s o else if at'<0\/n<0\/Q2 s o<n\/Q2 s o-n<at' then 8 else 0
def Cn(c:Conf)(s:StM)(o at' n:Int):List Int:=if Qt s o at' n=0 then Yh c (Yy s o).cQ s.bs at'.toNat n.toNat else []
def Cc(c:Conf)(s:StM)(o at' n:Int):StM:=if Qt s o at' n=0 then Y3 s (Zb c (Yy s o).cQ at'.toNat n.toNat) else s
def Cx(c:Conf)(s:StM)(o at':Int)(l:List Int):StM:=if Qt s o at' l.length=0 then Af (Yk c s (Yy s o) at'.toNat l) o at'.toNat l.length else s
def tickK(c:Conf)(x:StM×Int)(k:Nat):StM×Int:=
 if x.2<1 then x else match Xx (Yj c x.1 k) k with
  |none=>(Yj c x.1 k,x.2)
  |some m=>(Yg (Yj c x.1 k) k x.2,x.2-Zm m x.2)
def tickTo(c:Conf)(s:StM)(n:Nat):StM×Int:=(List.range n).foldl (tickK c) (s,c.step)
def D4(c:Conf)(s:StM):StM:=(tickTo c s s.mv.length).1
def Cd(s:StM)(k bV:Int):Int:=if k<0\/(s.mv.length:Int)<=k\/bV<0\/1024<bV then 1 else 0
def Cw(s:StM)(k bV:Int):StM:=if Cd s k bV=0 then {s with bV:=s.bV.set k.toNat bV} else s
def Xad(l:List (Option ThM)):List Int:=l.filterMap λt=>t.map (·.size)
def Zy(s:StM):Int:=(Xad s.th).sum
def Es(c:Conf):StM:=⟨c.bV,X7 (c.size*c.bS).toNat,Io c 0,List.replicate c.cN.toNat none,List.replicate c.bT.length none⟩
structure StM.OkP(c:Conf)(s:StM)(pd:Option (Nat×PlcM)):Prop where
 may:Xy c=true
 rm:Y1 c s.rm
 kl:s.bV.length=c.bT.length
 kr:∀x∈s.bV,0<=x/\x<=1024
 bl:(s.bs.length:Int)=c.size*c.bS
 bi:Qo s.bs
 tl:(s.th.length:Int)=c.cN
 ml:s.mv.length=c.bT.length
 size:∀(o:Nat) t,s.th[o]?=some (some t)->1<=t.size/\t.size<=c.cH
 small:∀(o:Nat) t,s.th[o]?=some (some t)->Xl c.bT t.size≠-1->t.q.cL=Xl c.bT t.size/\t.q.bS=[]/\Zi s.rm t.q.cL t.q.cR t.q.idx=o
 large:∀(o:Nat) t,s.th[o]?=some (some t)->Xl c.bT t.size=-1 -> ∃n r,(n,r)∈s.rm.lg/\t.q=⟨-1,(n:Nat),0,X3 r⟩/\(r.length+1:Int)=Zl t.size c.size
 linj:∀(o o':Nat) t t',s.th[o]?=some (some t)->s.th[o']?=some (some t')->t.q.cL=-1->t'.q.cL=-1->t.q.cR=t'.q.cR->o=o'
 mv:∀(k:Nat) m,s.mv[k]?=some (some m)->(∃(o:Nat),∃t,m.who=o/\s.th[o]?=some (some t)/\t.q=⟨(k:Nat),m.pf,m.fa,[]⟩)/\Zi s.rm k m.pt m.ta=m.who/\¬(m.pf=m.pt/\m.fa=m.ta)/\(m.f:Int)=Hr c k m.pf m.fa/\(m.t:Int)=Hr c k m.pt m.ta/\(m.size:Int)=Zn c k/\m.cE<m.size
 own:∀k n a:Int,Zi s.rm k n a≠-1->(∃(o:Nat),∃t,Zi s.rm k n a=o/\s.th[o]?=some (some t)/\(t.q=⟨k,n,a,[]⟩\/∃m,Xx s k=some m/\m.pt=n/\m.ta=a))\/∃o,pd=some (o,⟨k,n,a,[]⟩)
 ps:∀o q,pd=some (o,q)->q.cL≠-1->q.bS=[]/\Zi s.rm q.cL q.cR q.idx=o/\(∀m,Xx s q.cL=some m -> ¬(m.pt=q.cR/\m.ta=q.idx))/\∀(o':Nat) t,s.th[o']?=some (some t)->t.q≠q
 pl:∀o q,pd=some (o,q)->q.cL=-1 -> ∃n r,(n,r)∈s.rm.lg/\q=⟨-1,(n:Nat),0,X3 r⟩/\∀(o':Nat) t,s.th[o']?=some (some t)->t.q.cL=-1->t.q.cR≠(n:Nat)
abbrev StM.Ok(c:Conf)(s:StM):Prop:=s.OkP c none
variable {th:List (Option ThM)}{s s':StM}
section
variable {c:Conf}{s:StM}{pd:Option (Nat×PlcM)}
theorem Ao{k:Int}{m:MvM}(h:Xx s k=some m):∃j:Nat,k=j/\j<s.mv.length/\s.mv[j]?=some (some m):=by
 unfold Xx at h;split at h
 .rename_i b
  obtain⟨j,rfl⟩:=XE b;rw[XA,XB] at h;cases a:s.mv[j]? with
  |none=>rw[a] at h;cases h
  |some x=>
   rw[a] at h;have:x=some m:=h;subst this;exact⟨j,rfl,(XC.1 a).1,a⟩
 .cases h
theorem Dy{m:MvM}(h:s.mv[j]?=some (some m)):Xx s (j:Nat)=some m:=by
 unfold Xx;rw[bK X,XA,XB,h];rfl
theorem Xc4{o:Int}{t:ThM}(h:B3 s o=some t):∃j:Nat,o=j/\j<s.th.length/\s.th[j]?=some (some t):=by
 unfold B3 at h;split at h
 .rename_i b
  obtain⟨j,rfl⟩:=XE b;rw[XA,XB] at h;cases a:s.th[j]? with
  |none=>rw[a] at h;cases h
  |some x=>
   rw[a] at h;have:x=some t:=h;subst this;exact⟨j,rfl,(XC.1 a).1,a⟩
 .cases h
theorem Hk{t:ThM}(h:s.th[j]?=some (some t)):B3 s (j:Nat)=some t:=by
 unfold B3;rw[bK X,XA,XB,h];rfl
theorem Kd{l:List (Option α)}{v:Option α}{x:α}(h:(l.set k v)[j]?=some (some x)):(j=k/\v=some x/\k<l.length)\/(j≠k/\l[j]?=some (some x)):=by
 by_cases e:k=j
 .subst e;by_cases a:k<l.length
  .rw[XH a] at h;exact .inl ⟨rfl,Option.some.inj h,a⟩
  .rw[ZF (by rw[XG];omega)] at h;cases h
 .rw[XK e] at h;exact .inr ⟨λh=>e h.symm,h⟩
theorem Xli{v:Option MvM}{j:Int}{m:MvM}(hs:s'.mv=s.mv.set k v)(h:Xx s' j=some m):(j=k/\v=some m)\/(j≠k/\Xx s j=some m):=by
 obtain⟨i,rfl,_,hi⟩:=Ao h;rw[hs] at hi;rcases Kd hi with⟨rfl,e,_⟩|⟨a,hi⟩
 .exact .inl ⟨rfl,e⟩
 .exact .inr ⟨X,Dy hi⟩
theorem Vh{v:Option MvM}{j:Int}{m:MvM}(hs:s'.mv=s.mv.set k v)(hj:j≠k)(h:Xx s j=some m):Xx s' j=some m:=by
 obtain⟨i,rfl,_,hi⟩:=Ao h;refine Dy ?_;rw[hs,XK X];exact hi
theorem Xd4(h:Xy c=true){k n a:Int}(hk:0<=k/\k<c.bT.length)(hn:0<=n/\n<c.bS)(ha:0<=a/\a<A8 c k):Ym c ⟨k,n,a,none,0,[]⟩=true:=by
 unfold Ym;rw[bJ xP];simp only[XI,Nb];exact⟨⟨hk,hn⟩,ha⟩
theorem Pm(h:s.OkP c pd){k n a:Int}(ho:Zi s.rm k n a≠-1):Ym c ⟨k,n,a,none,0,[]⟩=true/\0<=k/\k<c.bT.length:=by
 obtain⟨j,x,rfl,i,_,_,b,d,f,g⟩:=V5 h.rm ho;exact⟨Xd4 h.may X ⟨b,d⟩ ⟨f,g⟩,X,X⟩
theorem T9(h:Xy c=true){k n a:Int}(hv:Ym c ⟨k,n,a,none,0,[]⟩=true)(hk:k≠-1):0<=Hr c k n a/\Hr c k n a+Zn c k<=c.size*c.bS/\8<=Zn c k/\Zn c k<=c.size:=by
 obtain⟨j,pg,ix,e1,e2,e3,b,d,f,g,i,l,m,o⟩:=Ik h hv hk;unfold Hr Aj;rw[bK ⟨hv,hk⟩];simp only at e1 e2 e3
 subst e1;subst e2;subst e3;simp only
 omega
theorem StM.OkP.bytes(h:s.OkP c pd)(hl:bs.length=s.bs.length)(hb:Qo bs)(n:Int):(Y3 {s with bs:=bs} n).OkP c pd:=
 ⟨h.may,h.rm.cT n,h.kl,h.kr,by show(bs.length:Int)=_;rw[hl];exact h.bl,hb,h.tl,h.ml,h.size,h.small,h.large,h.linj,h.mv,h.own,h.ps,h.pl⟩
theorem StM.OkP.tot(h:s.OkP c pd)(n:Int):(Y3 s n).OkP c pd:=h.bytes (bs:=s.bs) rfl h.bi n
theorem Rv(h:s.OkP c pd){t:ThM}(ht:s.th[o]?=some (some t))(hc:t.q.cL≠-1):Xl c.bT t.size≠-1:=λe=>by
 obtain⟨n,r,_,e2,_⟩:=h.large o t ht e;rw[e2] at hc;exact hc rfl
theorem Xcz(M:RmM)(k who:Int):(Qe M k who).lg=M.lg:=by unfold Qe;split;rfl;split <;> rfl
theorem Xcv(M:RmM)(k n i:Int):(Qw M k n i).lg=M.lg:=by unfold Qw;split;rfl;split <;> rfl
theorem XgU(M:RmM)(k n i who:Int):(Qq M k n i who).lg=M.lg:=by unfold Qq;split <;> rfl
structure XiC(c:Conf)(s:StM)(k:Nat):Prop where
 plan:XdF s.rm k
 kl:k<c.bT.length
 nomv:Xx s (k:Nat)=none
 who:∃(o:Nat),∃t,Zi s.rm k (Yu s.rm k).1 (Yu s.rm k).2.1=o/\s.th[o]?=some (some t)/\t.q=⟨(k:Nat),(Yu s.rm k).1,(Yu s.rm k).2.1,[]⟩
 f:Ym c ⟨(k:Nat),(Yu s.rm k).1,(Yu s.rm k).2.1,none,0,[]⟩=true
 t:Ym c ⟨(k:Nat),(Yu s.rm k).2.2.1,(Yu s.rm k).2.2.2,none,0,[]⟩=true
theorem XaP(h:s.Ok c)(hB:Bn s k=true):XiC c s k:=by
 unfold Bn at hB;simp only[XI] at hB;obtain⟨⟨r,A⟩,u⟩:=hB;have P:=XlQ h.rm u;have l:Xx s (k:Nat)=Option.none:=xU r
 obtain⟨f1,f2,f3⟩:=Pm h P.own;have d:∃(o:Nat),∃t,Zi s.rm k (Yu s.rm k).1 (Yu s.rm k).2.1=o/\s.th[o]?=some (some t)/\t.q=⟨(k:Nat),(Yu s.rm k).1,(Yu s.rm k).2.1,[]⟩:=by
  rcases h.own _ _ _ P.own with⟨o,t,f,i,b|⟨m,b,_⟩⟩|⟨o,g⟩
  .exact⟨o,t,f,i,b⟩
  .rw[l] at b;cases b
  .cases g
 obtain⟨o,t,f,i,b⟩:=d;refine⟨P,X,l,⟨o,t,f,i,b⟩,f1,?_⟩;obtain⟨p,B⟩:=XcZ h.rm (P.e (o:Int) X);rw[P.n _ X,P.a _ X] at p;have q:=p k (Yu s.rm k).2.2.1 (Yu s.rm k).2.2.2;rw[bK ⟨rfl,rfl,rfl⟩] at q;obtain⟨j,x,e,C,_,_,v,w,y,z⟩:=V5 (h.rm.take k (o:Int)) (k:=k) (n:=(Yu s.rm k).2.2.1) (a:=(Yu s.rm k).2.2.2) (by rw[q];omega);exact Xd4 h.may X ⟨v,w⟩ ⟨y,z⟩
theorem StM.OkP.begin(h:s.Ok c)(k:Nat):(Yj c s k).Ok c:=by
 unfold Yj;by_cases v:Bn s k=true
 .rw[bK v];obtain⟨P,F,G,⟨o,t,w,A,H⟩,hf,ht⟩:=XaP h v;rw[w];obtain⟨i,B⟩:=XcZ h.rm (P.e (o:Int) X);rw[P.n _ X,P.a _ X] at i B;obtain⟨pf,fa,pt,ta⟩:True/\True/\True/\True:=⟨trivial,trivial,trivial,trivial⟩;have C:∀(s':StM),s'.mv=s.mv.set k (some (Kz c s.rm k)) -> ∀j m,Xx s j=some m->Xx s' j=some m:=λs' I j m b=>Vh I (λe=>by rw[e,G] at b;cases b) b;have bV:∀{j n a:Int},Zi s.rm j n a≠-1->Zi (Qe s.rm k o) j n a=Zi s.rm j n a:=λu=>by
   rw[i,bJ];rintro⟨rfl,rfl,rfl⟩;exact u B
  refine⟨h.may,h.rm.take _ _,h.kl,h.kr,h.bl,h.bi,h.tl,by show(s.mv.set _ _).length=_;rw[XG];exact h.ml,h.size,λd f x y=>?_,λd f x y=>?_,h.linj,λj m b=>?_,λj n a b=>.inl ?_,(by rintro _ _ ⟨⟩),(by rintro _ _ ⟨⟩)⟩
  .obtain⟨l,p,q⟩:=h.small d f x y;exact⟨l,p,(bV (by rw[q];omega)).trans q⟩
  .show ∃n r,(n,r)∈(Qe s.rm k o).lg/\_
   rw[Xcz];exact h.large d f x y
  .rcases Kd b with⟨rfl,e,_⟩|⟨u,b⟩
   .have em:=Option.some.inj e;subst em;obtain⟨J,O,Q,R⟩:=T9 h.may hf X;obtain⟨K,S,_,_⟩:=T9 h.may ht X;refine⟨⟨o,t,w,A,H⟩,?_,λe=>P.ne e.1,?_,?_,?_,?_⟩
    .show Zi (Qe s.rm j o) j _ _=Zi s.rm j _ _
     rw[w,i,bK ⟨rfl,rfl,rfl⟩]
    .show(((Hr c j _ _).toNat:Nat):Int)=_
     exact YT J
    .show(((Hr c j _ _).toNat:Nat):Int)=_
     exact YT K
    .show(((Zn c j).toNat:Nat):Int)=_
     exact YT X
    .show 0<(Zn c j).toNat
     omega
   .obtain⟨l,p,q⟩:=h.mv j m b;have L:=l;obtain⟨d,f,M,_⟩:=l;exact⟨L,(bV (by rw[p,M];omega)).trans p,q⟩
  .by_cases e:j=k/\n=(Yu s.rm k).2.2.1/\a=(Yu s.rm k).2.2.2
   .obtain⟨rfl,rfl,rfl⟩:=e;refine⟨o,t,?_,A,.inr ⟨Kz c s.rm k,?_,rfl,rfl⟩⟩
    .show Zi (Qe s.rm k o) k _ _=_
     rw[i,bK ⟨rfl,rfl,rfl⟩]
    .refine Dy ?_;show(s.mv.set k _)[k]?=_
     rw[XH (by rw[h.ml];exact F)]
   .have e1:Zi (Qe s.rm k o) j n a=Zi s.rm j n a:=by rw[i,bJ e]
    rw[e1] at b;show ∃(d:Nat),∃t,Zi (Qe s.rm k o) j n a=d/\_
    rw[e1];rcases h.own j n a b with⟨d,f,D,E,z|⟨m,z,N⟩⟩|⟨_,g⟩
    .exact⟨d,f,D,E,.inl z⟩
    .exact⟨d,f,D,E,.inr ⟨m,C _ rfl j m z,N⟩⟩
    .cases g
 .rw[bJ v];exact h
theorem Ky(h:s.OkP c pd){m:MvM}(hm:s.mv[k]?=some (some m)):m.f+m.size<=s.bs.length/\m.t+m.size<=s.bs.length/\0<m.size/\(m.f+m.size<=m.t\/m.t+m.size<=m.f):=by
 obtain⟨⟨o,t,e1,e2,e3⟩,y,z,D,E,F,G⟩:=h.mv k m hm;have H:k<c.bT.length:=xI (XC.1 hm).1 h.ml
 have p:=h.small o t e2 (Rv h e2 (by rw[e3];simp only;omega));rw[e3] at p;have d:=(Pm h (k:=(k:Nat)) (n:=m.pf) (a:=m.fa) (by rw[p.2.2];omega)).1;have f:=(Pm h (k:=(k:Nat)) (n:=m.pt) (a:=m.ta) (by rw[y,e1];omega)).1;have I:=T9 h.may d X;have J:=T9 h.may f X;have C:=h.bl;refine⟨X,X,X,?_⟩;obtain⟨A,g,i,B,r,u,K,L,M,N,O,P,Q,R⟩:=Ik h.may d xP;obtain⟨b,j,l,f1,f2,f3,S,T,U,V,g5,g6,g7,g8⟩:=Ik h.may f xP;simp only at B r u f1 f2 f3
 have v:A=k:=X
 have w:b=k:=X
 subst v;subst w;have x1:Hr c (b:Nat) m.pf m.fa=(g:Int)*c.size+(i:Int)*Zn c (b:Nat):=by unfold Hr Aj;rw[bK ⟨d,xP⟩];simp only;rw[r,u]
 have x2:Hr c (b:Nat) m.pt m.ta=(j:Int)*c.size+(l:Int)*Zn c (b:Nat):=by unfold Hr Aj;rw[bK ⟨f,xP⟩];simp only;rw[f2,f3]
 have q:0<=c.size:=xH (Ea h.may).1
 rcases Nat.lt_trichotomy g j with x|heq|hgt
 .have:((g:Int)+1)*c.size<=j*c.size:=XZ X q;rw[QG,QO] at this;omega
 .subst heq;rcases Nat.lt_trichotomy i l with x|heq|hgt
  .have:((i:Int)+1)*Zn c (b:Nat)<=l*Zn c (b:Nat):=XZ X X;rw[QG,QO] at this;omega
  .exact absurd ⟨X,X⟩ z
  .have:((l:Int)+1)*Zn c (b:Nat)<=i*Zn c (b:Nat):=XZ X X;rw[QG,QO] at this;omega
 .have:((j:Int)+1)*c.size<=g*c.size:=XZ X q;rw[QG,QO] at this;omega
theorem Xer{f:Nat}(h:Qo bs):Qo (Ie bs t f n):=λx hx=>by
 rcases N9 hx with hx|hx
 .exact h x hx
 .unfold sub at hx;exact h x (ZR (ZB hx))
theorem Uq(m:MvM)(n:Int):Zm m n<=m.size-m.cE:=by unfold Zm Dh;omega
theorem StM.OkP.step(h:s.OkP c pd){m:MvM}(hm:s.mv[k]?=some (some m))(n:Int):(Q3 s m n).OkP c pd:=by
 obtain⟨a,b,f,_⟩:=Ky h hm;have g:=Uq m n;have d:=(h.mv k m hm).2.2.2.2.2.2;refine h.bytes ?_ ?_ _
 .exact XcM (size:=m.size) X a b
 .unfold Jo;split
  .exact h.bi
  .exact Xer h.bi
theorem StM.OkP.go(h:s.Ok c)(k:Nat)(n:Int):(Yg s k n).Ok c:=by
 unfold Yg;cases M:Xx s (k:Nat) with
 |none=>exact h
 |some m=>
  obtain⟨j,ej,p,hm⟩:=Ao M;obtain rfl:k=j:=X
  have C:=StM.OkP.step h hm n;obtain⟨⟨o,t,e1,e2,e3⟩,N,P,a4,a5,a6,a7⟩:=h.mv k m hm;simp only
  by_cases I:m.cE+Zm m n<m.size
  .rw[bK I];have Q:∀j m',Xx s j=some m' -> ∃J,Xx {Q3 s m n with mv:=s.mv.set k (some {m with cE:=m.cE+Zm m n})} j=some J/\J.pt=m'.pt/\J.ta=m'.ta:=λj m' p=>by
    by_cases e:j=k
    .subst e;rw[M] at p;cases p
     refine⟨{m with cE:=m.cE+Zm m n},Dy ?_,rfl,rfl⟩;show(s.mv.set k _)[k]?=_
     rw[XH p]
    .exact⟨m',Vh (s:=s) rfl e p,rfl,rfl⟩
   refine⟨h.may,C.rm,h.kl,h.kr,C.bl,C.bi,h.tl,by show(s.mv.set _ _).length=_;rw[XG];exact h.ml,h.size,h.small,h.large,h.linj,λj m' p=>?_,λj n' a p=>?_,(by rintro _ _ ⟨⟩),(by rintro _ _ ⟨⟩)⟩
   .rcases Kd p with⟨rfl,e,_⟩|⟨u,p⟩
    .have em:=Option.some.inj e;subst em;exact⟨⟨o,t,e1,e2,e3⟩,N,P,a4,a5,a6,I⟩
    .exact h.mv j m' p
   .rcases h.own j n' a p with⟨f,l,z,D,v|⟨m',v,E,F⟩⟩|⟨_,g⟩
    .exact .inl ⟨f,l,z,D,.inl v⟩
    .obtain⟨J,y,w,x⟩:=Q j m' v;exact .inl ⟨f,l,z,D,.inr ⟨J,y,w.trans E,x.trans F⟩⟩
    .cases g
  .rw[bJ I];have L:=Rv h e2 (by rw[e3];simp only;omega);obtain⟨O,s2,K⟩:=h.small o t e2 L;rw[e3] at O K;simp only at O K
   have R:∀j n' a,Zi (Q3 s m n).rm j n' a=Zi s.rm j n' a:=λ_ _ _=>rfl;obtain⟨G1,S⟩:=XeV C.rm (k:=(k:Nat)) (n:=m.pf) (i:=m.fa) (by rw[R,K];omega);have bV:∀{j n' a:Int},¬(j=k/\n'=m.pf/\a=m.fa)->Zi (Qw (Q3 s m n).rm k m.pf m.fa) j n' a=Zi s.rm j n' a:=λu=>by rw[S,bJ u];rfl
   have T:m.who.toNat=o:=X
   have U:Q2 s m.who=t.size:=by unfold Q2;rw[e1,Hk e2]
   rw[T,U];have A3:∀{f:Nat} {l:ThM},(s.th.set o (some ⟨t.size,⟨(k:Nat),m.pt,m.ta,[]⟩⟩))[f]?=some (some l)->(f=o/\l=⟨t.size,⟨(k:Nat),m.pt,m.ta,[]⟩⟩)\/(f≠o/\s.th[f]?=some (some l)):=λh=>by
    rcases Kd h with⟨a,b,_⟩|hb
    .exact .inl ⟨a,(Option.some.inj b).symm⟩
    .exact .inr hb
   have E0:∀{f:Nat} {l:ThM},f≠o->s.th[f]?=some (some l)->(s.th.set o (some ⟨t.size,⟨(k:Nat),m.pt,m.ta,[]⟩⟩))[f]?=some (some l):=λu h=>by rw[XK (Ne.symm u)];exact h
   have tnew:(s.th.set o (some ⟨t.size,⟨(k:Nat),m.pt,m.ta,[]⟩⟩))[o]?=some (some ⟨t.size,⟨(k:Nat),m.pt,m.ta,[]⟩⟩):=by rw[XH ((XC.1 e2).1)]
   refine⟨h.may,C.rm.give _ _ _,h.kl,h.kr,C.bl,C.bi,by show((s.th.set _ _).length:Int)=_;rw[XG];exact h.tl,by show(s.mv.set _ _).length=_;rw[XG];exact h.ml,λf l q=>?_,λf l q A=>?_,λf l q A=>?_,λf G l V q A c1 H hp=>?_,λj m' p=>?_,λj n' a p=>.inl ?_,(by rintro _ _ ⟨⟩),(by rintro _ _ ⟨⟩)⟩
   .rcases A3 q with⟨rfl,rfl⟩|⟨_,q⟩
    .exact h.size f t e2
    .exact h.size f l q
   .rcases A3 q with⟨rfl,rfl⟩|⟨u,q⟩
    .refine⟨O,rfl,?_⟩;refine(bV ?_).trans (N.trans e1);rintro⟨_,y,w⟩;exact P ⟨y.symm,w.symm⟩
    .obtain⟨y,w,x⟩:=h.small f l q A;refine⟨y,w,(bV ?_).trans x⟩;rintro⟨d1,d2,d3⟩;rw[d1,d2,d3,K] at x;omega
   .show ∃n' r,(n',r)∈(Qw (Q3 s m n).rm k m.pf m.fa).lg/\_
    rw[Xcv];rcases A3 q with⟨rfl,rfl⟩|⟨_,q⟩
    .exact absurd A L
    .exact h.large f l q A
   .rcases A3 q with⟨rfl,rfl⟩|⟨_,q⟩
    .exact absurd c1 xP
    .rcases A3 A with⟨rfl,rfl⟩|⟨_,A⟩
     .exact absurd H xP
     .exact h.linj f G l V q A c1 H hp
   .rcases Kd p with⟨_,e,_⟩|⟨u,p⟩
    .cases e
    .obtain⟨⟨f,l,y,w,x⟩,H,c3⟩:=h.mv j m' p;have B:f≠o:=λe=>by
      subst e;rw[e2] at w;cases w
      rw[e3] at x;have:=congrArg PlcM.cL x;simp only at this
      omega
     refine⟨⟨f,l,y,E0 B w,x⟩,(bV ?_).trans H,c3⟩;rintro⟨d,_⟩;omega
   .replace p:Zi (Qw (Q3 s m n).rm k m.pf m.fa) j n' a≠-1:=p;have u:¬(j=k/\n'=m.pf/\a=m.fa):=λe=>by rw[S,bK e] at p;exact p rfl
    show ∃(f:Nat),∃l,Zi (Qw (Q3 s m n).rm k m.pf m.fa) j n' a=f/\_
    rw[bV u] at p⊢;rcases h.own j n' a p with⟨f,l,z,D,v|⟨m',v,E,F⟩⟩|⟨_,g⟩
    .have B:f≠o:=λe=>by
      subst e;rw[e2] at D;cases D
      rw[e3] at v;exact u ⟨(congrArg PlcM.cL v).symm,(congrArg PlcM.cR v).symm,(congrArg PlcM.idx v).symm⟩
     exact⟨f,l,z,E0 B D,.inl v⟩
    .by_cases ek:j=k
     .subst ek;rw[M] at v;cases v
      have:(f:Int)=o:=by rw[<-z,<-E,<-F,N,e1]
      obtain rfl:f=o:=X
      exact⟨f,_,z,tnew,.inl (by rw[E,F])⟩
     .obtain⟨i,ei,_,hi⟩:=Ao v;subst ei;obtain⟨⟨G,V,y,w,x⟩,H,_⟩:=h.mv i m' hi;have a1:G=f:=by
       have:(G:Int)=f:=by rw[<-y,<-H,E,F];exact z
       omega
      subst a1;have B:G≠o:=λe=>by
       subst e;rw[e2] at w;cases w
       rw[e3] at x;have:=congrArg PlcM.cL x;simp only at this
       omega
      exact⟨G,l,z,E0 B D,.inr ⟨m',Vh (s:=s) rfl ek v,E,F⟩⟩
    .cases g
theorem StM.OkP.finish(h:s.Ok c)(k:Int):(X8 s k).Ok c:=by
 unfold X8;split
 .exact h
 .exact StM.OkP.go h _ _
end
section
variable {c:Conf}{s:StM}{pd:Option (Nat×PlcM)}
theorem Xff(hb:Qo bs)(hl:Qo l):∀k,Qo (Ac c q bs i l k)
 |0=>hb
 |k+1=>λx hx=>by
  unfold Ac at hx;rcases ZN hx with hx|rfl
  .exact Xff hb hl k x hx
  .rw[XB];cases hg:l[k]? with
   |none=>exact⟨YN _,xD⟩
   |some y=>exact hl y (XW hg)
theorem Ts(n:Nat):Qo (X7 n):=λx a=>by
 unfold X7 at a;rw[QF] at a;omega
theorem StM.OkP.put(h:s.OkP c pd)(q:PlcM)(i:Nat)(hl:Qo l):(Yk c s q i l).OkP c pd:=
 h.bytes (Ks _ _ _ _ _ _) (Xff h.bi hl _) _
theorem XgX(hw:0<=who)(hf:Ql c M size=0)(hp:Xl c.bT size≠-1):Ai c M who size=Qe M (Xl c.bT size) who/\Bz c M who size=⟨Xl c.bT size,Ey M (Xl c.bT size) who,Ex M (Xl c.bT size) who,[]⟩/\C5 c M who size=Gt M (Xl c.bT size) who:=by
 refine⟨?_,?_,?_⟩
 .unfold Ai;rw[bJ X,bJ X,bJ hp]
 .unfold Bz;rw[bJ X,bJ X,bJ hp]
 .unfold C5;rw[bJ X,bJ X,bJ hp]
theorem XgW(hw:0<=who)(hf:Ql c M size=0)(hp:Xl c.bT size=-1):Ai c M who size=Ew M (Zl size c.size).toNat/\Bz c M who size=⟨-1,(M.pl.free.getD 0 0:Nat),0,X3 (M.pl.free.take (Zl size c.size).toNat).tail⟩:=by
 refine⟨?_,?_⟩
 .unfold Ai;rw[bJ X,bJ X,bK hp]
 .unfold Bz;rw[bJ X,bJ X,bK hp]
theorem Oz(hf:Ys c s size=0):(1<=size/\size<=c.cH)/\(Di c s size=none->Ql c s.rm size=0):=by
 unfold Ys at hf;split at hf
 .exact absurd hf xD
 .rename_i hr
  refine⟨X,λa=>?_⟩;split at hf
  .rename_i b
   unfold Di at a;cases hm:Xx s (Xl c.bT size) with
   |none=>rw[hm] at b;cases b
   |some m=>
    rw[hm] at a;simp only at a
    split at a
    .cases a
    .rename_i d
     obtain⟨j,ej,_⟩:=Ao hm;unfold Ql;rw[bJ hr,bJ];unfold Df;rw[bJ X];omega
  .exact hf
theorem A3{l:List (Option ThM)}{o1:Nat}{t t1:ThM}(h:(l.set o (some t))[o1]?=some (some t1)):(o1=o/\t1=t)\/(o1≠o/\l[o1]?=some (some t1)):=by
 rcases Kd h with⟨a,b,_⟩|hb
 .exact .inl ⟨a,(Option.some.inj b).symm⟩
 .exact .inr hb
theorem E0{l:List (Option ThM)}{o1:Nat}{v:Option ThM}{t1:ThM}(hne:o1≠o)(h:l[o1]?=some (some t1)):(l.set o v)[o1]?=some (some t1):=by rw[XK (Ne.symm hne)];exact h
theorem StM.OkP.over(h:s.OkP c pd){m:MvM}(ho:s.th[o]?=some none)(hs:1<=size/\size<=c.cH)(hk:Xl c.bT size=(k:Nat))(hm:s.mv[k]?=some (some m))(hpd:∀o' q,pd=some (o',q)->o'=o):StM.OkP c {s with mv:=s.mv.set k none,rm:=Qq s.rm k m.pt m.ta o,th:=s.th.set o (some ⟨size,⟨(k:Nat),m.pt,m.ta,[]⟩⟩)} pd:=by
 obtain⟨⟨D,T,e1,e2,e3⟩,M,U,_⟩:=h.mv k m hm;have a8:D≠o:=λe=>by subst e;rw[ho] at e2;cases e2
 obtain⟨W1,E⟩:=Xly h.rm (k:=(k:Nat)) (n:=m.pt) (i:=m.ta) (who:=(o:Nat)) X (by rw[M,e1];omega);have bV:∀{j n a:Int},¬(j=k/\n=m.pt/\a=m.ta)->Zi (Qq s.rm k m.pt m.ta o) j n a=Zi s.rm j n a:=λv=>by rw[E,bJ v]
 have V:=h.small D T e2 (Rv h e2 (by rw[e3];simp only;omega));have other:∀{l:Nat} {b:ThM},s.th[l]?=some (some b)->Zi s.rm b.q.cL b.q.cR b.q.idx=l->b.q.bS=[] -> ¬(b.q.cL=k/\b.q.cR=m.pt/\b.q.idx=m.ta):=λ{l b} f p z=>by
  rintro⟨d1,F,G⟩;rw[d1,F,G,M,e1] at p;obtain rfl:D=l:=X
  rw[e2] at f;cases f
  rw[e3] at F G;exact U ⟨F,G⟩
 have N:∀{j:Int} {m':MvM},Xx {s with mv:=s.mv.set k none,rm:=Qq s.rm k m.pt m.ta o,th:=s.th.set o (some ⟨size,⟨(k:Nat),m.pt,m.ta,[]⟩⟩)} j=some m'->j≠k/\Xx s j=some m':=λhj=>by
  rcases Xli (s:=s) rfl hj with⟨_,e⟩|hj
  .cases e
  .exact hj
 refine⟨h.may,h.rm.own _ _ _ _,h.kl,h.kr,h.bl,h.bi,by show((s.th.set _ _).length:Int)=_;rw[XG];exact h.tl,by show(s.mv.set _ _).length=_;rw[XG];exact h.ml,λl b f=>?_,λl b f p=>?_,λl b f p=>?_,λl o3 b t3 f z w A hp=>?_,λj m' hj=>?_,λj n a hj=>?_,λo' q H I=>?_,λo' q H I=>?_⟩
 .rcases A3 f with⟨rfl,rfl⟩|⟨_,f⟩
  .exact hs
  .exact h.size l b f
 .rcases A3 f with⟨rfl,rfl⟩|⟨v,f⟩
  .refine⟨hk.symm,rfl,?_⟩;show Zi (Qq s.rm k m.pt m.ta l) k m.pt m.ta=l
   rw[E,bK ⟨rfl,rfl,rfl⟩]
  .obtain⟨J,t,B⟩:=h.small l b f p;exact⟨J,t,(bV (other f B t)).trans B⟩
 .show ∃n' r,(n',r)∈(Qq s.rm k m.pt m.ta o).lg/\_
  rw[XgU];rcases A3 f with⟨rfl,rfl⟩|⟨_,f⟩
  .rw[hk] at p;omega
  .exact h.large l b f p
 .rcases A3 f with⟨rfl,rfl⟩|⟨_,f⟩
  .exact absurd w xP
  .rcases A3 z with⟨rfl,rfl⟩|⟨_,z⟩
   .exact absurd A xP
   .exact h.linj l o3 b t3 f z w A hp
 .rcases Kd hj with⟨_,e,_⟩|⟨v,hj⟩
  .cases e
  .obtain⟨⟨l,b,J,t,B⟩,c2,A⟩:=h.mv j m' hj;exact⟨⟨l,b,J,E0 (λe=>by subst e;rw[ho] at t;cases t) t,B⟩,(bV (λd=>xH d.1)).trans c2,A⟩
 .replace hj:Zi (Qq s.rm k m.pt m.ta o) j n a≠-1:=hj;show(∃(l:Nat),∃b,Zi (Qq s.rm k m.pt m.ta o) j n a=l/\_)\/_
  by_cases e:j=k/\n=m.pt/\a=m.ta
  .obtain⟨rfl,rfl,rfl⟩:=e;exact .inl ⟨o,_,by rw[E,bK ⟨rfl,rfl,rfl⟩],XH ((XC.1 ho).1),.inl rfl⟩
  .rw[bV e] at hj⊢;rcases h.own j n a hj with⟨l,b,O,u,x|⟨m',x,P,Q⟩⟩|g
   .exact .inl ⟨l,b,O,E0 (λe=>by subst e;rw[ho] at u;cases u) u,.inl x⟩
   .have R:j≠k:=λe2=>by
     subst e2;rw[Dy hm] at x;cases x
     exact e ⟨rfl,P.symm,Q.symm⟩
    exact .inl ⟨l,b,O,E0 (λe=>by subst e;rw[ho] at u;cases u) u,.inr ⟨m',Vh (s:=s) rfl R x,P,Q⟩⟩
   .exact .inr g
 .obtain⟨K,L,C,p4⟩:=h.ps o' q H I;have y:¬(q.cL=k/\q.cR=m.pt/\q.idx=m.ta):=λe=>by
   refine C m ?_ ⟨e.2.1.symm,e.2.2.symm⟩;rw[e.1];exact Dy hm
  refine⟨K,(bV y).trans L,λm' S=>C m' (N S).2,λl b f=>?_⟩;rcases A3 f with⟨rfl,rfl⟩|⟨_,f⟩
  .intro e;rw[<-e] at y;exact y ⟨rfl,rfl,rfl⟩
  .exact p4 l b f
 .obtain⟨n,r,K,L,C⟩:=h.pl o' q H I;refine⟨n,r,by show(n,r)∈(Qq s.rm k m.pt m.ta o).lg;rw[XgU];exact K,L,λl b f w=>?_⟩;rcases A3 f with⟨rfl,rfl⟩|⟨_,f⟩
  .exact absurd w xP
  .exact C l b f w
theorem StM.OkP.block(h:s.OkP c pd)(ho:s.th[o]?=some none)(hs:1<=size/\size<=c.cH)(hk:Xl c.bT size=(k:Nat))(hE:Gt s.rm k o=0):StM.OkP c {s with rm:=Qe s.rm k o,th:=s.th.set o (some ⟨size,⟨(k:Nat),Ey s.rm k o,Ex s.rm k o,[]⟩⟩)} pd:=by
 obtain⟨t,F⟩:=XcZ h.rm hE;have bV:∀{j n a:Int},Zi s.rm j n a≠-1->Zi (Qe s.rm k o) j n a=Zi s.rm j n a:=λy=>by
  rw[t,bJ];rintro⟨rfl,rfl,rfl⟩;exact y F
 refine⟨h.may,h.rm.take _ _,h.kl,h.kr,h.bl,h.bi,by show((s.th.set _ _).length:Int)=_;rw[XG];exact h.tl,h.ml,λd f b=>?_,λd f b u=>?_,λd f b u=>?_,λd H f I b z m v J=>?_,λj m' l=>?_,λj n a l=>?_,λo' q A B=>?_,λo' q A B=>?_⟩
 .rcases A3 b with⟨rfl,rfl⟩|⟨_,b⟩
  .exact hs
  .exact h.size d f b
 .rcases A3 b with⟨rfl,rfl⟩|⟨y,b⟩
  .refine⟨hk.symm,rfl,?_⟩;show Zi (Qe s.rm k d) k _ _=d
   rw[t,bK ⟨rfl,rfl,rfl⟩]
  .obtain⟨w,p,x⟩:=h.small d f b u;exact⟨w,p,(bV (by rw[x];omega)).trans x⟩
 .show ∃n' r,(n',r)∈(Qe s.rm k o).lg/\_
  rw[Xcz];rcases A3 b with⟨rfl,rfl⟩|⟨_,b⟩
  .rw[hk] at u;omega
  .exact h.large d f b u
 .rcases A3 b with⟨rfl,rfl⟩|⟨_,b⟩
  .exact absurd m xP
  .rcases A3 z with⟨rfl,rfl⟩|⟨_,z⟩
   .exact absurd v xP
   .exact h.linj d H f I b z m v J
 .obtain⟨⟨d,f,w,p,x⟩,G,v⟩:=h.mv j m' l;exact⟨⟨d,f,w,E0 (λe=>by subst e;rw[ho] at p;cases p) p,x⟩,(bV (by rw[G,w];omega)).trans G,v⟩
 .replace l:Zi (Qe s.rm k o) j n a≠-1:=l;show(∃(d:Nat),∃f,Zi (Qe s.rm k o) j n a=d/\_)\/_
  by_cases e:j=k/\n=Ey s.rm k o/\a=Ex s.rm k o
  .obtain⟨rfl,rfl,rfl⟩:=e;exact .inl ⟨o,_,by rw[t,bK ⟨rfl,rfl,rfl⟩],XH ((XC.1 ho).1),.inl rfl⟩
  .have e1:Zi (Qe s.rm k o) j n a=Zi s.rm j n a:=by rw[t,bJ e]
   rw[e1] at l⊢;rcases h.own j n a l with⟨d,f,K,C,L⟩|g
   .exact .inl ⟨d,f,K,E0 (λe=>by subst e;rw[ho] at C;cases C) C,L⟩
   .exact .inr g
 .obtain⟨D,i,E,M⟩:=h.ps o' q A B;refine⟨D,(bV (by rw[i];omega)).trans i,E,λd f b=>?_⟩;rcases A3 b with⟨rfl,rfl⟩|⟨_,b⟩
  .intro e;rw[<-e] at i;simp only at i
   rw[F] at i;omega
  .exact M d f b
 .obtain⟨n,r,D,i,E⟩:=h.pl o' q A B;refine⟨n,r,by show(n,r)∈(Qe s.rm k o).lg;rw[Xcz];exact D,i,λd f b m=>?_⟩;rcases A3 b with⟨rfl,rfl⟩|⟨_,b⟩
  .exact absurd m xP
  .exact E d f b m
theorem StM.OkP.bS(h:s.OkP c pd)(ho:s.th[o]?=some none)(hs:1<=size/\size<=c.cH)(hf:Ql c s.rm size=0)(hp:Xl c.bT size=-1):StM.OkP c {s with rm:=Ew s.rm (Zl size c.size).toNat,th:=s.th.set o (some ⟨size,⟨-1,(s.rm.pl.free.getD 0 0:Nat),0,X3 (s.rm.pl.free.take (Zl size c.size).toNat).tail⟩⟩)} pd:=by
 have V:=(XC.1 ho).1;obtain⟨f1,f2,_,_⟩:=XjR h.may hf hp;obtain⟨many,B⟩:∃many,many=(Zl size c.size).toNat:=⟨_,rfl⟩;have M:Zl size c.size=many:=X
 rw[<-B] at f1 f2⊢;obtain⟨m,u⟩:∃m,m=s.rm.pl.free.getD 0 0:=⟨_,rfl⟩;obtain⟨t,v⟩:∃t,t=(s.rm.pl.free.take many).tail:=⟨_,rfl⟩;have F:m∈s.rm.pl.free:=by
  rw[u,XB,XD (show 0<s.rm.pl.free.length by omega)];exact XL _
 have i:∀{n:Nat} {r:List Nat},(n,r)∈s.rm.lg->n≠m:=λ{n r} hm e=>by
  subst e;have b:=(h.rm.ok.lg n (Jb hm (ZO ..))).2;have w:=(h.rm.cU.cV.free _ F).2;omega
 have D:(Ew s.rm many).lg=s.rm.lg++[(m,t)]:=by rw[u,v];rfl
 have N:t.length+1=many:=by rw[v,QM,XX];omega
 rw[<-u,<-v];refine⟨h.may,h.rm.big X f2,h.kl,h.kr,h.bl,h.bi,by show((s.th.set _ _).length:Int)=_;rw[XG];exact h.tl,h.ml,λf d b=>?_,λf d b w=>?_,λf d b w=>?_,λf O d P b K x L k=>?_,λj m' y=>?_,λj n a y=>?_,λo' q G z=>?_,λo' q G z=>?_⟩
 .rcases A3 b with⟨rfl,rfl⟩|⟨_,b⟩
  .exact hs
  .exact h.size f d b
 .rcases A3 b with⟨rfl,rfl⟩|⟨E,b⟩
  .exact absurd hp w
  .exact h.small f d b w
 .show ∃n' r,(n',r)∈(Ew s.rm many).lg/\_
  rw[D];rcases A3 b with⟨rfl,rfl⟩|⟨_,b⟩
  .exact⟨m,t,xS,rfl,by show((t.length:Int)+1)=Zl size c.size;omega⟩
  .obtain⟨n',r,l,p⟩:=h.large f d b w;exact⟨n',r,QT _ l,p⟩
 .have cR:∀{f:Nat} {d:ThM},s.th[f]?=some (some d)->d.q.cL=-1->d.q.cR≠(m:Int):=λ{f d} b x=>by
   have Q:=Decidable.byContradiction λE=>by
    have:=(h.small f d b E).1;omega
   obtain⟨n',r,l,p,_⟩:=h.large f d b Q;have:=i l;rw[p];simp only
   omega
  rcases A3 b with⟨e1,e2⟩|⟨_,l⟩
  .rcases A3 K with⟨e3,_⟩|⟨_,A⟩
   .exact e1.trans e3.symm
   .rw[e2] at k;exact absurd k.symm (cR A L)
  .rcases A3 K with⟨e3,e4⟩|⟨_,A⟩
   .rw[e4] at k;exact absurd k (cR l x)
   .exact h.linj f O d P l A x L k
 .obtain⟨⟨f,d,R,H,S⟩,T⟩:=h.mv j m' y;exact⟨⟨f,d,R,E0 (λe=>by subst e;rw[ho] at H;cases H) H,S⟩,T⟩
 .replace y:Zi s.rm j n a≠-1:=y;rcases h.own j n a y with⟨f,d,l,p,A⟩|g
  .exact .inl ⟨f,d,l,E0 (λe=>by subst e;rw[ho] at p;cases p) p,A⟩
  .exact .inr g
 .obtain⟨C,I,J,U⟩:=h.ps o' q G z;refine⟨C,I,J,λf d b=>?_⟩;rcases A3 b with⟨rfl,rfl⟩|⟨_,b⟩
  .intro e;rw[<-e] at z;exact z rfl
  .exact U f d b
 .obtain⟨n,r,C,I,J⟩:=h.pl o' q G z;refine⟨n,r,by show(n,r)∈(Ew s.rm many).lg;rw[D];exact QT _ C,I,λf d b x=>?_⟩;rcases A3 b with⟨rfl,rfl⟩|⟨_,b⟩
  .have:=i C;simp only
   omega
  .exact J f d b x
theorem StM.OkP.lay(h:s.OkP c pd)(ho:s.th[o]?=some none)(hf:Ys c s size=0)(hpd:∀o' q,pd=some (o',q)->o'=o):(Qs c s o size).OkP c pd:=by
 obtain⟨f,g⟩:=Oz hf;have base:StM.OkP c {Yb c s o size with th:=s.th.set o (some ⟨size,Zp c s o size⟩)} pd:=by
  cases ht:Di c s size with
  |some m=>
   have e1:Yb c s o size=Y3 {s with mv:=s.mv.set (Xl c.bT size).toNat none,rm:=Qq s.rm (Xl c.bT size) m.pt m.ta o} 3:=by unfold Yb;rw[ht]
   have e2:Zp c s o size=⟨Xl c.bT size,m.pt,m.ta,[]⟩:=by unfold Zp;rw[ht]
   unfold Di at ht;cases hm:Xx s (Xl c.bT size) with
   |none=>rw[hm] at ht;cases ht
   |some m'=>
    rw[hm] at ht;simp only at ht
    split at ht
    .cases ht
     obtain⟨k,b,_,n⟩:=Ao hm;rw[e1,e2,b,XA];exact(h.over ho f b n hpd).tot 3
    .cases ht
  |none=>
   have e1:Yb c s o size={s with rm:=Ai c s.rm o size}:=by unfold Yb;rw[ht]
   have e2:Zp c s o size=Bz c s.rm o size:=by unfold Zp;rw[ht]
   have a:=g ht;rw[e1,e2];by_cases d:Xl c.bT size=-1
   .obtain⟨i,j⟩:=XgW (c:=c) (who:=(o:Nat)) X a d;rw[i,j];exact h.bS ho f a d
   .obtain⟨i,j,p⟩:=XgX (c:=c) (who:=(o:Nat)) X a d;have l:=XjU (who:=(o:Nat)) h.rm.ok X a;rw[p] at l;obtain⟨r,t⟩:=K0 d;obtain⟨k,b⟩:=XE r;rw[i,j];rw[b] at l⊢;exact h.block ho f b l
 have e:Qs c s o size=Yk c {Yb c s o size with th:=s.th.set o (some ⟨size,Zp c s o size⟩)} (Zp c s o size) 0 (X7 (Zt c (Zp c s o size).cQ).toNat):=by
  unfold Qs Yk Y3;rw[XA]
 rw[e];exact base.put _ _ (Ts _)
theorem Xnf{q:PlcM}(h:q.cL≠-1):Yo M q=Qw M q.cL q.cR q.idx:=by unfold Yo;rw[bK h]
theorem Xne(hok:M.Ok c){r:List Nat}(hm:(n,r)∈M.lg):Yo M ⟨-1,(n:Nat),0,X3 r⟩=Iv M n r:=by
 have a:Dd M.lg ((n:Nat):Int)=some r:=by
  cases b:Dd M.lg ((n:Nat):Int) with
  |none=>exact absurd rfl (Uz b _ hm)
  |some r'=>
   obtain⟨k,f,d⟩:=Pc b;have:k=n:=X
   subst this;rw[Xbt hok.nd d hm]
 unfold Yo;rw[bJ xS];simp only
 rw[a]
 simp
theorem StM.OkP.dropped{q:PlcM}(h:s.OkP c (some (o,q))):StM.Ok c {s with rm:=Yo s.rm q}:=by
 by_cases p:q.cL=-1
 .obtain⟨n,r,u,v,w⟩:=h.pl o q rfl p;rw[v,Xne h.rm.ok u];refine⟨h.may,h.rm.cE u,h.kl,h.kr,h.bl,h.bi,h.tl,h.ml,h.size,h.small,λd f l t=>?_,h.linj,h.mv,λj n' a b=>.inl ?_,(by rintro _ _ ⟨⟩),(by rintro _ _ ⟨⟩)⟩
  .obtain⟨n',r',H,x,I⟩:=h.large d f l t;refine⟨n',r',?_,x,I⟩;show(n',r')∈Dw s.rm.lg n
   unfold Dw;refine QY.2 ⟨H,?_⟩;have:=w d f l (by rw[x]);rw[x] at this;simp only at this
   simp only[bne_iff_ne,ne_eq];omega
  .replace b:Zi s.rm j n' a≠-1:=b;rcases h.own j n' a b with g|⟨o',g⟩
   .exact g
   .have e:=(Prod.mk.inj (Option.some.inj g)).2;have B:j=-1:=by rw[e] at p;exact p
    exact absurd (by rw[B];unfold Zi;rw[Td X]) b
 .obtain⟨u,v,w,J⟩:=h.ps o q rfl p;rw[Xnf p];obtain⟨M,C⟩:=XeV h.rm (k:=q.cL) (n:=q.cR) (i:=q.idx) (by rw[v];omega);have bV:∀{j n' a:Int},¬(j=q.cL/\n'=q.cR/\a=q.idx)->Zi (Qw s.rm q.cL q.cR q.idx) j n' a=Zi s.rm j n' a:=λm=>by rw[C,bJ m]
  refine⟨h.may,h.rm.give _ _ _,h.kl,h.kr,h.bl,h.bi,h.tl,h.ml,h.size,λd f l t=>?_,λd f l t=>?_,h.linj,λj m' b=>?_,λj n' a b=>.inl ?_,(by rintro _ _ ⟨⟩),(by rintro _ _ ⟨⟩)⟩
  .obtain⟨K,D,L⟩:=h.small d f l t;refine⟨K,D,(bV ?_).trans L⟩;rintro⟨y,z,A⟩;refine J d f l ?_;obtain⟨sz,E,F,G,N⟩:=f;obtain⟨O,P,Q,R⟩:=q;simp only at *
   rw[y,z,A,D,u]
  .show ∃n' r,(n',r)∈(Qw s.rm q.cL q.cR q.idx).lg/\_
   rw[Xcv];exact h.large d f l t
  .obtain⟨E,F,G⟩:=h.mv j m' b;refine⟨E,(bV ?_).trans F,G⟩;rintro⟨y,z,A⟩;exact w m' (by rw[<-y];exact Dy b) ⟨z,A⟩
  .replace b:Zi (Qw s.rm q.cL q.cR q.idx) j n' a≠-1:=b;have m:¬(j=q.cL/\n'=q.cR/\a=q.idx):=λe=>by rw[C,bK e] at b;exact b rfl
   show ∃(d:Nat),∃f,Zi (Qw s.rm q.cL q.cR q.idx) j n' a=d/\_
   rw[bV m] at b⊢;rcases h.own j n' a b with g|⟨o',g⟩
   .exact g
   .have e:=(Prod.mk.inj (Option.some.inj g)).2;exact absurd ⟨by rw[e],by rw[e],by rw[e]⟩ m
theorem StM.OkP.clear{q:PlcM}(h:s.OkP c (some (o,q))):(Ax c s q).Ok c:=by
 unfold Ax;split
 .exact h.dropped
 .exact StM.OkP.go (StM.OkP.begin h.dropped _) _ _
theorem StM.OkP.away(h:s.Ok c){t:ThM}(ht:s.th[o]?=some (some t))(hm:∀(k:Nat) (m:MvM),s.mv[k]?=some (some m)->m.who≠(o:Nat)):StM.OkP c {s with th:=s.th.set o none} (some (o,t.q)):=by
 have f:∀{b:Nat} {d:ThM},(s.th.set o none)[b]?=some (some d)->b≠o/\s.th[b]?=some (some d):=λh1=>by
  rcases Kd h1 with⟨_,e,_⟩|h1
  .cases e
  .exact h1
 have p:∀{k:Nat} {m:MvM},s.mv[k]?=some (some m) -> ∀{b:Nat},m.who=(b:Nat)->b≠o:=λB b e1 e=>hm _ _ B (by rw[e1,e]);refine⟨h.may,h.rm,h.kl,h.kr,h.bl,h.bi,by show((s.th.set _ _).length:Int)=_;rw[XG];exact h.tl,h.ml,λb d h1=>h.size b d (f h1).2,λb d h1=>h.small b d (f h1).2,λb d h1=>h.large b d (f h1).2,λb C d E h1 K=>h.linj b C d E (f h1).2 (f K).2,λk m B=>?_,λj n a L=>?_,λo' q F w=>?_,λo' q F w=>?_⟩
 .obtain⟨⟨b,d,v,G,x⟩,y⟩:=h.mv k m B;exact⟨⟨b,d,v,E0 (p B v) G,x⟩,y⟩
 .rcases h.own j n a L with⟨b,d,z,u,A|⟨m,A,H,I⟩⟩|⟨_,g⟩
  .by_cases e:b=o
   .subst e;rw[ht] at u;cases u
    exact .inr ⟨b,by rw[A]⟩
   .exact .inl ⟨b,d,z,E0 e u,.inl A⟩
  .obtain⟨i,ei,_,hi⟩:=Ao A;subst ei;obtain⟨⟨C,E,v,_⟩,y,_⟩:=h.mv i m hi;have:(C:Int)=b:=by rw[<-v,<-y,H,I];exact z
   have l:=p hi v;exact .inl ⟨b,d,z,E0 X u,.inr ⟨m,A,H,I⟩⟩
  .cases g
 .obtain⟨e1,e2⟩:=Prod.mk.inj (Option.some.inj F);subst e1;subst e2;obtain⟨v,G,x⟩:=h.small o t ht (Rv h ht w);refine⟨G,x,λm J=>?_,λb d h1 e=>?_⟩
  .obtain⟨i,ei,_,hi⟩:=Ao J;rintro⟨M,N⟩;obtain⟨⟨C,E,D,_⟩,y,_⟩:=h.mv i m hi;rw[M,N,<-ei,x,D] at y;exact p hi D X
  .obtain⟨l,h1⟩:=f h1;obtain⟨_,_,O⟩:=h.small b d h1 (Rv h h1 (by rw[e];exact w));rw[e,x] at O;omega
 .obtain⟨e1,e2⟩:=Prod.mk.inj (Option.some.inj F);subst e1;subst e2;have P:=Decidable.byContradiction λl=>by
   have h1:=(h.small o t ht l).1;rw[w] at h1;exact l h1.symm
  obtain⟨n,r,z,u,_⟩:=h.large o t ht P;refine⟨n,r,z,u,λb d h1 D e=>?_⟩;obtain⟨l,h1⟩:=f h1;exact l (h.linj b o d t h1 ht D w (by rw[e,u]))
end
section
variable {c:Conf}{s:StM}{pd:Option (Nat×PlcM)}
theorem Ol(c:Conf)(s:StM)(k:Nat):(Yj c s k).th=s.th/\(Yj c s k).bV=s.bV/\(Yj c s k).bs=s.bs/\(Yj c s k).mv.length=s.mv.length:=by
 unfold Yj;split
 .exact⟨rfl,rfl,rfl,XG⟩
 .exact⟨rfl,rfl,rfl,rfl⟩
theorem XeY(s:StM)(k:Nat)(n:Int):(Yg s k n).bV=s.bV/\(Yg s k n).th.length=s.th.length/\(Yg s k n).mv.length=s.mv.length/\(Yg s k n).rm.lg=s.rm.lg:=by
 unfold Yg;split
 .exact⟨rfl,rfl,rfl,rfl⟩
 .split
  .exact⟨rfl,rfl,XG,rfl⟩
  .exact⟨rfl,XG,XG,Xcv _ _ _ _⟩
theorem Xj9(h:s.Ok c)(k:Nat)(n:Int):(∀(o:Nat) t,s.th[o]?=some (some t) -> ∃t',(Yg s k n).th[o]?=some (some t')/\t'.size=t.size/\t'.q.cL=t.q.cL/\t'.q.bS=t.q.bS/\(t.q.cL≠(k:Nat)->t'=t))/\(∀o:Nat,s.th[o]?=some none->(Yg s k n).th[o]?=some none)/\∀j:Int,j≠k->Xx (Yg s k n) j=Xx s j:=by
 unfold Yg;cases l:Xx s (k:Nat) with
 |none=>exact⟨λo t ht=>⟨t,ht,rfl,rfl,rfl,λ_=>rfl⟩,λ_ h=>h,λ_ _=>rfl⟩
 |some m=>
  obtain⟨j,ej,q,hm⟩:=Ao l;obtain rfl:k=j:=X
  have d:∀{s':StM} {v:Option MvM},s'.mv=s.mv.set k v -> ∀j:Int,j≠k->Xx s' j=Xx s j:=λ{s' v} e j f=>by
   unfold Xx;split
   .rename_i r
    rw[e,XB,XB,XK X]
   .rfl
  simp only
  split
  .exact⟨λo t ht=>⟨t,ht,rfl,rfl,rfl,λ_=>rfl⟩,λ_ h=>h,d rfl⟩
  .obtain⟨⟨o,t,e1,e2,e3⟩,_⟩:=h.mv k m hm;have i:Q2 s m.who=t.size:=by unfold Q2;rw[e1,Hk e2]
   have g:m.who.toNat=o:=X
   refine⟨λb p a=>?_,λb a=>?_,d rfl⟩
   .show ∃t',(s.th.set m.who.toNat _)[b]?=_/\_
    rw[g,i];by_cases e:b=o
    .subst e;rw[e2] at a;cases a
     exact⟨_,XH ((XC.1 e2).1),rfl,by rw[e3],by rw[e3],λf=>absurd (by rw[e3]) f⟩
    .exact⟨p,E0 e a,rfl,rfl,rfl,λ_=>rfl⟩
   .show(s.th.set m.who.toNat _)[b]?=_
    rw[g,XK (λe=>by subst e;rw[e2] at a;cases a)];exact a
theorem Xj7(h:s.Ok c){m:MvM}(hm:s.mv[k]?=some (some m)){n:Int}(hn:(m.size-m.cE:Nat)<=n):Xx (Yg s k n) (k:Nat)=none:=by
 have a:=(h.mv k m hm).2.2.2.2.2.2;unfold Yg;rw[Dy hm];simp only
 have b:Zm m n=m.size-m.cE:=by unfold Zm Dh;omega
 rw[bJ X];unfold Xx;rw[bK X];show((s.mv.set k none).getD _ none)=none
 rw[XA,XB,XH ((XC.1 hm).1)];rfl
structure XiD(c:Conf)(s s':StM)(κ:Int):Prop where
 ok:s'.Ok c
 mv:Xx s' κ=none
 other:∀j:Int,j≠κ->Xx s' j=Xx s j
 th:∀(o:Nat) t,s.th[o]?=some (some t) -> ∃t',s'.th[o]?=some (some t')/\t'.size=t.size/\t'.q.cL=t.q.cL/\t'.q.bS=t.q.bS/\(t.q.cL≠κ->t'=t)
 no:∀o:Nat,s.th[o]?=some none->s'.th[o]?=some none
 bV:s'.bV=s.bV/\s'.th.length=s.th.length/\s'.mv.length=s.mv.length/\s'.rm.lg=s.rm.lg
theorem Lm(h:s.Ok c)(κ:Int):XiD c s (X8 s κ) κ:=by
 have a:=h.finish κ;unfold X8 at a⊢;cases hm:Xx s κ with
 |none=>exact⟨h,hm,λ_ _=>rfl,λo t ht=>⟨t,ht,rfl,rfl,rfl,λ_=>rfl⟩,λ_ h=>h,rfl,rfl,rfl,rfl⟩
 |some m=>
  rw[hm] at a;obtain⟨k,rfl,i,b⟩:=Ao hm;simp only[XA] at a⊢;obtain⟨d,f,g⟩:=Xj9 h k (m.size:Nat);exact⟨a,Xj7 h b X,g,d,f,XeY s k _⟩
theorem Y5{t:ThM}(h:s.th[o]?=some (some t)):Yy s (o:Nat)=t.q:=by unfold Yy;rw[Hk h]
theorem C6{t:ThM}(h:s.th[o]?=some (some t)):Q2 s (o:Nat)=t.size:=by unfold Q2;rw[Hk h]
theorem My(h:s.Ok c){t:ThM}(ht:s.th[o]?=some (some t)):∃t',(X8 s t.q.cL).th[o]?=some (some t')/\t'.size=t.size/\t'.q.cL=t.q.cL/\t'.q.bS=t.q.bS/\(∀(k:Nat) (m:MvM),(X8 s t.q.cL).mv[k]?=some (some m)->m.who≠(o:Nat)):=by
 have F:=Lm h t.q.cL;obtain⟨t',b,f,a,g,_⟩:=F.th o t ht;refine⟨t',b,f,a,g,λk m hm e=>?_⟩;obtain⟨⟨i,l,n,d,j⟩,_⟩:=F.ok.mv k m hm;obtain rfl:i=o:=X
 rw[b] at d;cases d
 have:Xx (X8 s t.q.cL) (k:Nat)=some m:=Dy hm;rw[j] at a;simp only at a
 rw[a,F.mv] at this;cases this
theorem J4{o:Int}(h:Z9 s o=0):∃(j:Nat),∃t,o=j/\s.th[j]?=some (some t):=by
 unfold Z9 at h;split at h
 .exact absurd h xD
 .cases ht:B3 s o with
  |none=>rw[ht] at h;exact absurd (show(9:Int)=0 from h) xD
  |some t=>
   obtain⟨j,e,_,a⟩:=Xc4 ht;exact⟨j,t,e,a⟩
theorem XbU{o:Int}(h1:Z9 s o≠1)(h0:Z9 s o≠0):∃j:Nat,o=j/\j<s.th.length/\s.th[j]?=some none:=by
 unfold Z9 at h1 h0;split at h1
 .exact absurd rfl h1
 .rename_i hr
  rw[bJ hr] at h0;obtain⟨j,rfl⟩:=XE (show 0<=o by omega);have a:j<s.th.length:=X
  refine⟨j,rfl,a,?_⟩;cases b:s.th[j] with
  |none=>rw[XD a,b]
  |some t=>
   have:B3 s (j:Nat)=some t:=Hk (by rw[XD a,b]);rw[this] at h0;exact absurd rfl h0
theorem XaA{o:Int}(h:Cm c s o size=0):∃j:Nat,o=j/\j<s.th.length/\s.th[j]?=some none/\Ys c s size=0:=by
 unfold Cm at h;split at h
 .exact absurd h xD
 .rename_i f
  split at h
  .exact absurd h xD
  .rename_i g
   obtain⟨j,a,b,d⟩:=XbU f g;exact⟨j,a,b,d,h⟩
theorem StM.OkP.alloc(h:s.Ok c)(o size:Int):(Q1 c s o size).Ok c:=by
 unfold Q1;split
 .rename_i a
  obtain⟨j,rfl,_,b,hf⟩:=XaA a;exact StM.OkP.lay h b hf (by rintro _ _ ⟨⟩)
 .exact h
theorem StM.OkP.free(h:s.Ok c)(o:Int):(Aq c s o).Ok c:=by
 unfold Aq;split
 .exact h
 .rename_i b
  obtain⟨j,t,rfl,ht⟩:=J4 (YP.1 b);rw[Y5 ht];obtain⟨t',a,_,_,_,d⟩:=My h ht;rw[Y5 a,XA];exact((Lm h t.q.cL).ok.away a d).clear
theorem StM.OkP.wrote(h:s.OkP c pd)(o:Int)(i n:Nat)(hi:∀m,Xx s (Yy s o).cL=some m->i+n<=m.size):(Af s o i n).OkP c pd:=by
 unfold Af;split
 .rename_i m hm
  split
  .obtain⟨k,_,_,a⟩:=Ao hm;obtain⟨b,d,f,_⟩:=Ky h a;have:=hi m hm;refine h.bytes ?_ ?_ _
   .unfold E1;split
    .rfl
    .unfold Qv at *;exact Rw X X
   .unfold E1;split
    .exact h.bi
    .exact Xer h.bi
  .exact h
 .exact h
theorem StM.OkP.sized(h:s.Ok c){t:ThM}(ht:s.th[o]?=some (some t))(hs:Ay c t.size size=true)(hr:1<=size/\size<=c.cH):(D3 s (o:Nat) ⟨size,t.q⟩).Ok c:=by
 unfold Ay at hs;simp only[XI,Bool.or_eq_true,decide_eq_true_eq] at hs;obtain⟨B,F⟩:=hs;have p:∀{b:Nat} {d:ThM},(s.th.set o (some ⟨size,t.q⟩))[b]?=some (some d) -> ∃f,s.th[b]?=some (some f)/\d.q=f.q/\((b=o/\f=t/\d.size=size)\/(b≠o/\d=f)):=λi=>by
  rcases A3 i with⟨rfl,rfl⟩|⟨w,i⟩
  .exact⟨t,ht,rfl,.inl ⟨rfl,rfl,rfl⟩⟩
  .exact⟨_,i,rfl,.inr ⟨w,rfl⟩⟩
 have x:∀{b:Nat} {f:ThM},s.th[b]?=some (some f) -> ∃d,(s.th.set o (some ⟨size,t.q⟩))[b]?=some (some d)/\d.q=f.q:=λ{b f} i=>by
  by_cases e:b=o
  .subst e;rw[ht] at i;cases i
   exact⟨_,XH ((XC.1 ht).1),rfl⟩
  .exact⟨f,E0 e i,rfl⟩
 unfold D3;rw[XA];refine⟨h.may,h.rm,h.kl,h.kr,h.bl,h.bi,by show((s.th.set _ _).length:Int)=_;rw[XG];exact h.tl,h.ml,λb d i=>?_,λb d i q=>?_,λb d i q=>?_,λb G d P i q E A C=>?_,λk m H=>?_,λj n a I=>.inl ?_,(by rintro _ _ ⟨⟩),(by rintro _ _ ⟨⟩)⟩
 .obtain⟨f,l,u,⟨_,_,v⟩|⟨_,rfl⟩⟩:=p i
  .rw[v];exact hr
  .exact h.size b d l
 .obtain⟨f,l,u,⟨_,D,v⟩|⟨_,rfl⟩⟩:=p i
  .subst D;rw[v,<-B] at q;rw[u,v,<-B];exact h.small b f l q
  .exact h.small b d l q
 .obtain⟨f,l,u,⟨_,D,v⟩|⟨_,rfl⟩⟩:=p i
  .subst D;rw[v,<-B] at q;obtain⟨n,r,y,z,J⟩:=h.large b f l q;refine⟨n,r,y,u.trans z,?_⟩;rw[J,v];unfold Zl;rw[(F.resolve_left (λw=>w q))]
  .exact h.large b d l q
 .obtain⟨f,l,u,_⟩:=p i;obtain⟨K,y,z,_⟩:=p q;rw[u] at E C;rw[z] at A C;exact h.linj b G f K l y E A C
 .obtain⟨⟨b,f,L,M,N⟩,A⟩:=h.mv k m H;obtain⟨d,l,u⟩:=x M;exact⟨⟨b,d,L,l,u.trans N⟩,A⟩
 .rcases h.own j n a I with⟨b,f,l,u,O⟩|⟨_,g⟩
  .obtain⟨d,y,z⟩:=x u;exact⟨b,d,l,y,by rw[z];exact O⟩
  .cases g
theorem XkI(c:Conf)(s:StM)(o:Nat)(size:Int):Qs c {s with th:=s.th.set o none} o size=Qs c s o size:=by
 have e1:Di c {s with th:=s.th.set o none} size=Di c s size:=rfl;have e2:Zp c {s with th:=s.th.set o none} o size=Zp c s o size:=rfl;have e3:Yb c {s with th:=s.th.set o none} o size={Yb c s o size with th:=s.th.set o none}:=by unfold Yb;rw[e1];split <;> rfl
 unfold Qs;rw[e2,e3];simp only[List.set_set,XA];rfl
theorem XeT(M:RmM)(k n i:Int)(h:Y1 c M):M.pl.free.length<=(Qw M k n i).pl.free.length/\∀j,j≠k->Qm (Qw M k n i) j=Qm M j:=by
 unfold Qw;cases a:Zs M k with
 |none=>exact⟨XF _,λ_ _=>rfl⟩
 |some x=>
  obtain⟨l,rfl,b,f⟩:=Fz a;simp only[XA];split
  .refine⟨?_,λj d=>?_⟩
   .show _<=(Bo x M.pl n i).free.length
    unfold Bo;split
    .split
     .show _<=(PlM.give M.pl _).free.length
      unfold PlM.give
      simp
     .exact XF _
    .exact XF _
   .show Qm (Gs M l (Ag x n i) (Bo x M.pl n i)) j=_
    unfold Qm;rw[XgT b,bJ d]
  .exact⟨XF _,λ_ _=>rfl⟩
theorem Xng{M':RmM}(h1:M.pl.free.length<=M'.pl.free.length)(h2:Qm M' (Xl c.bT size)=Qm M (Xl c.bT size))(h:Ql c M size=0):Ql c M' size=0:=by
 unfold Ql at h⊢;split at h
 .exact absurd h xD
 .rename_i hr
  rw[bJ hr];split at h
  .exact absurd h xD
  .rename_i a
   rw[bJ];unfold Df at a⊢;rw[h2];omega
theorem XjT(h:s.Ok c){κ:Int}(hne:Xl c.bT size=-1\/Xl c.bT size≠κ)(hf:Ys c s size=0):Ys c (X8 s κ) size=0:=by
 unfold Ys at hf⊢;split at hf
 .exact absurd hf xD
 .rename_i hr
  rw[bJ hr];have d:Xx (X8 s κ) (Xl c.bT size)=Xx s (Xl c.bT size):=by
   rcases hne with e|e
   .rw[e];rfl
   .exact(Lm h κ).other _ e
  rw[d];split at hf
  .rename_i a;rw[bK a]
  .rename_i a
   rw[bJ a];refine Xng ?_ ?_ hf
   .unfold X8;split
    .exact XF _
    .rename_i m hm
     obtain⟨k,rfl,_,b⟩:=Ao hm;rw[XA];unfold Yg;rw[hm];simp only
     split
     .exact XF _
     .exact(XeT _ _ _ _ (StM.OkP.step h b _).rm).1
   .unfold X8;split
    .rfl
    .rename_i m hm
     obtain⟨k,rfl,_,b⟩:=Ao hm;rw[XA];unfold Yg;rw[hm];simp only
     split
     .rfl
     .rcases hne with e|e
      .rw[e];unfold Qm;rw[Td X,Td X]
      .exact(XeT _ _ _ _ (StM.OkP.step h b _).rm).2 _ e
theorem N4(hb:Qo bs)(i n:Nat):Qo (Yh c q bs i n):=λx a=>by
 unfold Yh at a;obtain⟨j,_,rfl⟩:=XP.1 a;rw[XB];cases b:bs[(B5 c q (i+j)).toNat]? with
 |none=>exact⟨YN _,xD⟩
 |some y=>exact hb y (XW b)
theorem Px{o:Int}(h:A2 c s o size=0):∃(j:Nat),∃t,o=j/\s.th[j]?=some (some t)/\(1<=size/\size<=c.cH)/\(Ay c t.size size=true\/(Ay c t.size size=false/\Ys c s size=0)):=by
 unfold A2 at h;by_cases a:Z9 s o=0
 .rw[bJ (λd=>d a)] at h;obtain⟨j,t,rfl,ht⟩:=J4 a;split at h
  .exact absurd h xD
  .rename_i hr
   rw[C6 ht] at h;refine⟨j,t,rfl,ht,X,?_⟩;split at h
   .rename_i b;exact .inl b
   .rename_i b;exact .inr ⟨xU b,h⟩
 .rw[bK a] at h;exact absurd h a
theorem Xof{old:Int}(h:Ay c old size=false):Xl c.bT size=-1\/Xl c.bT size≠Xl c.bT old:=by
 unfold Ay at h;by_cases e:Xl c.bT old=Xl c.bT size
 .rw[bN e,YM] at h;by_cases e1:Xl c.bT old=-1
  .exact .inl X
  .rw[bN e1,Bool.true_or] at h;cases h
 .exact .inr (λh=>e h.symm)
theorem Rt(h:s.OkP c pd){t:ThM}(ht:s.th[o]?=some (some t)):t.q.cL=Xl c.bT t.size:=by
 by_cases a:Xl c.bT t.size=-1
 .obtain⟨n,r,_,e,_⟩:=h.large o t ht a;rw[e,a]
 .exact(h.small o t ht a).1
structure XiF(c:Conf)(s:StM)(o:Nat)(t:ThM)(size:Int)(t':ThM):Prop where
 ok1:(X8 s t.q.cL).Ok c
 th1:(X8 s t.q.cL).th[o]?=some (some t')
 size':t'.size=t.size
 cls':t'.q.cL=t.q.cL
 pages':t'.q.bS=t.q.bS
 away:StM.OkP c {X8 s t.q.cL with th:=(X8 s t.q.cL).th.set o none} (some (o,t'.q))
 fits:Ys c (X8 s t.q.cL) size=0
 ok2:(Qs c (Y3 (X8 s t.q.cL) (Zb c t'.q.cQ 0 (min t.size size).toNat)) o size).OkP c (some (o,t'.q))
theorem Pf(h:s.Ok c){t:ThM}(ht:s.th[o]?=some (some t))(hs:Ay c t.size size=false)(hf:Ys c s size=0):∃t',XiF c s o t size t':=by
 obtain⟨t',b,g,i,j,k⟩:=My h ht;have F:=Lm h t.q.cL;have a:=XjT (κ:=t.q.cL) h (by rw[(Rt h ht)];exact Xof hs) hf;have d:=F.ok.away b k;refine⟨t',F.ok,b,g,i,j,d,a,?_⟩;have f:=StM.OkP.lay (o:=o) (size:=size) (d.tot (Zb c t'.q.cQ 0 (min t.size size).toNat)) (by show((X8 s t.q.cL).th.set o none)[o]?=_;rw[XH ((XC.1 b).1)]) a (λo' q e=>by cases e;rfl);have e:Y3 {X8 s t.q.cL with th:=(X8 s t.q.cL).th.set o none} (Zb c t'.q.cQ 0 (min t.size size).toNat)={Y3 (X8 s t.q.cL) (Zb c t'.q.cQ 0 (min t.size size).toNat) with th:=(Y3 (X8 s t.q.cL) (Zb c t'.q.cQ 0 (min t.size size).toNat)).th.set o none}:=rfl;rw[e,XkI] at f;exact f
theorem StM.OkP.moveTo(h:s.Ok c){t:ThM}(ht:s.th[o]?=some (some t))(hs:Ay c t.size size=false)(hf:Ys c s size=0):(Jn c s o size).Ok c:=by
 obtain⟨t',M⟩:=Pf h ht hs hf;unfold Jn;simp only
 rw[Y5 ht,Y5 M.th1,C6 ht];exact(M.ok2.put _ _ (N4 M.ok1.bi _ _)).clear
theorem Xf6{n:Int}(h:Xl zs n=(k:Nat)):n<=zs.getD k 0:=by
 unfold Xl at h;split at h
 .omega
 .unfold idx at h;split at h
  .rename_i i hi
   obtain⟨a,b,_⟩:=YU.1 hi;obtain rfl:i=k:=X
   rw[XB,XD a];exact bL b
  .omega
theorem R9(h:s.OkP c pd){m:MvM}(hm:s.mv[k]?=some (some m)){t:ThM}(ht:s.th[o]?=some (some t))(hc:t.q.cL=(k:Nat)):t.size<=m.size:=by
 have a:=Rt h ht;rw[hc] at a;rw[((h.mv k m hm).2.2.2.2.2.1)];unfold Zn;rw[XA];have b:Xl c.bT t.size≠-1:=X
 obtain⟨_,d⟩:=K0 b;exact Xf6 a.symm
theorem StM.OkP.resize(h:s.Ok c)(o size:Int):(Q7 c s o size).Ok c:=by
 unfold Q7;split
 .exact h
 .rename_i f
  obtain⟨j,t,rfl,ht,hr,b⟩:=Px (YP.1 f);rw[C6 ht,Y5 ht];split
  .rename_i a
   split
   .rename_i i
    refine(StM.OkP.sized (h.put t.q size.toNat (Ts (t.size-size).toNat)) (o:=j) (t:=t) ht a hr).wrote _ _ _ λm hm=>?_;have l:=h.size j t ht;have g:(D3 (Yk c s t.q size.toNat (X7 (t.size-size).toNat)) (j:Nat) ⟨size,t.q⟩).th[j]?=some (some ⟨size,t.q⟩):=by
     show(s.th.set (j:Int).toNat _)[j]?=_
     rw[XA,XH ((XC.1 ht).1)]
    rw[Y5 g] at hm;obtain⟨k,ek,_,d⟩:=Ao hm;have:=R9 h (k:=k) (m:=m) d ht ek;omega
   .exact h.sized ht a hr
  .rename_i a
   rcases b with b|⟨b,hf⟩
   .exact absurd b a
   .exact h.moveTo ht b hf
theorem Ri{o i n:Int}(h:Qt s o i n=0):∃(j:Nat),∃t,o=j/\s.th[j]?=some (some t)/\0<=i/\0<=n/\i+n<=t.size:=by
 unfold Qt at h;by_cases a:Z9 s o=0
 .rw[bJ (λb=>b a)] at h;obtain⟨j,t,rfl,ht⟩:=J4 a;rw[C6 ht] at h;split at h
  .exact absurd h xD
  .exact⟨j,t,rfl,ht,X,X,X⟩
 .rw[bK a] at h;exact absurd h a
theorem StM.OkP.read(h:s.Ok c)(o i n:Int):(Cc c s o i n).Ok c:=by
 unfold Cc;split
 .exact h.tot _
 .exact h
theorem StM.OkP.write(h:s.Ok c)(o i:Int)(hl:Qo l):(Cx c s o i l).Ok c:=by
 unfold Cx;split
 .rename_i b
  obtain⟨j,t,rfl,ht,d,_,f⟩:=Ri b;refine(h.put _ _ hl).wrote _ _ _ λm hm=>?_;rw[(Y5 (s:=Yk c s (Yy s (j:Nat)) i.toNat l) ht)] at hm;obtain⟨k,ek,_,a⟩:=Ao hm;have:=R9 h (k:=k) (m:=m) a ht ek;omega
 .exact h
theorem StM.OkP.tickK(h:s.Ok c)(n:Int)(k:Nat):(tickK c (s,n) k).1.Ok c:=by
 unfold Go.Proofs.YtdeihcnepljjaaaGreatDoor.tickK;split
 .exact h
 .split
  .exact h.begin k
  .exact(StM.OkP.begin h k).go k _
theorem N2(c:Conf)(s:StM)(n:Nat):tickTo c s (n+1)=tickK c (tickTo c s n) n:=by
 unfold tickTo;rw[YQ,List.foldl_append];rfl
theorem StM.OkP.tickTo(h:s.Ok c):∀n,(tickTo c s n).1.Ok c
 |0=>h
 |n+1=>by rw[N2];exact StM.OkP.tickK (StM.OkP.tickTo h n) _ _
theorem StM.OkP.tick(h:s.Ok c):(D4 c s).Ok c:=h.tickTo _
theorem StM.OkP.set(h:s.Ok c)(k bV:Int):(Cw s k bV).Ok c:=by
 unfold Cw;split
 .rename_i a
  unfold Cd at a;split at a
  .exact absurd a xD
  .refine⟨h.may,h.rm,by show(s.bV.set _ _).length=_;rw[XG];exact h.kl,λx b=>?_,h.bl,h.bi,h.tl,h.ml,h.size,h.small,h.large,h.linj,h.mv,h.own,h.ps,h.pl⟩;rcases ZN b with b|rfl
   .exact h.kr x b
   .omega
 .exact h
end
structure I1(F:Nat->Prop)(w:dD)(R:Rm)(z:Nat):Prop where
 f:¬F z
 rb:R.rb≠z
 sb:R.sb≠z
 tb:1≠z
 ca:∀off s,R.p.ca≠some ⟨z,off,s⟩
 ka:∀off s,R.p.ka≠some ⟨z,off,s⟩
 lb:kd w z≠some (some 352)
 pg:kd w z≠some (some 348)
 int:kd w z=some (some 3)->R.xX z
theorem Zu.other(h:Zu F w R M)(hc:Xc S w w')(hS:∀z,S z->I1 F w R z):Zu F w' R M:=by
 have q:=hc.size;have out:∀{a:Option dF} {l:List Int},A5 F w a l->(∀z,S z -> ∀off s,a≠some ⟨z,off,s⟩)->A5 F w' a l:=λ{a l} g n=>⟨g.1.bW (λb off s e c=>n b c off s e) hc,g.2⟩;have pb:¬S R.P.pb:=λc=>(hS _ c).f (h.pf _ (.inl rfl));have ab:¬S R.P.ab:=λc=>(hS _ c).f (h.pf _ (.inr rfl));refine⟨h.ok,hc.heap h.obj (λc=>(hS _ c).rb rfl),out h.cL (λz c=>(hS z c).ca),out h.kee (λz c=>(hS z c).ka),h.may,λb o=>?_,λk i=>hc.cell (h.sl k i) (λc=>(hS _ c).sb rfl),h.pool.bR hc pb ab,h.pf,?_,h.lg.bR hc (λz c e=>.inr ((hS z e).int c)) (λc=>(hS _ c).f h.lf),h.lf,h.rf,h.sf,λz c=>xH (h.low z c),h.tab.bR hc (λc=>(hS _ c).tb rfl),h.tf,λz c=>⟨xH (h.xl z c).1,(h.xl z c).2⟩⟩
 .obtain⟨f,hm⟩:=h.met b o;exact⟨f,hc.heap hm.1 (λe=>(hS _ e).f f),hm.2⟩
 .obtain⟨G,a,e⟩:=h.sh;refine⟨G,λk x p=>?_,e⟩;obtain⟨f,d,j⟩:=a k x p;have nf:∀z,S z -> ¬Qn (R.S _) (G _) x.pg z:=λz c hf=>(hS z c).f (j z hf).1;exact⟨f,⟨d.ok,d.pos,d.of,d.at'.bR hc (λz c=>⟨λe=>nf z c (.inl e),λe=>nf z c (.inr (.inl e)),λe=>(hS z c).lb (e▸d.at'.kds.lb),λe=>nf z c (.inr (.inr (.inl e)))⟩) (λz c e m=>⟨λe'=>(hS z c).pg (e'▸(d.at'.bS e m).kds.p),λe'=>nf z c (.inr (.inr (.inr ⟨e,m,e'⟩)))⟩) (λc=>(hS _ c).tb rfl),d.pool.bR hc (by rw[f];exact pb) (by rw[f];exact ab)⟩,j⟩
theorem XoB{off:Nat}(h:off+m<=n):sub (X7 n) off m=List.replicate m 0:=by
 unfold sub X7;rw[List.drop_replicate,List.take_replicate,Nat.min_eq_left X]
theorem XoY(v:Vw)(vb:Nat)(A:Ar)(V:ArV)(i m:Nat)(w:dD)(hvb:He w vb v)(hv:w.heap[v.vb]?=some (.cells (N6 v).toArray 226 (0,0)))(hab:v.ab=A.ab)(hA:Zc w A V)(him:i+m<=V.bs.length):Xe prog 171 #[W i,W m,xV vb] w (λ_ w'=>Zc w' A {V.cT A m with bs:=Q8 V.bs i (List.replicate m 0)}/\Xc (Z4 A) w w'):=by
 refine aR func171 ntmps171 Y (bB hvb Y (bB hv Y ?_));rw[hab];refine aP Y (XiV A V i m 0 w hA him xD) ?_;rintro _ c ⟨rfl,a,b⟩;exact aN Y (bE func171 Y ⟨a,b⟩)
theorem XoX(v:Vw)(q:Plc)(at' n:Nat)(A:Ar)(V:ArV)(w:dD)(hv:Bq w v)(hq:Zw w q)(hmb:v.mb=A.mb)(hab:v.ab=A.ab)(hck:Qy v.c q at' n=0)(hfew:q.bS.length<=4096)(hPv:¬Z4 A v.vb)(hPq:0<q.bS.length->Xj (Z4 A) q.pa)(hPc:0<v.c.bT.length->Xj (Z4 A) v.p.ca)(hPk:0<v.c.bV.length->Xj (Z4 A) v.p.ka)(hA:Zc w A V)(hlen:(V.bs.length:Int)=v.c.size*v.c.bS):Xe prog 112 #[Gb v,.agg (Xw q).toArray,W at',W n] w (λu w'=>u=W 0/\Zc w' A (B4 q A V (Z1 v.c q at' n) (X7 n) (Z1 v.c q at' n).length)/\Xc (Z4 A) w w'):=by
 obtain⟨ps,c⟩:∃ps,ps=Z1 v.c q at' n:=⟨_,rfl⟩;have g:∀p∈ps,∃i m:Nat,p=((i:Int),(m:Int))/\i+m<=V.bs.length:=λp j=>by
  obtain⟨i,m,h1,h2⟩:=Sq hv.may hck hfew p (c▸j);exact⟨i,m,h1,X⟩
 have I:Zv ps=n:=by rw[c];exact Po hv.may
 have L:(X7 n).length=n:=XJ;rw[<-c];refine aR func112 ntmps112 Y (bC Y λvb w1 e1 M N a7=>bC Y λqb l e2 o F a8=>?_);replace o:Ji l qb q:=o;have r:=N.trans F;have s:He l vb v:=F.bP M;refine bB s Y (bB o Y ?_);have d:=foot_lt hA;have b:∀z,Y4 A z->Z4 A z:=λz h=>.inr h;have a9:=Xg hv.obj;have O:=Xde v q at' n 171 [xV vb] A (B4 q A V ps (X7 n))
  (λk xY x=>(∀z,xY z↔Z4 A z)/\He x vb v/\x.heap[v.vb]?=some (.cells (N6 v).toArray 226 (0,0))/\l.heap.size<=x.heap.size)
  (Z4 A) l (hv.bQ r) (hq.bQ r) hmb hck hfew
  (by rintro(h|h);exact hPv h;exact hPv (b _ h))
  (hq.rd.outNew hPq (λz a=>by rcases a with h|h;exact .inl h;exact .inl (b _ h)))
  (hv.cO.bT.outNew hPc (λz a=>by rcases a with h|h;exact .inl h;exact .inl (b _ h)))
  (hv.cO.bV.outNew hPk (λz a=>by rcases a with h|h;exact .inl h;exact .inl (b _ h)))
  (by
   rintro k xY x ⟨f,t,B,C⟩ z a;have:=d z ((f z).1 a);omega)
  (by
   rintro k xY x y S ⟨f,t,B,C⟩ J hS;have no:∀z,z<l.heap.size -> ¬Y4 A z -> ¬S z:=λz a hm h=>(hS z h).elim hm (λh=>X);exact⟨f,J.heap t (no _ X (λh=>xH (d _ (b _ h)))),J.heap B (no _ X (λh=>hPv (b _ h))),YB C J.size⟩)
  (by
   rintro k xY x D P ⟨f,t,B,C⟩;rw[<-c] at D;obtain⟨i,m,j,Q⟩:=g ps[k] (XL D);have G:(B6 q A (B4 q A V ps (X7 n) k)).bs=(B4 q A V ps (X7 n) k).bs:=Uf _ _ _;have K:(B4 q A V ps (X7 n) k).bs.length=V.bs.length:=Xdi g (by rw[L];exact I) X;have H:=Tm D;rw[j] at H;simp only[XA] at H;have hR:=XoY v vb A (B6 q A (B4 q A V ps (X7 n) k)) i m x t B hab P (by rw[G,K];exact Q);simp only[<-c];rw[j];refine hR.mono λ_ y ⟨R,E⟩=>?_;rw[G] at R;refine⟨by rw[Tp D j,XoB X];exact R,E.mono λz _ a=>(f z).2 a,xY,⟨f,?_,?_,YB C E.size⟩,λz a=>.inl a⟩
   .exact E.heap t (λh=>xH (d _ h))
   .exact E.heap B hPv)
  (hA.bQ r) ⟨λz=>Iff.rfl,s,r.bP hv.obj,XF _⟩
 rw[<-c] at O;refine aP Y (O) ?_;rintro _ w4 ⟨rfl,T,_,U⟩;refine aN rfl ?_;have a0:Xc (Z4 A) w w4:=r.gr.bU U (λz a h=>by rcases h with h|h;exact h;exact b _ h);exact Xa.ret1 Xb rfl func112 rfl rfl ⟨rfl,T,a0⟩
structure Sto where
 sb:Nat
 c:Conf
 p:Yz
 kb:Nat
 kc:Nat
 kr:List dE
 mb:Nat
 A:Ar
 R:Rm
 v:Vw
 tm:Nat
 vb:Nat
 vc:Nat
 G:Nat->Prop
abbrev Y6(S:Sto):dE:=.pointer (some ⟨S.sb,0,none⟩)
def Re(S:Sto)(nk nm:Nat)(by':Int):List dE:=X5 S.c S.p++[.slice (some ⟨S.kb,0,none⟩) nk S.kc,.pointer (some ⟨S.mb,0,none⟩),.pointer (some ⟨S.A.ab,0,none⟩),Ck S.R,Gb S.v,.map (some S.tm),.slice (some ⟨S.vb,0,none⟩) nm S.vc,.int .i64 by']
def Fi(size:Int)(q:Plc):List dE:=.int .i64 size::Xw q
abbrev Mo:=List (Option (Nat×MvM))
def Er:Option (Nat×MvM)->List dE
 |none=>[.pointer none,.int .i64 0,.int .i64 0,.int .i64 0,.int .i64 0,.int .i64 0]
 |some (b,m)=>[.pointer (some ⟨b,0,none⟩),.int .i64 m.who,.int .i64 m.pf,.int .i64 m.fa,.int .i64 m.pt,.int .i64 m.ta]
theorem XfG(x:Option (Nat×MvM)):(Er x).length=6:=by cases x <;> rfl
def Hy(mo:Mo):List (Option MvM):=mo.map λx=>x.map (·.2)
abbrev Fl(S:Sto)(s:StM):ArV:=⟨s.bs,s.rm.tot,S.R.dA⟩
abbrev Fu(b:Nat)(m:MvM):Mv:=⟨b,m.f,m.t,m.size⟩
structure Gf(G:Nat->Prop)(w:dD)(a:Option dF):Prop where
 i:∀b off s,a=some ⟨b,off,s⟩->kd w b=some (some 3)
 g:Xj G a
theorem Gf.bR{G S:Nat->Prop}{w w':dD}(h:Gf G w a)(hc:Xc S w w')(hS:Xj S a):Gf G w' a:=⟨λb off s e=>G6 hc (h.i b off s e) (hS b off s e),h.g⟩
theorem Gf.bQ{G:Nat->Prop}{w w':dD}(h:Gf G w a)(hc:Xc Xf w w'):Gf G w' a:=h.bR hc (λ_ _ _ _ h=>h)
def Rj(F G:Nat->Prop)(w:dD)(tm:Nat)(th:List (Option ThM))(al:AL):Prop:=Y7 w tm al/\(Bl al).Nodup/\
 (∀(o:Nat) t,th[o]?=some (some t) -> ∃q:Plc,Xz q=t.q/\Br al o=some (.agg (Fi t.size q).toArray)/\Zw w q/\Xj F q.pa/\Gf G w q.pa)/\(∀k:Int,(∀(o:Nat) t,th[o]?=some (some t)->(o:Int)≠k)->Br al k=none)/\∀z,G z->z<w.heap.size
def Hq(F G:Nat->Prop)(w:dD)(tm:Nat)(th:List (Option ThM)):Prop:=∃al,Rj F G w tm th al
theorem Hq.bW{F G S:Nat->Prop}{w w':dD}{tm:Nat}{th:List (Option ThM)}(h:Hq F G w tm th)(hc:Xc S w w')(hS:∀z,S z->F z)(hm:¬S tm):Hq F G w' tm th:=by
 obtain⟨al,a,b,d,e,f⟩:=h;have:=hc.size;exact⟨al,a.bR hc hm,b,λo t ht=>by
  obtain⟨q,i,j,g,c,k⟩:=d o t ht;exact⟨q,i,j,⟨g.rd.bW (c.mono hS) hc,g.len⟩,c,k.bR hc (c.mono hS)⟩,e,λz l=>xH (f z l)⟩
theorem Hq.wide{F G:Nat->Prop}{w:dD}(h:Hq F G w tm th)(hF:∀z,F' z->F z\/w.heap.size<=z):Hq F' G w tm th:=by
 obtain⟨al,a,b,d,e⟩:=h;exact⟨al,a,b,λo t ht=>by
  obtain⟨q,f,g,i,j,c⟩:=d o t ht;exact⟨q,f,g,i,λb off s e k=>(hF b k).elim (j b off s e) (λh=>xH (Eo (c.i b off s e))),c⟩,e⟩
structure Xs(F Fr:Nat->Prop)(w:dD)(S:Sto)(s:StM)(by':Int)(mo:Mo):Prop where
 obj:w.heap[S.sb]?=some (.cells (Re S s.bV.length s.mv.length by').toArray 159 (0,0))
 kee:w.heap[S.kb]?=some (.cells (s.bV.map (Value.int .i64)++S.kr).toArray 3 (0,0))
 kcap:s.bV.length<=S.kc
 cW:Zu Fr w S.R s.rm
 ar:Zc w S.A (Fl S s)
 vw:Bq w S.v
 th:Hq F S.G w S.tm s.th
 mvs:w.heap[S.vb]?=some (.cells (fl Er mo).toArray 214 (0,0))
 mvc:s.mv.length<=S.vc
 mom:Hy mo=s.mv
 mob:∀(k b:Nat) m,mo[k]?=some (some (b,m))->w.heap[b]?=some (.cells (Ph S.A (Fu b m) m.cE).toArray 288 (0,0))/\F b/\¬Fr b
 mdj:∀(j k b:Nat) m m',mo[j]?=some (some (b,m))->mo[k]?=some (some (b,m'))->j=k
 rc:S.R.c=S.c
 rp:S.R.p=S.p
 rmo:S.R.mo=some S.mb
 rX:S.R.xX=λz=>z=S.kb\/S.G z
 amb:S.A.mb=some S.mb
 vc:S.v.c=S.c
 vp:S.v.p=S.p
 vab:S.v.ab=S.A.ab
 vmb:S.v.mb=some S.mb
 f1:∀z,Fr z->F z
 f2:F S.sb/\F S.kb/\F S.A.db/\F S.tm/\F S.vb
 nr:¬Fr S.sb/\¬Fr S.kb/\¬Fr S.A.db/\¬Fr S.tm/\¬Fr S.vb
 nF:¬F S.A.ab/\¬F S.A.mc/\¬F S.v.vb/\¬F S.R.rb/\¬F S.R.sb/\¬F 1
 ca:A5 F w S.p.ca S.c.bT
 ka:A5 F w S.p.ka S.c.bV
 low:∀z,F z->z<w.heap.size
section
variable {F Fr:Nat->Prop}{w w':dD}{S:Sto}{s:StM}{by':Int}{mo:Mo}
theorem Xs.lt(h:Xs F Fr w S s by' mo):S.sb<w.heap.size/\S.kb<w.heap.size/\S.A.db<w.heap.size/\S.tm<w.heap.size/\S.vb<w.heap.size:=
 ⟨h.low _ h.f2.1,h.low _ h.f2.2.1,h.low _ h.f2.2.2.1,h.low _ h.f2.2.2.2.1,h.low _ h.f2.2.2.2.2⟩
theorem Hq.kd{G:Nat->Prop}(h:Hq F G w S.tm s.th):kd w S.tm=some none:=by
 obtain⟨al,a,_⟩:=h;exact Sb a
theorem Xs.mb(h:Xs F Fr w S s by' mo):F S.mb/\Fr S.mb/\Bi w S.mb s.rm.tot S.R.dA:=by
 obtain⟨a,b⟩:=h.cW.met _ h.rmo;exact⟨h.f1 _ a,a,b⟩
theorem Xs.ext(h:Xs F Fr w S s by' mo){z:Nat}{x:Option Nat}(hF:F z)(hn:¬Fr z)(hk:kd w z=some x)(hx:∀t,x=some t->t≠352/\t≠348/\t≠221/\(t=3->z=S.kb)):I1 Fr w S.R z:=by
 obtain⟨j,k,m,c,d,f⟩:=h.nF;have hm:=Zr h.cW.may;have bW:∀{a:Option dF} {l:List Int},A5 F w a l->0<l.length -> ∀off s,a≠some ⟨z,off,s⟩:=λg i off s e=>g.2 i z off s e hF;have b:=h.rc;refine⟨hn,λe=>c (e▸hF),λe=>d (e▸hF),λe=>f (e▸hF),?_,?_,λe=>?_,λe=>?_,λe=>?_⟩
 .rw[h.rp];exact bW h.ca (by rw[b] at hm;have:=hm.n;omega)
 .rw[h.rp];exact bW h.ka (by rw[b] at hm;have:=hm.bV;have:=hm.n;omega)
 .rw[hk] at e;exact(hx _ (Option.some.inj e)).1 rfl
 .rw[hk] at e;exact(hx _ (Option.some.inj e)).2.1 rfl
 .rw[hk] at e;rw[h.rX];exact .inl ((hx _ (Option.some.inj e)).2.2.2 rfl)
theorem Xs.ext'(h:Xs F Fr w S s by' mo){z:Nat}(hF:F z)(hn:¬Fr z)(hk:kd w z=some (some t))(ht:t≠352/\t≠348/\t≠221/\t≠3):I1 Fr w S.R z:=
 h.ext hF hn hk (λt' e=>by cases e;exact⟨ht.1,ht.2.1,ht.2.2.1,λe=>absurd e ht.2.2.2⟩)
theorem Xs.extMap(h:Xs F Fr w S s by' mo):I1 Fr w S.R S.tm:=h.ext h.f2.2.2.2.1 h.nr.2.2.2.1 h.th.kd (λt e=>by cases e)
theorem Xs.extKeep(h:Xs F Fr w S s by' mo):I1 Fr w S.R S.kb:=h.ext h.f2.2.1 h.nr.2.1 (X2 h.kee) (λt e=>by cases e;exact⟨xD,xD,xD,λ_=>rfl⟩)
theorem Xs.bQ(h:Xs F Fr w S s by' mo)(hc:Xc Xf w w'):Xs F Fr w' S s by' mo:=
 {h with
  obj:=hc.bP h.obj,kee:=hc.bP h.kee,cW:=h.cW.bQ hc,ar:=h.ar.bQ hc,vw:=h.vw.bQ hc,th:=h.th.bW hc (λ_ h=>h.elim) id,mvs:=hc.bP h.mvs,
  mob:=λk b m hm=>by obtain⟨a,d⟩:=h.mob k b m hm;exact⟨hc.bP a,d⟩,
  ca:=h.ca.bR hc (λ_ h=>h.elim),ka:=h.ka.bR hc (λ_ h=>h.elim),low:=λz c=>xI (h.low z c) hc.size}
structure Xar(F:Nat->Prop)(w:dD)(S:Sto)(z:Nat):Prop where
 f:¬F z
 e1:S.A.ab≠z/\S.A.mc≠z/\S.v.vb≠z/\S.R.rb≠z/\S.R.sb≠z/\1≠z
 ca:∀off s,S.p.ca≠some ⟨z,off,s⟩
 ka:∀off s,S.p.ka≠some ⟨z,off,s⟩
 kd:∃t,kd w z=some (some t)/\t≠352/\t≠348/\(t=3->S.G z)
def XiM(S:Nat->Prop)(w:dD)(tm:Nat):Prop:=∀al,Y7 w tm al -> ∀(k:Int) sz (q:Plc),Br al k=some (.agg (Fi sz q).toArray)->Xj S q.pa
theorem Xs.other{T:Nat->Prop}(h:Xs F Fr w S s by' mo)(hc:Xc T w w')(hT:∀z,T z->Xar F w S z)(ho:XiM T w S.tm):Xs F Fr w' S s by' mo:=by
 have nf:∀{z:Nat},F z -> ¬T z:=λhf ht=>(hT _ ht).f hf;have j:∀z,T z->I1 Fr w S.R z:=λz c=>by
  have e:=hT z c;obtain⟨t,p,v,x,y⟩:=e.kd;have d:∀{t':Nat},t≠t'->Go.Proofs.YtdeihcnepljjaaaGreatDoor.kd w z≠some (some t'):=λh e=>h (Option.some.inj (Option.some.inj (p.symm.trans e)));exact⟨λhf=>e.f (h.f1 z hf),e.e1.2.2.2.1,e.e1.2.2.2.2.1,e.e1.2.2.2.2.2,by rw[h.rp];exact e.ca,by rw[h.rp];exact e.ka,d v,d x,λe=>by rw[h.rX];exact .inr (y (Option.some.inj (Option.some.inj (p.symm.trans e))))⟩
 have bW:∀{a:Option dF} {l:List Int},A5 F w a l->(∀z,T z -> ∀off s,a≠some ⟨z,off,s⟩)->A5 F w' a l:=λg A=>⟨g.1.bW (λb off s e c=>A b c off s e) hc,g.2⟩;have r:Bq w' S.v:=⟨hc.heap h.vw.obj (λc=>(hT _ c).e1.2.2.1 rfl),by
  have:=h.vw.cO;rw[h.vc,h.vp] at this⊢;exact⟨this.bT.bW (λb off s e c=>(hT b c).ca off s e) hc,this.bV.bW (λb off s e c=>(hT b c).ka off s e) hc,this.lc,this.lk,this.size⟩,h.vw.may⟩
 refine {h with
  obj:=hc.heap h.obj (nf h.f2.1),kee:=hc.heap h.kee (nf h.f2.2.1),cW:=h.cW.other hc j,
  ar:=h.ar.bR hc (λb hb c=>?_),vw:=r,th:=?_,mvs:=hc.heap h.mvs (nf h.f2.2.2.2.2),
  mob:=λk b m hm=>by obtain⟨a,d⟩:=h.mob k b m hm;exact⟨hc.heap a (nf d.1),d⟩,
  ca:=bW h.ca (λz c=>(hT z c).ca),ka:=bW h.ka (λz c=>(hT z c).ka),low:=λz c=>xI (h.low z c) hc.size}
 .rcases hb with rfl|rfl|rfl|hb
  .exact(hT _ c).e1.1 rfl
  .exact nf h.f2.2.2.1 c
  .exact(hT _ c).e1.2.1 rfl
  .rw[h.amb] at hb;cases hb;exact nf h.mb.1 c
 .have i:=ho;obtain⟨al,a,b,d,e,f⟩:=h.th;have:=hc.size;exact⟨al,a.bR hc (nf h.f2.2.2.2.1),b,λo t ht=>by
   obtain⟨q,B,n,u,C,D⟩:=d o t ht;exact⟨q,B,n,⟨u.rd.bW (i al a _ _ _ n) hc,u.len⟩,C,D.bR hc (i al a _ _ _ n)⟩,e,λz c=>xH (f z c)⟩
theorem Xs.own(h:Xs F Fr w S s by' mo)(hc:Xc T w w')(hT:∀z,T z->F z/\I1 Fr w S.R z):Zu Fr w' S.R s.rm/\Bq w' S.v/\(¬T S.tm->Hq F S.G w' S.tm s.th)/\(¬T S.A.db->Zc w' S.A (Fl S s))/\A5 F w' S.p.ca S.c.bT/\A5 F w' S.p.ka S.c.bV/\(∀z,F z->z<w'.heap.size)/\Bi w' S.mb s.rm.tot S.R.dA:=by
 obtain⟨d,f,g,k,l,m⟩:=h.nF;have c:¬T S.mb:=λa=>(hT _ a).2.f h.mb.2.1;refine⟨h.cW.other hc (λz a=>(hT z a).2),⟨hc.heap h.vw.obj (λa=>g (hT _ a).1),?_,h.vw.may⟩,λhm=>h.th.bW hc (λz a=>(hT z a).1) hm,λi=>h.ar.bR hc (λb hb a=>?_),h.ca.bR hc (λz a=>(hT z a).1),h.ka.bR hc (λz a=>(hT z a).1),λz a=>xI (h.low z a) hc.size,h.mb.2.2.1|> λj=>⟨hc.heap j c,h.mb.2.2.2⟩⟩
 .have:=h.vw.cO;rw[h.vc,h.vp] at this⊢;exact⟨(h.ca.bR hc (λz a=>(hT z a).1)).1,(h.ka.bR hc (λz a=>(hT z a).1)).1,this.lc,this.lk,this.size⟩
 .rcases hb with rfl|rfl|rfl|hb
  .exact d (hT _ a).1
  .exact i a
  .exact f (hT _ a).1
  .rw[h.amb] at hb;cases hb;exact c a
end
variable {mo:Mo}
theorem Zu.charge2{F:Nat->Prop}{w w':dD}(h:Zu F w R M)(hb:R.mo=some b){t:Int}(hm:Bi w' b t R.dA)(hc:Xc T w w')(hT:∀z,T z->z=b\/I1 F w R z):Zu F w' R {M with tot:=t}:=by
 obtain⟨f,o⟩:=h.met b hb;have kb:=Nf o;have kp:=h.pool.kds;have y:=hc.size;have no:∀{z:Nat} {x:Option Nat},kd w z=some x->x≠some 240 -> ¬I1 F w R z -> ¬T z:=λi j r hz=>by
  rcases hT _ hz with e|e
  .subst e;rw[kb] at i;exact j (Option.some.inj i).symm
  .exact r e
 have mf:∀{z:Nat} {x:Option Nat},kd w z=some x->x≠some 240->F z -> ¬T z:=λi j hf=>no i j (λe=>e.f hf);have out:∀{a:Option dF} {l:List Int},A5 F w a l->(∀z,I1 F w R z -> ∀off s,a≠some ⟨z,off,s⟩)->A5 F w' a l:=λ{a l} g u=>by
  refine⟨?_,g.2⟩;by_cases v:0<l.length
  .exact g.1.bW (λb' off s e hz=>by
    rcases hT _ hz with e'|e'
    .subst e';exact g.2 v b' off s e f
    .exact u b' e' off s e) hc
  .have:l=[]:=YH X;subst this;exact Rd.nil _ _ _
 have rbn:¬T R.rb:=λhz=>(hT _ hz).elim (λe=>h.rf (e▸f)) (λe=>e.rb rfl);have sbn:¬T R.sb:=λhz=>(hT _ hz).elim (λe=>h.sf (e▸f)) (λe=>e.sb rfl);have tbn:¬T 1:=λhz=>(hT _ hz).elim (λe=>h.tf (e▸f)) (λe=>e.tb rfl);have pb:=mf kp.1 xD (h.pf _ (.inl rfl));have ab:=mf kp.2 xD (h.pf _ (.inr rfl));refine⟨{h.ok with tot:=by have:=hm.2;show 0<=t/\t<=4611686018427387904;omega},hc.heap h.obj rbn,out h.cL (λz e=>e.ca),out h.kee (λz e=>e.ka),h.may,λb' m=>?_,λk i=>hc.cell (h.sl k i) sbn,h.pool.bR hc pb ab,h.pf,?_,h.lg.bR hc (λz hz e=>(hT z e).elim (λe=>.inl (e▸f)) (λe=>.inr (e.int hz))) (mf (Il h.lg) xS h.lf),h.lf,h.rf,h.sf,λz hz=>xH (h.low z hz),h.tab.bR hc tbn,h.tf,λz hz=>⟨xH (h.xl z hz).1,(h.xl z hz).2⟩⟩
 .rw[hb] at m;cases m;exact⟨f,hm⟩
 .obtain⟨G,a,d⟩:=h.sh;refine⟨G,λk x j=>?_,d⟩;obtain⟨n,c,p⟩:=a k x j;have ap:=c.at'.apart kb xD;have nf:∀z,I1 F w R z -> ¬Qn (R.S _) (G _) x.pg z:=λz hz hf=>hz.f (p z hf).1;refine⟨n,⟨c.ok,c.pos,c.of,c.at'.bR hc (λz hz=>?_) (λz hz=>?_) tbn,c.pool.bR hc (by rw[n];exact pb) (by rw[n];exact ab)⟩,p⟩
  .rcases hT z hz with e|hz
   .subst e;exact ap.1
   .exact⟨λe=>nf z hz (.inl e),λe=>nf z hz (.inr (.inl e)),λe=>hz.lb (e▸c.at'.kds.lb),λe=>nf z hz (.inr (.inr (.inl e)))⟩
  .rcases hT z hz with e|hz
   .subst e;exact ap.2
   .exact λe q=>⟨λe'=>hz.pg (e'▸(c.at'.bS e q).kds.p),λe'=>nf z hz (.inr (.inr (.inr ⟨e,q,e'⟩)))⟩
section
variable {F Fr:Nat->Prop}{w w':dD}{S:Sto}{s:StM}{by':Int}{mo:Mo}
theorem Rj.put{G:Nat->Prop}{al:AL}(h:Rj F G w tm th al){qm:PlcM}(hq:Xz q=qm)(ho:o<th.length)(hm:Y7 w' tm (C1 al (o:Nat) (.agg (Fi size q).toArray)))(hc:Xc (λz=>z=tm) w w')(ht:F tm)(hp:Zw w q)(hF:Xj F q.pa)(hl:Gf G w q.pa):Hq F G w' tm (th.set o (some ⟨size,qm⟩)):=by
 obtain⟨A,l,m,n,p⟩:=h;have:=hc.size;have up:∀{q:Plc},Zw w q->Xj F q.pa->Zw w' q:=λa b=>⟨a.rd.bW (b.mono (S':=λz=>z=tm) λz e=>e▸ht) hc,a.len⟩;refine⟨_,hm,XbL l _ _,λd g c=>?_,λk j=>?_,λz r=>xH (p z r)⟩
 .rcases A3 c with⟨rfl,rfl⟩|⟨y,c⟩
  .exact⟨q,hq,by rw[Jv,bK rfl],up hp hF,hF,hl.bR hc (hF.mono (S':=λz=>z=tm) λz e=>e▸ht)⟩
  .obtain⟨s,t,u,v,i,x⟩:=m d g c;exact⟨s,t,by rw[Jv,bJ X];exact u,up v i,i,x.bR hc (i.mono (S':=λz=>z=tm) λz e=>e▸ht)⟩
 .have f:=j o _ (XH ho);rw[Jv,bJ (λe=>f e.symm)];refine n k λd g c=>?_;by_cases e:d=o
  .subst e;exact f
  .exact j d g (E0 e c)
theorem Rj.del{G:Nat->Prop}{al:AL}(h:Rj F G w tm th al)(hm:Y7 w' tm (Do al (o:Nat)))(hc:Xc (λz=>z=tm) w w')(ht:F tm):Hq F G w' tm (th.set o none):=by
 obtain⟨u,c,i,j,l⟩:=h;have:=hc.size;refine⟨_,hm,XfN c _,λb d a=>?_,λk m=>?_,λz n=>xH (l z n)⟩
 .rcases Kd a with⟨_,e,_⟩|⟨t,a⟩
  .cases e
  .obtain⟨p,q,r,g,f,s⟩:=i b d a;exact⟨p,q,by rw[Mk c,bJ X];exact r,⟨g.rd.bW (f.mono (S':=λz=>z=tm) λz e=>e▸ht) hc,g.len⟩,f,s.bR hc (f.mono (S':=λz=>z=tm) λz e=>e▸ht)⟩
 .rw[Mk c];by_cases e:k=(o:Nat)
  .rw[bK e]
  .rw[bJ e];refine j k λb d a=>?_;by_cases e1:b=o
   .subst e1;exact λh=>e h.symm
   .exact m b d (E0 e1 a)
theorem Xs.kds(h:Xs F Fr w S s by' mo):kd w S.sb=some (some 159)/\kd w S.kb=some (some 3)/\kd w S.A.db=some (some 5)/\kd w S.tm=some none/\kd w S.vb=some (some 214)/\kd w S.mb=some (some 240):=
 ⟨X2 h.obj,X2 h.kee,X2 h.ar.dat,h.th.kd,X2 h.mvs,X2 h.mb.2.2.1⟩
theorem Xs.objAt(h:Xs F Fr w S s by' mo)(hc:Xc T w w')(hT:∀(k b:Nat) m,mo[k]?=some (some (b,m)) -> ¬T b):∀(k b:Nat) m,mo[k]?=some (some (b,m))->w'.heap[b]?=some (.cells (Ph S.A (Fu b m) m.cE).toArray 288 (0,0))/\F b/\¬Fr b:=λk b m hm=>by
 obtain⟨x,y⟩:=h.mob k b m hm;exact⟨hc.heap x (hT k b m hm),y⟩
theorem Xs.kdm(h:Xs F Fr w S s by' mo){m:MvM}(hm:mo[k]?=some (some (b,m))):kd w b=some (some 288):=X2 (h.mob k b m hm).1
theorem Xs.setBy(h:Xs F Fr w S s by' mo){by2:Int}(hc:Xc (λz=>z=S.sb) w w')(ho:w'.heap[S.sb]?=some (.cells (Re S s.bV.length s.mv.length by2).toArray 159 (0,0))):Xs F Fr w' S s by2 mo:=by
 obtain⟨a,c,d,f,g,r⟩:=h.kds;obtain⟨i,j,l,n,o,p,q,_⟩:=h.own hc (λz e=>⟨e▸h.f2.1,e▸h.ext' h.f2.1 h.nr.1 a xD⟩);exact {h with obj:=ho,kee:=hc.heap h.kee (Xr c a xD),cW:=i,ar:=n (Xr d a xD),vw:=j,th:=l (Xr f a xS),mvs:=hc.heap h.mvs (Xr g a xD),mob:=h.objAt hc (λk b m hm=>Xr (h.kdm hm) a xD),ca:=o,ka:=p,low:=q}
theorem Xs.setKeep(h:Xs F Fr w S s by' mo)(hl:l.length=s.bV.length)(hc:Xc (λz=>z=S.kb) w w')(ho:w'.heap[S.kb]?=some (.cells (l.map W++S.kr).toArray 3 (0,0))):Xs F Fr w' S {s with bV:=l} by' mo:=by
 obtain⟨c,a,d,f,g,t⟩:=h.kds;obtain⟨i,j,n,o,p,q,r,_⟩:=h.own hc (λz e=>⟨e▸h.f2.2.1,e▸h.extKeep⟩);exact {h with obj:=by show w'.heap[S.sb]?=some (.cells (Re S l.length s.mv.length by').toArray _ _);rw[hl];exact hc.heap h.obj (Xr c a xD),kee:=ho,kcap:=by show l.length<=_;rw[hl];exact h.kcap,cW:=i,ar:=o (Xr d a xD),vw:=j,th:=n (Xr f a xS),mvs:=hc.heap h.mvs (Xr g a xD),mob:=h.objAt hc (λk b m hm=>Xr (h.kdm hm) a xD),ca:=p,ka:=q,low:=r}
theorem Xs.setTh(h:Xs F Fr w S s by' mo){th':List (Option ThM)}(hc:Xc (λz=>z=S.tm) w w')(ht:Hq F S.G w' S.tm th'):Xs F Fr w' S {s with th:=th'} by' mo:=by
 obtain⟨c,d,f,a,g,q⟩:=h.kds;obtain⟨i,j,r,l,n,o,p,_⟩:=h.own hc (λz e=>⟨e▸h.f2.2.2.2.1,e▸h.extMap⟩);exact {h with obj:=hc.heap h.obj (Xr c a xS),kee:=hc.heap h.kee (Xr d a xS),cW:=i,ar:=l (Xr f a xS),vw:=j,th:=ht,mvs:=hc.heap h.mvs (Xr g a xS),mob:=h.objAt hc (λk b m hm=>Xr (h.kdm hm) a xS),ca:=n,ka:=o,low:=p}
theorem XfC(mo:Mo)(k:Nat)(x:Option (Nat×MvM)):Hy (mo.set k x)=(Hy mo).set k (x.map (·.2)):=by unfold Hy;rw[ZW]
theorem Si{mo:Mo}{m:MvM}{x:Option (Nat×MvM)}(h:(mo.set k x)[j]?=some (some (b,m))):(j=k/\x=some (b,m)/\k<mo.length)\/(j≠k/\mo[j]?=some (some (b,m))):=Kd h
theorem Xs.mol(h:Xs F Fr w S s by' mo):mo.length=s.mv.length:=by rw[<-h.mom];unfold Hy;rw[XU]
theorem Xs.setMv(h:Xs F Fr w S s by' mo){x:Option (Nat×MvM)}(hc:Xc (λz=>z=S.vb) w w')(ho:w'.heap[S.vb]?=some (.cells (fl Er (mo.set k x)).toArray 214 (0,0)))(hx:∀b m,x=some (b,m)->w.heap[b]?=some (.cells (Ph S.A (Fu b m) m.cE).toArray 288 (0,0))/\F b/\¬Fr b/\∀(j:Nat) m',mo[j]?≠some (some (b,m'))):Xs F Fr w' S {s with mv:=s.mv.set k (x.map (·.2))} by' (mo.set k x):=by
 obtain⟨l,n,o,p,a,C⟩:=h.kds;obtain⟨q,r,t,u,v,y,A,_⟩:=h.own hc (λz e=>⟨e▸h.f2.2.2.2.2,e▸h.ext' h.f2.2.2.2.2 h.nr.2.2.2.2 a xD⟩);have f:(s.mv.set k (x.map (·.2))).length=s.mv.length:=XG;refine {h with obj:=by show w'.heap[S.sb]?=some (.cells (Re S s.bV.length (s.mv.set k (x.map (·.2))).length by').toArray _ _);rw[f];exact hc.heap h.obj (Xr l a xD),kee:=hc.heap h.kee (Xr n a xD),cW:=q,ar:=u (Xr o a xD),vw:=r,th:=t (Xr p a xS),mvs:=ho,mvc:=by show(s.mv.set k _).length<=_;rw[f];exact h.mvc,mom:=by rw[XfC,h.mom],mob:=λj b m hm=>?_,mdj:=λi j b m m' hi g=>?_,ca:=v,ka:=y,low:=A}
 .rcases Si hm with⟨_,e,_⟩|⟨_,hm⟩
  .obtain⟨c,d,B,_⟩:=hx b m e;exact⟨hc.heap c (Xr (X2 c) a xD),d,B⟩
  .obtain⟨c,d⟩:=h.mob j b m hm;exact⟨hc.heap c (Xr (X2 c) a xD),d⟩
 .rcases Si hi with⟨e1,e,_⟩|⟨_,gi⟩
  .rcases Si g with⟨e2,_,_⟩|⟨_,gj⟩
   .exact e1.trans e2.symm
   .exact absurd gj ((hx b m e).2.2.2 j m')
  .rcases Si g with⟨_,e,_⟩|⟨_,gj⟩
   .exact absurd gi ((hx b m' e).2.2.2 i m)
   .exact h.mdj i j b m m' gi gj
theorem Xs.adopt(h:Xs F Fr w S s by' mo)(hc:Xc Xf w w')(hb:w.heap.size<=b)(hb':b<w'.heap.size):Xs (λz=>F z\/z=b) Fr w' S s by' mo:=by
 have g:=h.bQ hc;obtain⟨f,i,j,l,n,o⟩:=h.nF;have d:∀z,(F z\/z=b)->F z\/w.heap.size<=z:=λz a=>a.elim .inl (λe=>.inr X);have c:=h.cW;have hm:=Zr c.may;have p:=Xg h.ar.obj;have q:=Xg h.ar.cap;have r:=Xg h.vw.obj;have t:=Xg c.obj;have u:S.R.sb<w.heap.size:=by have:=World.block_lt_of_cell? w _ (c.sl 0 (xI hm.n c.ok.n));exact this
 have v:1<w.heap.size:=by have:=World.block_lt_of_cell? w _ (c.tab 0 xD);exact this
 exact {g with
  th:=((h.th.wide d).bW hc (λ_ h=>h.elim) id),
  mob:=λk b' m hm=>by obtain⟨x,y,z⟩:=g.mob k b' m hm;exact⟨x,.inl y,z⟩,
  f1:=λz a=>.inl (h.f1 z a),f2:=⟨.inl h.f2.1,.inl h.f2.2.1,.inl h.f2.2.2.1,.inl h.f2.2.2.2.1,.inl h.f2.2.2.2.2⟩,
  nF:=⟨λa=>a.elim f X,λa=>a.elim i X,λa=>a.elim j X,λa=>a.elim l X,λa=>a.elim n X,λa=>a.elim o X⟩,
  ca:=(h.ca.bQ d).bR hc (λ_ h=>h.elim),ka:=(h.ka.bQ d).bR hc (λ_ h=>h.elim),low:=λz a=>a.elim (g.low z) X}
theorem Xs.arena(h:Xs F Fr w S s by' mo){t:Int}{mo2:Mo}(hc:Xc T w w')(hT:∀z,T z->z=S.A.db\/z=S.mb\/∃(k:Nat),∃m,mo[k]?=some (some (z,m)))(hd:w'.heap[S.A.db]?=some (.cells (bs.map (Value.int .u8)).toArray 5 (0,0)))(hl:bs.length=s.bs.length)(hb:Qo bs)(hm:Bi w' S.mb t S.R.dA)(hfl:fl Er mo2=fl Er mo)(hml:mo2.length=mo.length)(hmo:∀(k b:Nat) m,mo2[k]?=some (some (b,m))->w'.heap[b]?=some (.cells (Ph S.A (Fu b m) m.cE).toArray 288 (0,0))/\∃m0,mo[k]?=some (some (b,m0))):Xs F Fr w' S {s with bs:=bs,rm:={s.rm with tot:=t},mv:=Hy mo2} by' mo2:=by
 obtain⟨r,u,o,v,y,A⟩:=h.kds;obtain⟨B,C,D,L,M,N⟩:=h.nF;have c:∀z,T z->F z:=λz a=>by
  rcases hT z a with e|e|⟨k,m,e⟩
  .exact e▸h.f2.2.2.1
  .exact e▸h.mb.1
  .exact(h.mob k z m e).2.1
 have kT:∀{z:Nat} {x:Option Nat},kd w z=some x->x≠some 5->x≠some 240->x≠some 288 -> ¬T z:=λd E G H a=>by
  rcases hT _ a with e|e|⟨k,m,e⟩
  .subst e;rw[o] at d;exact E (Option.some.inj d).symm
  .subst e;rw[A] at d;exact G (Option.some.inj d).symm
  .have:=h.kdm e;rw[this] at d;exact H (Option.some.inj d).symm
 have p:=h.cW.charge2 h.rmo hm hc λz a=>by
  rcases hT z a with e|e|⟨k,m,e⟩
  .exact .inr (e▸h.ext' h.f2.2.2.1 h.nr.2.2.1 o xD)
  .exact .inl e
  .obtain⟨_,n,f⟩:=h.mob k z m e;exact .inr (h.ext' n f (h.kdm e) xD)
 have g:(Hy mo2).length=s.mv.length:=by unfold Hy;rw[XU,hml,h.mol]
 refine {h with
  obj:=by show w'.heap[S.sb]?=some (.cells (Re S s.bV.length (Hy mo2).length by').toArray _ _);rw[g];exact hc.heap h.obj (kT r xD xD xD),
  kee:=hc.heap h.kee (kT u xD xD xD),cW:=p,ar:=?_,vw:=?_,th:=h.th.bW hc c (kT v xS xS xS),
  mvs:=by rw[hfl];exact hc.heap h.mvs (kT y xD xD xD),mvc:=by show(Hy mo2).length<=_;rw[g];exact h.mvc,mom:=rfl,
  mob:=λk b m q=>by obtain⟨n,m0,f⟩:=hmo k b m q;exact⟨n,(h.mob k b m0 f).2⟩,
  mdj:=λi j b m m' hi I=>by obtain⟨_,m0,f⟩:=hmo i b m hi;obtain⟨_,J,K⟩:=hmo j b m' I;exact h.mdj i j b m0 J f K,
  ca:=h.ca.bR hc c,ka:=h.ka.bR hc c,low:=λz a=>xI (h.low z a) hc.size}
 .refine⟨?_,hd,hc.heap h.ar.cap (λa=>C (c _ a)),λb l=>?_,by show bs.length<=_;rw[hl];exact h.ar.len,hb⟩
  .have:=hc.heap h.ar.obj (λa=>B (c _ a));show w'.heap[S.A.ab]?=some (.cells #[.slice (some ⟨S.A.db,0,none⟩) bs.length bs.length,Xid S.A] _ _)
   rw[hl];exact this
  .rw[h.amb] at l;cases l;exact hm
 .refine⟨hc.heap h.vw.obj (λa=>D (c _ a)),?_,h.vw.may⟩;have:=h.vw.cO;rw[h.vc,h.vp] at this⊢;exact⟨(h.ca.bR hc c).1,(h.ka.bR hc c).1,this.lc,this.lk,this.size⟩
theorem Xs.arena'(h:Xs F Fr w S s by' mo){n:Int}(hc:Xc (Z4 S.A) w w')(ha:Zc w' S.A ⟨bs,Xu s.rm.tot n,S.R.dA⟩)(hl:bs.length=s.bs.length):Xs F Fr w' S (Y3 {s with bs:=bs} n) by' mo:=by
 have:=h.arena (bs:=bs) (t:=Xu s.rm.tot n) (mo2:=mo) hc (λz a=>a.elim .inl (λe=>.inr (.inl (by rw[h.amb] at e;exact(Option.some.inj e).symm)))) ha.dat hl ha.rng (ha.met _ h.amb) rfl rfl (λk b m hm=>⟨?_,m,hm⟩)
 .rw[h.mom] at this;exact this
 .have kk:=h.kdm hm;obtain⟨_,_,c,_,_,d⟩:=h.kds;refine hc.heap (h.mob k b m hm).1 ?_;rintro(e|e)
  .exact Xr kk c xD e
  .rw[h.amb] at e;cases e;exact Xr kk d xD rfl
theorem Xs.roomed{Fr':Nat->Prop}(h:Xs F Fr w S s by' mo)(hr:Zu Fr' w' S.R M)(hf:∀z,Fr' z->Fr z\/w.heap.size<=z)(hc:Xc Fr w w'):Xs (λz=>F z\/Fr' z) Fr' w' S {s with rm:=M} by' mo:=by
 obtain⟨l,n,o,A,B,C⟩:=h.nF;obtain⟨D,E,G,H,I⟩:=h.lt;obtain⟨p,q,r,t,u⟩:=h.nr;have f:∀z,(F z\/Fr' z)->F z\/w.heap.size<=z:=λz a=>a.elim .inl (λe=>(hf z e).imp (h.f1 z) id);have c:∀{z:Nat},¬Fr z->z<w.heap.size -> ¬Fr' z:=λj J a=>(hf _ a).elim j X;have nf:∀{z:Nat},¬F z->z<w.heap.size -> ¬(F z\/Fr' z):=λj J a=>(f _ a).elim j X;have d:=h.cW;have hm:=Zr d.may;have K:S.R.sb<w.heap.size:=by have:=World.block_lt_of_cell? w _ (d.sl 0 (xI hm.n d.ok.n));exact this
 have L:1<w.heap.size:=by have:=World.block_lt_of_cell? w _ (d.tab 0 xD);exact this
 have g:=(h.ca.bQ f).bR hc (λz a=>.inl (h.f1 z a));have i:=(h.ka.bQ f).bR hc (λz a=>.inl (h.f1 z a));exact {h with
  obj:=hc.heap h.obj p,kee:=hc.heap h.kee q,cW:=hr,
  ar:=⟨hc.heap h.ar.obj (λa=>l (h.f1 _ a)),hc.heap h.ar.dat r,hc.heap h.ar.cap (λa=>n (h.f1 _ a)),λb v=>by rw[h.amb] at v;cases v;exact(hr.met _ h.rmo).2,h.ar.len,h.ar.rng⟩,
  vw:=⟨hc.heap h.vw.obj (λa=>o (h.f1 _ a)),by
   have:=h.vw.cO;rw[h.vc,h.vp] at this⊢;exact⟨g.1,i.1,this.lc,this.lk,this.size⟩,h.vw.may⟩,
  th:=(h.th.wide f).bW hc (λz a=>.inl (h.f1 z a)) t,mvs:=hc.heap h.mvs u,
  mob:=λk b m hm=>by obtain⟨x,y,z⟩:=h.mob k b m hm;exact⟨hc.heap x z,.inl y,c z (h.low b y)⟩,
  f1:=λz a=>.inr a,f2:=⟨.inl h.f2.1,.inl h.f2.2.1,.inl h.f2.2.2.1,.inl h.f2.2.2.2.1,.inl h.f2.2.2.2.2⟩,
  nr:=⟨c p D,c q E,c r G,c t H,c u I⟩,
  nF:=⟨nf l (Xg h.ar.obj),nf n (Xg h.ar.cap),nf o (Xg h.vw.obj),nf A (Xg d.obj),nf B K,nf C L⟩,ca:=g,ka:=i,
  low:=λz a=>a.elim (λa=>xI (h.low z a) hc.size) (hr.low z)}
end
def Ej(F:Nat->Prop)(w w':dD)(S:Sto)(s:StM)(by':Int):Prop:=∃F' Fr' mo',Xs F' Fr' w' S s by' mo'/\(∀z,F' z->F z\/w.heap.size<=z)/\Xc F w w'
section
variable {F Fr:Nat->Prop}{w w' w'':dD}{S:Sto}{s:StM}{by':Int}{mo:Mo}
theorem Ej.of(h:Xs F Fr w' S s by' mo)(hc:Xc F w w'):Ej F w w' S s by':=⟨F,Fr,mo,h,λ_ h=>.inl h,hc⟩
theorem Ej.trans{F1:Nat->Prop}(hF:∀z,F1 z->F z\/w.heap.size<=z)(hc:Xc F w w')(h:Ej F1 w' w'' S s by'):Ej F w w'' S s by':=by
 obtain⟨i,d,f,a,b,c⟩:=h;refine⟨i,d,f,a,λz g=>?_,hc.bU c λz g j=>?_⟩
 .rcases b z g with h|h
  .exact hF z h
  .have:=hc.size;exact .inr X
 .rcases hF z j with h|h
  .exact h
  .omega
end
theorem XoH(c:Conf)(q:Plc)(bs:List Int)(at' m k:Nat):Yh c q bs at' (m+k)=Yh c q bs at' m++Yh c q bs (at'+m) k:=by
 unfold Yh;rw[List.range_add,XM,List.map_map]
 congr 1
 apply ZU
 intro i _;simp only[Function.comp];rw[YX]
theorem XcT{x:Nat}(h:x+m<=bs.length):sub bs x m=(List.range m).map λi=>bs.getD (x+i) 0:=by
 apply List.ext_getElem
 .rw[Hj h];simp
 .intro i a b;rw[Hj h] at a;simp only[YZ,List.getElem_range];have e:(sub bs x m)[i]?=some (bs.getD (x+i) 0):=by
   unfold sub;rw[Y2,bK a,List.getElem?_drop,XD (show x+i<bs.length by omega),XB,XD (show x+i<bs.length by omega)];rfl
  exact Option.some.inj ((XD _).symm.trans e)
theorem Xdk(hcl:q.cL=-1)(hsz:c.size=sz)(hi:at'%sz+i<sz):B5 c q (at'+i)=q.bS.getD (at'/sz) 0*c.size+((at'%sz:Nat):Int)+i:=by
 unfold B5;rw[bK hcl,show c.size.toNat=sz from by omega];have a:(at'+i)/sz=at'/sz:=by
  have d:=YG at' sz;apply Nat.div_eq_of_lt_le
  .rw[YJ];omega
  .rw[Nat.add_mul,Nat.one_mul,YJ];omega
 have hm:(at'+i)%sz=at'%sz+i:=by
  have f:=YG at' sz;have b:=YG (at'+i) sz;rw[a] at b;omega
 rw[a,hm];omega
theorem Xl6(hcl:q.cL=-1)(hsz:c.size=sz)(hp:1<=sz):∀(n at':Nat),(∀i,i<n->0<=B5 c q (at'+i)/\B5 c q (at'+i)<bs.length) ->
 Eb bs ((Z2 at' n sz).map λs=>(q.bS.getD s.1 0*c.size+s.2.1,(s.2.2:Int)))=Yh c q bs at' n:=by
 intro n
 induction n using QS with
 |_ n ih=>
  intro at' b;by_cases l:n=0
  .subst l;rfl
  .have d:=Ko (at':=at') hp (show 0<n by omega);have o:=YW at' (show 0<sz by omega);rw[L7 hp X,ZL];obtain⟨m,hm⟩:∃m,m=min n (sz-at'%sz):=⟨_,rfl⟩;have h:Dq at' n sz=(at'/sz,at'%sz,m):=by unfold Dq;rw[hm]
   rw[h,<-hm];rw[<-hm] at d;have j:=b 0 X;have a:=b (m-1) X;rw[Xdk hcl hsz X] at j a;obtain⟨x,f⟩:=XE (show 0<=q.bS.getD (at'/sz) 0*c.size+((at'%sz:Nat):Int) by omega);rw[f] at a;have g:sub bs x m=Yh c q bs at' m:=by
    rw[XcT X];unfold Yh;apply ZU
    intro i hi;rw[List.mem_range] at hi;rw[Xdk hcl hsz X,f]
    congr 1
   have k:n=m+(n-m):=X
   conv=>rhs;rw[k]
   rw[XoH,<-g,<-(ih (n-m) X (at'+m) (λi hi=>by rw[YX];exact b (m+i) X))];unfold Eb;rw[ZV];simp only
   rw[f];rfl
theorem Xl8(hm:Xy c=true)(hck:Qy c q at' n=0)(hlen:(bs.length:Int)=c.size*c.bS):Eb bs (Z1 c q at' n)=Yh c q bs at' n:=by
 obtain⟨o,p,r⟩:=Ea hm;obtain⟨f,_,_,m⟩:=Ue hck;have d:∀i,i<n->0<=B5 c q (at'+i)/\B5 c q (at'+i)<bs.length:=λi hi=>by
  have:=Xdj (i:=at'+i) hm f X;omega
 unfold Z1;by_cases a:q.cL=-1
 .rw[bK a];obtain⟨sz,g⟩:=XE (show 0<=c.size by omega);rw[show c.size.toNat=sz from by omega];exact Xl6 a g X n at' d
 .rw[bJ a];unfold Eb;simp only[ZV,List.flatMap_nil,QR,XA];by_cases j:n=0
  .subst j;simp[sub,Yh]
  .have k:=d 0 X;have l:=d (n-1) X;have b:∀i,B5 c q (at'+i)=Aj c q+at'+i:=λi=>by unfold B5;rw[bJ a];omega
   rw[b] at k l;obtain⟨x,h⟩:=XE (show 0<=Aj c q+(at':Int) by omega);rw[h,XA,XcT X];unfold Yh;apply ZU
   intro i _;rw[b,h]
   congr 1
theorem Xoc(hp:1<=sz):∀(n at' k:Nat) (h:k<(Z2 at' n sz).length),(Z2 at' n sz)[k].1*sz+(Z2 at' n sz)[k].2.1=at'+(((Z2 at' n sz).take k).map λs=>s.2.2).sum:=by
 intro n
 induction n using QS with
 |_ n ih=>
  intro at' k h;by_cases b:n=0
  .subst b;simp[Tj] at h
  .have c:=Ko (at':=at') hp (show 0<n by omega);have f:=YG at' sz;have a:=L7 (at':=at') hp (show 0<n by omega);cases k with
   |zero=>
    simp only[a,List.getElem_cons_zero,List.take_zero,List.map_nil,List.sum_nil];unfold Dq;simp only
    rw[YJ];omega
   |succ k=>
    have d:k<(Z2 (at'+min n (sz-at'%sz)) (n-min n (sz-at'%sz)) sz).length:=by rw[a] at h;simpa using h
    have:=ih _ X _ k d;simp only[a,List.getElem_cons_succ,List.take_succ_cons,ZL,QJ];rw[this];unfold Dq;simp only
    omega
theorem XlK(hm:Xy c=true)(hk:k<(Z1 c q at' n).length)(hp:(Z1 c q at' n)[k]=((i:Int),(m:Int))):∀j,j<m->B5 c q (at'+(Zv ((Z1 c q at' n).take k)+j))=(i:Int)+j:=by
 obtain⟨z,B,C⟩:=Ea hm;intro j D;by_cases b:q.cL=-1
 .obtain⟨sz,l⟩:=XE (show 0<=c.size by omega);have a:Z1 c q at' n=(Z2 at' n sz).map λs=>(q.bS.getD s.1 0*c.size+s.2.1,(s.2.2:Int)):=by unfold Z1;rw[bK b,show c.size.toNat=sz from by omega]
  have h:k<(Z2 at' n sz).length:=by rw[a,XU] at hk;exact hk
  have f:=Xoc (sz:=sz) X n at' k h;obtain⟨o,p,r,y⟩:=XcK (cR:=sz) X n at' _ (XL h);have t:Zv ((Z1 c q at' n).take k)=(((Z2 at' n sz).take k).map λs=>s.2.2).sum:=by
   unfold Zv;rw[a,<-As,List.map_map];rfl
  have u:(q.bS.getD (Z2 at' n sz)[k].1 0*c.size+((Z2 at' n sz)[k].2.1:Int),((Z2 at' n sz)[k].2.2:Int))=((i:Int),(m:Int)):=by
   rw[<-hp];simp only[a,YZ]
  obtain⟨e1,e2⟩:=Prod.mk.inj u;rw[t,<-YX,<-f];obtain⟨s,v⟩:∃s,s=(Z2 at' n sz)[k]:=⟨_,rfl⟩;rw[<-v] at e1 e2 o p r⊢
  clear v f y
  obtain⟨N,A,L⟩:=s;simp only at e1 e2 o p r⊢
  have d:(N*sz+A)%sz=A:=by rw[YJ,Nat.mul_add_mod];exact Nat.mod_eq_of_lt X
  have g:(N*sz+A)/sz=N:=by rw[YJ,Nat.mul_add_div X,Nat.div_eq_of_lt X];rfl
  rw[Xdk b l (by rw[d];omega),d,g];omega
 .have a:Z1 c q at' n=[(Aj c q+at',(n:Int))]:=by unfold Z1;rw[bJ b]
  have w:k=0:=by rw[a] at hk;simpa using hk
  subst w;have x:(Aj c q+(at':Int),(n:Int))=((i:Int),(m:Int)):=by rw[<-hp];simp only[a];rfl
  obtain⟨e1,e2⟩:=Prod.mk.inj x;unfold B5;rw[bJ b];simp only[List.take_zero,Zv,List.map_nil,List.sum_nil];omega
theorem Xfh{c:Conf}{q:Plc}{bs l:List Int}{at' off i m:Nat}(him:i+m<=bs.length)(hol:off+m<=l.length)(hw:∀j,j<m->B5 c q (at'+(off+j))=(i:Int)+j):∀j,j<=m->Ac c q bs at' l (off+j)=Eu (Ac c q bs at' l off) i (sub l off m) j
 |0,_=>by rw[XbX];rfl
 |j+1,h=>by
  have a:(sub l off m).length=m:=Hj hol;have ih:=Xfh him hol hw j X;have b:(sub l off m).getD j 0=l.getD (off+j) 0:=by
   rw[XcT hol,XB,XO,List.getElem?_range X];rfl
  rw[<-XbW (by rw[a,Ks];exact him) (by rw[a];omega),b,<-ih];show(Ac c q bs at' l (off+j)).set (B5 c q (at'+(off+j))).toNat (l.getD (off+j) 0)=_
  rw[hw j X];rfl
theorem Xik{c:Conf}{q:Plc}{A:Ar}{V:ArV}{at':Nat}{l:List Int}(hm:Xy c=true)(hck:Qy c q at' l.length=0)(hfew:q.bS.length<=4096)(hlen:(V.bs.length:Int)=c.size*c.bS):∀k,k<=(Z1 c q at' l.length).length->(B4 q A V (Z1 c q at' l.length) l k).bs=Ac c q V.bs at' l (Zv ((Z1 c q at' l.length).take k))
 |0,_=>rfl
 |k+1,h=>by
  have a:k<(Z1 c q at' l.length).length:=h;obtain⟨i,m,b,o⟩:=Sq hm hck hfew _ (XL a);have ih:=Xik (A:=A) hm hck hfew hlen k X;have n:Zv (Z1 c q at' l.length)=l.length:=Po hm;have d:=Tm a;rw[b] at d;simp only[XA] at d;have g:Zv ((Z1 c q at' l.length).take (k+1))=Zv ((Z1 c q at' l.length).take k)+m:=by
   rw[ZI,XD a,b,Xah];simp[Zv]
  have j:i+m<=V.bs.length:=X
  have f:Zv ((Z1 c q at' l.length).take k)+m<=l.length:=X
  rw[Tp a b,g,Xfh j f (XlK hm a b) m (XF _)];show Q8 _ i (sub l _ m)=_
  rw[ih];have:=Xf2 (bs:=Ac c q V.bs at' l (Zv ((Z1 c q at' l.length).take k))) (l:=sub l (Zv ((Z1 c q at' l.length).take k)) m) (i:=i);rw[Hj f] at this;exact this.symm
theorem Xil(hm:Xy c=true)(hck:Qy c q at' l.length=0)(hfew:q.bS.length<=4096)(hlen:(V.bs.length:Int)=c.size*c.bS):(B4 q A V (Z1 c q at' l.length) l (Z1 c q at' l.length).length).bs=Ac c q V.bs at' l l.length:=by
 rw[Xik hm hck hfew hlen _ (XF _),ZM,Po hm]
theorem Cs{t m:Int}(h:0<=t/\0<=m/\t+m<=4611686018427387904):Xu t m=t+m:=by unfold Xu;split <;> omega
def Fo(q:Plc)(k:Nat):Int:=if q.cL=-1 then (k:Int) else 0
theorem XbZ(hm:Xy c=true):((Zv (Z1 c q at' n):Nat):Int)+Fo q (Z1 c q at' n).length=Zb c q at' n:=by
 rw[Po hm];unfold Fo Zb Z1;by_cases a:q.cL=-1
 .rw[bK a,bK a,bK a,XU]
 .rw[bJ a,bJ a]
theorem Ud{t a b:Int}(h:0<=t/\t<=4611686018427387904)(ha:0<=a)(hb:0<=b):Xu (Xu t a) b=Xu t (a+b):=by
 unfold Xu;split <;> split <;> split <;> omega
theorem Oq(t:Int):Xu t 0=t:=by unfold Xu;rw[bK X]
theorem Rr{n:Int}(hb:A.mb=some b):(V.cT A n).total=Xu V.total n:=by unfold ArV.cT;rw[hb]
theorem Xee(hb:A.mb=some b):(B6 q A V).total=Xu V.total (Fo q 1):=by
 unfold B6 Fo;split
 .exact Rr hb
 .rw[Oq]
theorem Xef:(B6 q A V).dA=V.dA:=by unfold B6;split;exact V.charge_lap A _;rfl
theorem XdW(q:Plc)(k:Nat):Fo q (k+1)=Fo q k+Fo q 1/\0<=Fo q k/\0<=Fo q 1:=by unfold Fo;split <;> omega
theorem Xh7{ps:List (Int×Int)}(hk:k<ps.length)(hp:ps[k]=((i:Int),(m:Int))):Zv (ps.take (k+1))=Zv (ps.take k)+m:=by
 rw[ZI,XD hk,hp,Xah];simp[Zv]
theorem Xig{q:Plc}{A:Ar}{V:ArV}{ps:List (Int×Int)}{b:Nat}(hb:A.mb=some b)(hps:∀p∈ps,∃i m:Nat,p=((i:Int),(m:Int)))(hV:0<=V.total/\V.total<=4611686018427387904):∀k,k<=ps.length->(I0 q A V ps k).total=Xu V.total (Zv (ps.take k)+Fo q k)/\(I0 q A V ps k).dA=V.dA
 |0,_=>by
  have e:((Zv (ps.take 0):Nat):Int)+Fo q 0=0:=by unfold Fo;simp[Zv]
  rw[e,Oq];exact⟨rfl,rfl⟩
 |k+1,h=>by
  have a:k<ps.length:=h;obtain⟨i,m,c⟩:=hps _ (XL a);obtain⟨d,f⟩:=Xig (q:=q) hb hps hV k X;obtain⟨g,l,j⟩:=XdW q k;rw[Xih a,c];simp only
  rw[ArV.charge_lap,Xef,Rr hb,Xee hb,d,Ud hV X j,Ud hV X X,Xh7 a c,g];exact⟨by congr 1;omega,f⟩
theorem Xdh{q:Plc}{A:Ar}{V:ArV}{ps:List (Int×Int)}{l:List Int}{b:Nat}(hb:A.mb=some b)(hps:∀p∈ps,∃i m:Nat,p=((i:Int),(m:Int)))(hV:0<=V.total/\V.total<=4611686018427387904):∀k,k<=ps.length->(B4 q A V ps l k).total=Xu V.total (Zv (ps.take k)+Fo q k)/\(B4 q A V ps l k).dA=V.dA
 |0,_=>by
  have e:((Zv (ps.take 0):Nat):Int)+Fo q 0=0:=by unfold Fo;simp[Zv]
  rw[e,Oq];exact⟨rfl,rfl⟩
 |k+1,h=>by
  have a:k<ps.length:=h;obtain⟨i,m,c⟩:=hps _ (XL a);obtain⟨d,f⟩:=Xdh (q:=q) (l:=l) hb hps hV k X;obtain⟨g,n,j⟩:=XdW q k;rw[Tp a c];show((B6 q A (B4 q A V ps l k)).cT A m).total=_/\((B6 q A (B4 q A V ps l k)).cT A m).dA=_
  rw[ArV.charge_lap,Xef,Rr hb,Xee hb,d,Ud hV X j,Ud hV X X,Xh7 a c,g];exact⟨by congr 1;omega,f⟩
theorem ArV.eq{t l:Int}(h1:V.bs=bs)(h2:V.total=t)(h3:V.dA=l):V=⟨bs,t,l⟩:=by cases V;cases h1;cases h2;cases h3;rfl
theorem Kk{c:Conf}{i n:Int}(hv:Ym c q=true)(hi:0<=i)(hn:0<=n)(h:i+n<=Zt c q):Qy c q i n=0:=by
 unfold Qy;rw[bJ (by rw[hv];decide),bJ X]
section
variable {F Fr:Nat->Prop}{w w':dD}{S:Sto}{s:StM}{by':Int}{mo:Mo}{pd:Option (Nat×PlcM)}
theorem Xs.footF(h:Xs F Fr w S s by' mo):∀z,Z4 S.A z->F z:=λz a=>by
 rcases a with e|e
 .exact e▸h.f2.2.2.1
 .rw[h.amb] at e;cases e;exact h.mb.1
theorem Xs.tot(h:Xs F Fr w S s by' mo):0<=s.rm.tot/\s.rm.tot<=4611686018427387904:=h.cW.ok.tot
theorem Xs.vwf(h:Xs F Fr w S s by' mo):¬Z4 S.A S.v.vb/\(0<S.v.c.bT.length->Xj (Z4 S.A) S.v.p.ca)/\(0<S.v.c.bV.length->Xj (Z4 S.A) S.v.p.ka):=by
 refine⟨λb=>h.nF.2.2.1 (h.footF _ b),λa=>?_,λa=>?_⟩
 .rw[h.vc] at a;rw[h.vp];exact(h.ca.2 a).mono h.footF
 .rw[h.vc] at a;rw[h.vp];exact(h.ka.2 a).mono h.footF
theorem Xb0{c:Conf}(hm:Xy c=true)(hck:Qy c q i n=0)(hfew:q.bS.length<=4096):∀p∈Z1 c q i n,∃a b:Nat,p=((a:Int),(b:Int)):=λp d=>by
 obtain⟨a,b,e,_⟩:=Sq hm hck hfew p d;exact⟨a,b,e⟩
theorem XhE(h:Xs F Fr w S s by' mo)(hm:Xy S.c=true)(hbl:(s.bs.length:Int)=S.c.size*S.c.bS)(q:Plc)(i:Nat)(a:Option dF)(cap:Nat)(l:List Int)(hq:Zw w q)(hF:Xj F q.pa)(hck:Qy S.c q i l.length=0)(hfew:q.bS.length<=4096)(hr:Rd .u8 w a l)(hlc:l.length<=cap)(hin:Qo l)(hout:0<l.length->Xj F a):Xe prog 109 #[Gb S.v,.agg (Xw q).toArray,W i,.slice a l.length cap] w (λu w'=>u=W 0/\Xs F Fr w' S (Yk S.c s (Xz q) i l) by' mo/\Xc F w w'):=by
 obtain⟨f,g,j⟩:=h.vwf;have ec:=h.vc;refine(XoV S.v q i a cap l S.A (Fl S s) w h.vw hq (h.vmb.trans h.amb.symm) h.vab (by rw[ec];exact hck) hfew f (λ_=>hF.mono h.footF) g j h.ar (by rw[ec];exact hbl) hr hlc hin (λk=>(hout k).mono h.footF)).mono λu w' ⟨e,b,c⟩=>⟨e,?_,c.mono λz _ m=>h.footF z m⟩;rw[ec] at b;obtain⟨d,o⟩:=Xdh (q:=q) (V:=Fl S s) (l:=l) h.amb (Xb0 hm hck hfew) h.tot _ (XF _);rw[ZM,XbZ hm] at d;rw[(ArV.eq (Xil (A:=S.A) (V:=Fl S s) hm hck hfew hbl) d o),Ni,Jx] at b;exact h.arena' (bs:=Ac S.c (Xz q).cQ s.bs i l l.length) (n:=Zb S.c (Xz q).cQ i l.length) c b (Ks _ _ _ _ _ _)
theorem Fj(n:Nat):(X7 n).length=n:=by unfold X7;rw[XJ]
theorem XhF(h:Xs F Fr w S s by' mo)(hm:Xy S.c=true)(hbl:(s.bs.length:Int)=S.c.size*S.c.bS)(q:Plc)(i n:Nat)(hq:Zw w q)(hF:Xj F q.pa)(hck:Qy S.c q i n=0)(hfew:q.bS.length<=4096):Xe prog 112 #[Gb S.v,.agg (Xw q).toArray,W i,W n] w (λu w'=>u=W 0/\Xs F Fr w' S (Yk S.c s (Xz q) i (X7 n)) by' mo/\Xc F w w'):=by
 obtain⟨g,j,k⟩:=h.vwf;have ec:=h.vc;have a:=Fj n;refine(XoX S.v q i n S.A (Fl S s) w h.vw hq (h.vmb.trans h.amb.symm) h.vab (by rw[ec];exact hck) hfew g (λ_=>hF.mono h.footF) j k h.ar (by rw[ec];exact hbl)).mono λu w' ⟨e,b,c⟩=>⟨e,?_,c.mono λz _ a=>h.footF z a⟩;rw[ec] at b;obtain⟨d,m⟩:=Xdh (q:=q) (V:=Fl S s) (l:=X7 n) h.amb (Xb0 hm hck hfew) h.tot _ (XF _);rw[ZM,XbZ hm] at d;have f:=Xil (A:=S.A) (V:=Fl S s) (l:=X7 n) (q:=q) (at':=i) hm (by rw[a];exact hck) hfew hbl;rw[a] at f;rw[(ArV.eq f d m),Ni,Jx] at b;have:=h.arena' (bs:=Ac S.c (Xz q).cQ s.bs i (X7 n) n) (n:=Zb S.c (Xz q).cQ i n) c b (Ks _ _ _ _ _ _);unfold Yk;rw[a];exact this
theorem XhD(h:Xs F Fr w S s by' mo)(hm:Xy S.c=true)(hbl:(s.bs.length:Int)=S.c.size*S.c.bS)(q:Plc)(i n:Nat)(hq:Zw w q)(hF:Xj F q.pa)(hck:Qy S.c q i n=0)(hfew:q.bS.length<=4096):Xe prog 107 #[Gb S.v,.agg (Xw q).toArray,W i,W n] w (λu w'=>∃u1,u=.tuple #[u1,W 0]/\Xs F Fr w' S (Y3 s (Zb S.c (Xz q).cQ i n)) by' mo/\Xc (Z4 S.A) w w'/\
  Xm w.heap.size 5 1 w' u1 n ((Yh S.c (Xz q).cQ s.bs i n).map (Value.int .u8))):=by
 obtain⟨j,k,l⟩:=h.vwf;have ec:=h.vc;have mF:∀z,Y4 S.A z->Z4 S.A z:=λz a=>.inr a;refine(XoT S.v q i n S.A (Fl S s) w h.vw hq (h.vmb.trans h.amb.symm) h.vab (by rw[ec];exact hck) hfew (λa=>j (mF _ a)) (λ_=>(hF.mono h.footF).mono mF) (λb=>(k b).mono mF) (λb=>(l b).mono mF) h.ar (by rw[ec];exact hbl)).mono λu w' ⟨u1,e,c,f,d⟩=>⟨u1,e,?_,f.mono λz _ a=>mF z a,?_⟩
 .rw[ec] at c;obtain⟨g,m⟩:=Xig (q:=q) (V:=Fl S s) h.amb (Xb0 hm hck hfew) h.tot _ (XF _);rw[ZM,XbZ hm] at g;rw[(ArV.eq (Xdg q S.A (Fl S s) (Z1 S.c q i n) _) g m),Jx] at c;exact h.arena' (bs:=s.bs) (n:=Zb S.c (Xz q).cQ i n) (f.mono λz _ a=>mF z a) c rfl
 .rw[ec,Xl8 hm hck hbl] at d;have e:(Yh S.c q s.bs i n).length=n:=by unfold Yh;rw[XU,ZK]
  rw[e,Xc7] at d;exact d
end
theorem Xk3{n q:Int}(hn:1<=n)(hq:1<=q):n<=Zj n q*q:=by
 have a:=Int.emod_add_mul_ediv (n-1) q;have:=Int.emod_lt_of_pos (n-1) (show 0<q by omega);have e:Zj n q=(n-1)/q+1:=by unfold Zj;rw[bJ X]
 rw[e,QG,QO,YK ((n-1)/q) q];omega
section
variable {c:Conf}{s:StM}{pd:Option (Nat×PlcM)}
theorem Xbx:∀{l:List (Nat×List Nat)} {e:Nat×List Nat},e∈l->e.2.length+1<=Ep l
 |a::l,e,h=>by
  have b:Ep (a::l)=(a.2.length+1)+Ep l:=by unfold Ep;simp
  rcases ZC.1 h with rfl|h
  .omega
  .have:=Xbx h;omega
theorem XkO(h:s.OkP c pd){r:List Nat}(hm:(n,r)∈s.rm.lg):(∀m∈r,(m:Int)<c.bS)/\r.length<=1024:=by
 have g:=h.rm.ok.own;have a:=h.rm.cU.cV;refine⟨λm b=>?_,?_⟩
 .have:=(h.rm.ok.lg m (Jb hm (YA _ b))).1;omega
 .have d:=Xbx hm;have f:=h.rm.ok.sum;have i:=a.many;have j:=a.len;unfold Zd at f;simp only at d
  omega
theorem Xkz(h:s.OkP c pd){r:List Nat}(hm:(n,r)∈s.rm.lg)(hs:1<=size)(hr:(r.length+1:Int)=Zl size c.size):Ym c (PlcM.mk (-1) (n:Nat) 0 (X3 r)).cQ=true/\size<=Zt c (PlcM.mk (-1) (n:Nat) 0 (X3 r)).cQ/\(X3 r).length<=4096:=by
 obtain⟨g,l⟩:=XkO h hm;have i:1<=c.size:=xH (Ea h.may).1
 have a:=Xk3 hs i;have k:1<=Zj size c.size:=by
  have o:0<=(size-1)/c.size:=ZY X X;unfold Zj;rw[bJ X];omega
 have e:(r.length:Int)=Zj size c.size:=by
  unfold Zl at hr;split at hr <;> omega
 have j:=De r;have b:Ym c (PlcM.mk (-1) (n:Nat) 0 (X3 r)).cQ=true:=by
  unfold Ym PlcM.cQ;show(if (-1:Int)=-1 then (decide (0<(X3 r).length) && !(X3 r).any λn=>!Bt n c.bS) else _)=true
  rw[bK rfl,XI];refine⟨bN X,?_⟩;rw[Bool.not_eq_true',QI];intro x d;unfold X3 at d;obtain⟨m,f,rfl⟩:=XP.1 d;have:=g m f;rw[Nb.2 X]
  decide
 refine⟨b,?_,X⟩;unfold Zt;rw[bK b];show size<=if (-1:Int)=-1 then ((X3 r).length:Int)*c.size else _
 rw[bK rfl,j,e];exact a
theorem Xn9(h:s.OkP c pd){k n a:Int}(ho:Zi s.rm k n a≠-1):Ym c (PlcM.mk k n a []).cQ=true/\Zt c (PlcM.mk k n a []).cQ=Zn c k:=by
 obtain⟨b,d,_⟩:=Pm h ho;refine⟨b,?_⟩;unfold Zt;rw[bK (show Ym c (PlcM.mk k n a []).cQ=true from b)];show(if k=-1 then _ else Zn c k)=_
 rw[bJ X]
theorem XlM(hp:Xl c.bT size=(k:Nat)):size<=Zn c k:=by
 unfold Zn;rw[XA];exact Xf6 hp
theorem Jg(h:s.OkP c pd){t:ThM}(ht:s.th[o]?=some (some t)):Ym c t.q.cQ=true/\t.size<=Zt c t.q.cQ/\t.q.bS.length<=4096:=by
 by_cases d:Xl c.bT t.size=-1
 .obtain⟨n,r,f,b,g⟩:=h.large o t ht d;rw[b];exact Xkz h f (h.size o t ht).1 g
 .obtain⟨f,b,g⟩:=h.small o t ht d;obtain⟨m,p⟩:=K0 d;obtain⟨k,i⟩:=XE m;obtain⟨j,l⟩:=Xn9 h (k:=t.q.cL) (n:=t.q.cR) (a:=t.q.idx) (by rw[g];omega);have e:t.q=⟨t.q.cL,t.q.cR,t.q.idx,[]⟩:=by
   obtain⟨sz,q,u,v,w⟩:=t;simp only at b
   rw[b]
  rw[<-e] at j l;refine⟨j,?_,by rw[b];simp⟩;rw[l,f,i];exact XlM i
end
section
variable {F Fr:Nat->Prop}{w w':dD}{S:Sto}{s:StM}{by':Int}{mo:Mo}{pd:Option (Nat×PlcM)}
def Hl(s:StM)(k:Int):Bool:=decide (0<=k) && decide (k<s.mv.length)
theorem OkP.few(hs:s.OkP S.c pd):s.mv.length<=16/\s.bV.length=s.mv.length/\0<s.mv.length:=by
 have:=(Zr hs.may).n;have:=hs.ml;have:=hs.kl;omega
end
theorem XhL{F Fr:Nat->Prop}{w:dD}{S:Sto}{s:StM}{by':Int}{mo:Mo}{pd:Option (Nat×PlcM)}(h:Xs F Fr w S s by' mo)(hs:s.OkP S.c pd)(k:Int):Xe prog 131 #[Y6 S,W k] w (X9 (.bool (Hl s k)) w):=by
 refine aR func131 ntmps131 Y (aT Y (λa=>?_) λa=>?_)
 .refine bB h.obj Y ?_;have e:Hl s k=decide (k<s.mv.length):=by unfold Hl;rw[bN (show 0<=k from bL a)];rfl
  rw[e];exact bE func131 Y ⟨rfl,rfl⟩
 .have e:Hl s k=false:=by unfold Hl;rw[bO (show ¬0<=k from bM a)];rfl
  rw[e];exact bE func131 Y ⟨rfl,rfl⟩
theorem XbJ{s:StM}{k:Int}(h:Hl s k=false):Xx s k=none:=by
 unfold Xx;split
 .rename_i a
  unfold Hl at h;rw[bN a,YM] at h;have:=bM h;rw[XB,ZF X];rfl
 .rfl
theorem XhZ{s:StM}{k:Int}(h:Hl s k=true):∃j:Nat,k=j/\j<s.mv.length:=by
 unfold Hl at h;simp only[XI,decide_eq_true_eq] at h;exact⟨k.toNat,X,X⟩
theorem XfF{s:StM}(h:j<s.mv.length):Xx s (j:Nat)=s.mv[j]:=by
 unfold Xx;rw[bK X,XA,XB,XD h];rfl
section
variable {F Fr:Nat->Prop}{w w':dD}{S:Sto}{s:StM}{by':Int}{mo:Mo}{pd:Option (Nat×PlcM)}
theorem Xs.mo_at(h:Xs F Fr w S s by' mo)(hj:j<s.mv.length):∃x,mo[j]?=some x/\x.map (·.2)=Xx s (j:Nat):=by
 have b:=h.mol;have a:j<mo.length:=X
 refine⟨mo[j],XD a,?_⟩;rw[XfF hj];have e:=h.mom;unfold Hy at e;simp only[<-e,YZ]
theorem Xs.mcell(h:Xs F Fr w S s by' mo){x:Option (Nat×MvM)}(hx:mo[j]?=some x)(hi:i<6)(hv:(Er x)[i]?=some v):w.cell? ⟨S.vb,0+j*6+i,none⟩=some v:=by
 refine(Yx h.mvs).trans ?_;rw[XT,QA,Un XfG hi mo j x hx,hv]
end
theorem L8{F Fr:Nat->Prop}{w:dD}{S:Sto}{s:StM}{by':Int}{mo:Mo}{pd:Option (Nat×PlcM)}(h:Xs F Fr w S s by' mo)(hs:s.OkP S.c pd)(k:Int):Xe prog 120 #[Y6 S,W k] w (X9 (.bool (Xx s k).isSome) w):=by
 obtain⟨f1,_,_⟩:=OkP.few hs;refine aR func120 ntmps120 Y (bH (XhL h hs k) Y ?_);cases ht:Hl s k with
 |false=>
  refine aS Y ?_;rw[XbJ ht];exact bE func120 Y ⟨rfl,rfl⟩
 |true=>
  obtain⟨j,rfl,c⟩:=XhZ ht;obtain⟨x,a,e⟩:=h.mo_at c;rw[<-e];refine bI Y (bB h.obj Y (aU (j*6) Y ?_));cases x with
  |none=>
   exact aW Y (h.mcell a (i:=0) xD rfl) Y (bE func120 Y ⟨rfl,rfl⟩)
  |some p=>
   obtain⟨b,m⟩:=p;exact aW Y (h.mcell a (i:=0) xD rfl) Y (bE func120 Y ⟨rfl,rfl⟩)
section
variable {F Fr:Nat->Prop}{w w':dD}{S:Sto}{s:StM}{by':Int}{mo:Mo}{pd:Option (Nat×PlcM)}
theorem Xs.mvOk(h:Xs F Fr w S s by' mo)(hs:s.OkP S.c pd){m:MvM}(hx:mo[j]?=some (some (b,m))):E3 w S.A (Fl S s) (Fu b m) m.cE:=by
 have hm:s.mv[j]?=some (some m):=by rw[<-h.mom];unfold Hy;rw[XO,hx];rfl
 obtain⟨a,c,d,_⟩:=Ky hs hm;have f:=(hs.mv j m hm).2.2.2.2.2.2;exact⟨h.ar,(h.mob j b m hx).1,d,by show m.cE<=m.size;omega,a,c⟩
end
def Xau(F G:Nat->Prop)(w0:dD)(s:StM)(o e:Int)(v:dE):Prop:=∃q,v=.tuple #[.agg (Fi (Q2 s o) q).toArray,.int .i64 e]/\Xz q=Yy s o/\Zw w0 q/\Xj F q.pa/\Gf G w0 q.pa
abbrev q0:Plc:=⟨0,0,0,none,0,[]⟩
theorem XbS{F G:Nat->Prop}{s:StM}{o e:Int}{w':dD}(h:B3 s o=none):Xau F G w' s o e (.tuple #[.agg (Fi 0 q0).toArray,W e]):=by
 refine⟨q0,?_,?_,⟨Rd.nil _ _ _,xS⟩,(λ_ _ _ e=>by cases e),⟨(λ_ _ _ e=>by cases e),(λ_ _ _ e=>by cases e)⟩⟩
 .have:Q2 s o=0:=by unfold Q2;rw[h]
  rw[this]
 .unfold Yy;rw[h];rfl
theorem W8{F Fr:Nat->Prop}{w:dD}{S:Sto}{s:StM}{by':Int}{mo:Mo}{pd:Option (Nat×PlcM)}(h0:Xs F Fr w0 S s by' mo)(hw0:Xc Xf w0 w)(hs:s.OkP S.c pd)(o:Int):Xe prog 102 #[Y6 S,W o] w (λv w'=>Xau F S.G w0 s o (Z9 s o) v/\Xc Xf w w'):=by
 have a1:=hs.tl;have h:=h0.bQ hw0;refine aR func102 ntmps102 Y (bC Y λb w1 e1 y d a2=>?_);have C:=h.bQ d;by_cases g:o<0\/S.c.cN<=o
 .have l:Z9 s o=1:=by unfold Z9;rw[bK X]
  have f:B3 s o=none:=by
   unfold B3;split
   .rw[XB,ZF X];rfl
   .rfl
  rw[l];refine aT Y (λm=>?_) λm=>?_
  .exact aO Y (bF y Y λD c a n=>aK func102 c Y ⟨XbS f,d.sn a⟩)
  .have a3:=bM m;exact bB C.obj Y (bI Y (aO Y (bF y Y λD c a n=>aK func102 c Y ⟨XbS f,d.sn a⟩)))
 .obtain⟨j,rfl⟩:=XE (show 0<=o by omega);refine aS Y (bB C.obj Y (aS Y (bB C.obj Y ?_)));obtain⟨al,E,a4,H,I,_⟩:=h0.th;have A:=E.bR (hw0.trans d) id;cases k:s.th[j]? with
  |none=>exact absurd k (by rw[List.getElem?_eq_none_iff];omega)
  |some x=>
   cases x with
   |none=>
    have f:B3 s (j:Nat)=none:=by
     unfold B3;rw[bK X,XA,XB,k];rfl
    have l:Z9 s (j:Nat)=9:=by unfold Z9;rw[bJ X,f]
    have M:Br al (j:Nat)=none:=I _ λN t1 m e=>by
     have:N=j:=X
     subst this;rw[k] at m;cases m
    rw[l];exact Xa.lookup Xb rfl (A) ((show Bv al _ _ true=.tuple #[.agg (Fi 0 q0).toArray,.bool false] from by unfold Bv;rw[M];rfl)) rfl (bC Y λO D e2 c a n=>bF c Y λP B i J=>bI Y (aO Y (bF (i.heap (a.bP y) X) Y λQ r u K=>aK func102 r Y ⟨XbS f,((d.trans a).sn i).sn u⟩)))
   |some t=>
    have f:=Hk k;have l:Z9 s (j:Nat)=0:=by unfold Z9;rw[bJ X,f]
    have L:Q2 s (j:Nat)=t.size:=by unfold Q2;rw[f]
    obtain⟨q,R,T,U,V,q5⟩:=H j t k;rw[l];refine Xa.lookup Xb rfl (A) ((show Bv al _ _ true=.tuple #[.agg (Fi t.size q).toArray,.bool true] from by unfold Bv;rw[T];rfl)) rfl (bC Y λO D e2 c a n=>bF c Y λP B i J=>aS Y (bB B Y (bF (i.heap (a.bP y) X) Y λQ r u K=>?_)));have G:=((d.trans a).sn i).sn u;exact aK func102 r Y ⟨⟨q,by rw[L];rfl,R.trans (Y5 k).symm,U,V,q5⟩,G⟩
theorem XhM{F Fr:Nat->Prop}{w:dD}{S:Sto}{s:StM}{by':Int}{mo:Mo}{pd:Option (Nat×PlcM)}(h:Xs F Fr w0 S s by' mo)(hw0:Xc Xf w0 w)(hs:s.OkP S.c pd)(o i n:Int)(hi : -9223372036854775808<=i/\i<=9223372036854775807)(hn : -9223372036854775808<=n/\n<=9223372036854775807):Xe prog 106 #[Y6 S,W o,W i,W n] w (λv w'=>Xau F S.G w0 s o (Qt s o i n) v/\Xc Xf w w'):=by
 have O:0<=Q2 s o/\Q2 s o<=1152921504606846976:=by
  unfold Q2;cases ht:B3 s o with
  |none=>simp
  |some t=>
   obtain⟨j,_,_,M⟩:=Xc4 ht;have:=hs.size j t M;have:=(Zr hs.may).cH;simp only
   omega
 refine aR func106 ntmps106 Y (bC Y λb w1 e1 N l P=>aP Y (W8 h (hw0.trans l) hs o) ?_);rintro _ w2 ⟨⟨q,rfl,y,A,B,C⟩,k⟩;have Q:=k.size;refine aN Y (bC Y λb3 w3 e3 H m R=>bF H Y λw4 d p T=>?_);have f:=p.heap (m.bP (k.bP N)) X;refine aT Y (λE=>?_) λE=>?_
 .have I:Z9 s o=0:=xU E
  by_cases g:i<0\/n<0\/Q2 s o<n\/Q2 s o-n<i
  .have e:Qt s o i n=8:=by unfold Qt;rw[bJ X,bK g]
   refine aT Y (λJ=>?_) λJ=>?_
   .have r:=((l.trans k).trans m).sn p;refine bB d Y (bF f Y λD a c x=>?_);exact aK func106 a Y ⟨⟨q,by rw[e];rfl,y,A,B,C⟩,(r.sn c)⟩
   .have U:=bM J;refine aT Y (λK=>?_) λK=>?_
    .have r:=((l.trans k).trans m).sn p;refine bB d Y (bF f Y λD a c x=>?_);exact aK func106 a Y ⟨⟨q,by rw[e];rfl,y,A,B,C⟩,(r.sn c)⟩
    .have V:=bM K;refine bB d Y (aT Y (λL=>?_) λL=>?_)
     .have r:=((l.trans k).trans m).sn p;refine bB d Y (bF f Y λD a c x=>?_);exact aK func106 a Y ⟨⟨q,by rw[e];rfl,y,A,B,C⟩,(r.sn c)⟩
     .have a0:=bM L;refine bB d Y (aV Y (bI Y ?_));refine bB d Y (bF f Y λD a c x=>?_);exact aK func106 a Y ⟨⟨q,by rw[e];rfl,y,A,B,C⟩,((((l.trans k).trans m).sn p).sn c)⟩
  .have e:Qt s o i n=0:=by unfold Qt;rw[bJ X,bJ g]
   have G:Z9 s o=Qt s o i n:=by rw[I,e]
   refine aS Y (aS Y (bB d Y (aS Y (bB d Y (aV Y (aS Y (bB d Y (bF f Y λD a c x=>?_))))))));exact aK func106 a Y ⟨⟨q,by rw[<-G];rfl,y,A,B,C⟩,((((l.trans k).trans m).sn p).sn c)⟩
 .have e:Z9 s o=Qt s o i n:=by unfold Qt;rw[bK (xU E)]
  refine bB d Y (bF f Y λD a c x=>?_);exact aK func106 a Y ⟨⟨q,by rw[<-e];rfl,y,A,B,C⟩,((((l.trans k).trans m).sn p).sn c)⟩
end Go.Proofs.YtdeihcnepljjaaaGreatDoor
