/-
  Texts put together: N3, StOk2, StOk3, Room7, View9, Sto0, Sto1, Plain21, Plain21b, Plain21c, Sto2, Sto3, Sto4.
-/
import Derived.Test.YtdeihcnepljjaaaGreatDoorPt6
import Derived.Test.YtdeihcnepljjaaaGreatDoorQRule18
set_option linter.unusedVariables false
set_option maxRecDepth 100000
namespace Go.Proofs.YtdeihcnepljjaaaGreatDoor
open Go.RowKit
open Go renaming World→dD
open Bool renaming and_eq_true->XJ,true_and->YI,false_and->Y2
open Decidable renaming not_not->YK
open Int renaming toNat_natCast->XB,eq_ofNat_of_zero_le->XE,mul_le_mul_of_nonneg_right->ZD,ediv_nonneg->YL,mul_comm->YP,toNat_of_nonneg->QI,add_mul->QL,one_mul->QM,le_refl->QN
open List renaming getD_eq_getElem?_getD->XA,getElem?_eq_some_iff->XC,getElem?_eq_getElem->XD,length_set->XG,getElem?_set_self->XH,length_replicate->XI,getElem?_set_ne->XK,map_append->XL,getElem_mem->XM,getElem?_map->XO,mem_map->XQ,length_map->XV,mem_of_getElem?->XW,length_take->XX,mem_of_mem_take->XY,mem_cons->ZB,getElem?_eq_none->ZF,take_add_one->ZH,map_cons->ZK,take_length->ZL,length_range->ZM,mem_or_eq_of_mem_set->ZN,mem_cons_self->ZO,mem_of_mem_drop->ZU,map_congr_left->ZW,flatMap_cons->ZX,map_set->ZY,mem_cons_of_mem->YB,eq_nil_of_length_eq_zero->YG,findIdx?_eq_some_iff_getElem->YN,getElem_map->YU,getElem?_take->YV,getElem?_toArray->YW,mem_replicate->QA,range_succ->QC,append_nil->QD,any_eq_false->QG,sum_cons->QH,mem_append_left->QQ,length_tail->QS,mem_filter->QW,map_take->QZ
open Nat renaming le_refl->XF,zero_add->XT,le_trans->ZZ,mod_lt->YQ,add_assoc->YR,div_add_mod->QB,mul_comm->QE,strongRecOn->QP
open Option renaming map_eq_some_iff->YO
open Go.Proofs.Tryz (func100 func102 func106 func111 func112 func120 func126 func131 func171 func50 func67 func73 func94 func99 ntmps100 ntmps102 ntmps106 ntmps111 ntmps112 ntmps120 ntmps126 ntmps131 ntmps171 ntmps50 ntmps67 ntmps73 ntmps94 ntmps99 prog)
variable {A:Ar}{V:ArV}{c:Conf}{l':IL}{ahead by' cS cH size cN u who z:Int}{lg:List (Nat×List Nat)}{th:List (Option ThM)}{ps:List IL}{bs l p zs:List Int}{l2 ws:List Nat}{cs rest xs:List Value}{N at' b base cap d fuel g i j k lm lo m n o qb sz t tm ty vb xb y:Nat}{e:Nat×List Int}{fz:Nat×Nat}{f:Nat->Int}{G:Nat->Pg}{B C F F' Fr Q S S' T X:Nat->Prop}{pd pd2:Option (Nat×PlcM)}{a:Option Addr}{pg:PgL}{pl':PlM}{q:Plc}{R:Rm}{M:RmM}{x x':Sm}{s s':StM}{α:Type}{v:Value}{w w' w'' w0 w1 w2:dD}{cells:α->List Value}
section
variable {c:Conf}{s:StM}{pd:Option (Nat×PlcM)}
theorem Ah{k:Int}{m:MvM}(h:Xx s k=some m):∃j:Nat,k=j/\j<s.mv.length/\s.mv[j]?=some (some m):=by
 unfold Xx at h;split at h
 .rename_i b
  obtain⟨j,rfl⟩:=XE b;rw[XB,XA] at h;cases a:s.mv[j]? with
  |none=>rw[a] at h;cases h
  |some x=>
   rw[a] at h;have:x=some m:=h;subst this;exact⟨j,rfl,(XC.1 a).1,a⟩
 .cases h
theorem Ds{m:MvM}(h:s.mv[j]?=some (some m)):Xx s (j:Nat)=some m:=by
 unfold Xx;rw[bK (by omega),XB,XA,h];rfl
theorem Xcz{o:Int}{t:ThM}(h:A9 s o=some t):∃j:Nat,o=j/\j<s.th.length/\s.th[j]?=some (some t):=by
 unfold A9 at h;split at h
 .rename_i b
  obtain⟨j,rfl⟩:=XE b;rw[XB,XA] at h;cases a:s.th[j]? with
  |none=>rw[a] at h;cases h
  |some x=>
   rw[a] at h;have:x=some t:=h;subst this;exact⟨j,rfl,(XC.1 a).1,a⟩
 .cases h
theorem Hd{t:ThM}(h:s.th[j]?=some (some t)):A9 s (j:Nat)=some t:=by
 unfold A9;rw[bK (by omega),XB,XA,h];rfl
theorem J9{l:List (Option α)}{v:Option α}{x:α}(h:(l.set k v)[j]?=some (some x)):(j=k/\v=some x/\k<l.length)\/(j≠k/\l[j]?=some (some x)):=by
 by_cases e:k=j
 .subst e;by_cases a:k<l.length
  .rw[XH a] at h;exact .inl ⟨rfl,Option.some.inj h,a⟩
  .rw[ZF (by rw[XG];omega)] at h;cases h
 .rw[XK e] at h;exact .inr ⟨λh=>e h.symm,h⟩
theorem Xku{v:Option MvM}{j:Int}{m:MvM}(hs:s'.mv=s.mv.set k v)(h:Xx s' j=some m):(j=k/\v=some m)\/(j≠k/\Xx s j=some m):=by
 obtain⟨i,rfl,_,a⟩:=Ah h;rw[hs] at a;rcases J9 a with⟨rfl,e,_⟩|⟨b,a⟩
 .exact .inl ⟨rfl,e⟩
 .exact .inr ⟨by omega,Ds a⟩
theorem Ul{v:Option MvM}{j:Int}{m:MvM}(hs:s'.mv=s.mv.set k v)(hj:j≠k)(h:Xx s j=some m):Xx s' j=some m:=by
 obtain⟨i,rfl,_,a⟩:=Ah h;refine Ds ?_;rw[hs,XK (by omega)];exact a
theorem Xdy(h:Zb c=true){k n a:Int}(hk:0<=k/\k<c.bT.length)(hn:0<=n/\n<c.bS)(ha:0<=a/\a<A5 c k):Yk c ⟨k,n,a,none,0,[]⟩=true:=by
 unfold Yk;rw[bJ (by simp only;omega)];simp only[XJ,Mm];exact⟨⟨hk,hn⟩,ha⟩
theorem O3(h:s.OkP c pd){k n a:Int}(ho:Zd s.rm k n a≠-1):Yk c ⟨k,n,a,none,0,[]⟩=true/\0<=k/\k<c.bT.length:=by
 obtain⟨j,x,rfl,g,_,_,b,d,e,f⟩:=Va h.rm ho;exact⟨Xdy h.may (by omega) ⟨b,d⟩ ⟨e,f⟩,by omega,by omega⟩
theorem Tj(h:Zb c=true){k n a:Int}(hv:Yk c ⟨k,n,a,none,0,[]⟩=true)(hk:k≠-1):0<=Hk c k n a/\Hk c k n a+Z6 c k<=c.size*c.bS/\8<=Z6 c k/\Z6 c k<=c.size:=by
 obtain⟨j,pg,ix,e1,e2,e3,b,d,e,f,g,i,l,m⟩:=Id h hv hk;unfold Hk Ak;rw[bK ⟨hv,hk⟩];simp only at e1 e2 e3
 subst e1;subst e2;subst e3;simp only
 omega
theorem StM.OkP.bytes(h:s.OkP c pd)(hl:bs.length=s.bs.length)(hb:Qh bs)(n:Int):(Qk {s with bs:=bs} n).OkP c pd:=
 ⟨h.may,h.rm.cT n,h.kl,h.kr,by show(bs.length:Int)=_;rw[hl];exact h.bl,hb,h.tl,h.ml,h.size,h.small,h.large,h.linj,h.mv,h.own,h.ps,h.pl⟩
theorem StM.OkP.tot(h:s.OkP c pd)(n:Int):(Qk s n).OkP c pd:=h.bytes (bs:=s.bs) rfl h.bi n
theorem P7(h:s.OkP c pd){t:ThM}(ht:s.th[o]?=some (some t))(hc:t.q.cL≠-1):Xm c.bT t.size≠-1:=λe=>by
 obtain⟨n,r,_,e2,_⟩:=h.large o t ht e;rw[e2] at hc;exact hc rfl
theorem Xb1(M:RmM)(k who:Int):(Qi M k who).lg=M.lg:=by unfold Qi;split;rfl;split <;> rfl
theorem XbX(M:RmM)(k n i:Int):(Q1 M k n i).lg=M.lg:=by unfold Q1;split;rfl;split <;> rfl
theorem Xgl(M:RmM)(k n i who:Int):(Qu M k n i who).lg=M.lg:=by unfold Qu;split <;> rfl
structure XhV(c:Conf)(s:StM)(k:Nat):Prop where
 plan:Xda s.rm k
 kl:k<c.bT.length
 nomv:Xx s (k:Nat)=none
 who:∃(o:Nat),∃t,Zd s.rm k (Ym s.rm k).1 (Ym s.rm k).2.1=o/\s.th[o]?=some (some t)/\t.q=⟨(k:Nat),(Ym s.rm k).1,(Ym s.rm k).2.1,[]⟩
 f:Yk c ⟨(k:Nat),(Ym s.rm k).1,(Ym s.rm k).2.1,none,0,[]⟩=true
 t:Yk c ⟨(k:Nat),(Ym s.rm k).2.2.1,(Ym s.rm k).2.2.2,none,0,[]⟩=true
theorem Xal(h:s.Ok c)(hB:Bp s k=true):XhV c s k:=by
 unfold Bp at hB;simp only[XJ] at hB;obtain⟨⟨r,A⟩,u⟩:=hB;have P:=Xk3 h.rm u;have l:Xx s (k:Nat)=Option.none:=by simpa using r
 obtain⟨f1,f2,f3⟩:=O3 h P.own;have d:∃(o:Nat),∃t,Zd s.rm k (Ym s.rm k).1 (Ym s.rm k).2.1=o/\s.th[o]?=some (some t)/\t.q=⟨(k:Nat),(Ym s.rm k).1,(Ym s.rm k).2.1,[]⟩:=by
  rcases h.own _ _ _ P.own with⟨o,t,f,i,b|⟨m,b,_⟩⟩|⟨o,g⟩
  .exact⟨o,t,f,i,b⟩
  .rw[l] at b;cases b
  .cases g
 obtain⟨o,t,f,i,b⟩:=d;refine⟨P,by omega,l,⟨o,t,f,i,b⟩,f1,?_⟩;obtain⟨p,B⟩:=Xcv h.rm (P.e (o:Int) (by omega));rw[P.n _ (by omega),P.a _ (by omega)] at p;have q:=p k (Ym s.rm k).2.2.1 (Ym s.rm k).2.2.2;rw[bK ⟨rfl,rfl,rfl⟩] at q;obtain⟨j,x,e,C,_,_,v,w,y,z⟩:=Va (h.rm.take k (o:Int)) (k:=k) (n:=(Ym s.rm k).2.2.1) (a:=(Ym s.rm k).2.2.2) (by rw[q];omega);exact Xdy h.may (by omega) ⟨v,w⟩ ⟨y,z⟩
theorem StM.OkP.begin(h:s.Ok c)(k:Nat):(Yv c s k).Ok c:=by
 unfold Yv;by_cases v:Bp s k=true
 .rw[bK v];obtain⟨P,F,G,⟨o,t,w,A,H⟩,hf,ht⟩:=Xal h v;rw[w];obtain⟨i,B⟩:=Xcv h.rm (P.e (o:Int) (by omega));rw[P.n _ (by omega),P.a _ (by omega)] at i B;obtain⟨pf,fa,pt,ta⟩:True/\True/\True/\True:=⟨trivial,trivial,trivial,trivial⟩;have C:∀(s':StM),s'.mv=s.mv.set k (some (Kt c s.rm k)) -> ∀j m,Xx s j=some m->Xx s' j=some m:=λs' I j m b=>Ul I (λe=>by rw[e,G] at b;cases b) b;have bV:∀{j n a:Int},Zd s.rm j n a≠-1->Zd (Qi s.rm k o) j n a=Zd s.rm j n a:=λu=>by
   rw[i,bJ];rintro⟨rfl,rfl,rfl⟩;exact u B
  refine⟨h.may,h.rm.take _ _,h.kl,h.kr,h.bl,h.bi,h.tl,by show(s.mv.set _ _).length=_;rw[XG];exact h.ml,h.size,λd f x y=>?_,λd f x y=>?_,h.linj,λj m b=>?_,λj n a b=>.inl ?_,(by rintro _ _ ⟨⟩),(by rintro _ _ ⟨⟩)⟩
  .obtain⟨l,p,q⟩:=h.small d f x y;exact⟨l,p,(bV (by rw[q];omega)).trans q⟩
  .show ∃n r,(n,r)∈(Qi s.rm k o).lg/\_
   rw[Xb1];exact h.large d f x y
  .rcases J9 b with⟨rfl,e,_⟩|⟨u,b⟩
   .have em:=Option.some.inj e;subst em;obtain⟨J,O,Q,R⟩:=Tj h.may hf (by omega);obtain⟨K,S,_,_⟩:=Tj h.may ht (by omega);refine⟨⟨o,t,w,A,H⟩,?_,λe=>P.ne e.1,?_,?_,?_,?_⟩
    .show Zd (Qi s.rm j o) j _ _=Zd s.rm j _ _
     rw[w,i,bK ⟨rfl,rfl,rfl⟩]
    .show(((Hk c j _ _).toNat:Nat):Int)=_
     exact QI J
    .show(((Hk c j _ _).toNat:Nat):Int)=_
     exact QI K
    .show(((Z6 c j).toNat:Nat):Int)=_
     exact QI (by omega)
    .show 0<(Z6 c j).toNat
     omega
   .obtain⟨l,p,q⟩:=h.mv j m b;have L:=l;obtain⟨d,f,M,_⟩:=l;exact⟨L,(bV (by rw[p,M];omega)).trans p,q⟩
  .by_cases e:j=k/\n=(Ym s.rm k).2.2.1/\a=(Ym s.rm k).2.2.2
   .obtain⟨rfl,rfl,rfl⟩:=e;refine⟨o,t,?_,A,.inr ⟨Kt c s.rm k,?_,rfl,rfl⟩⟩
    .show Zd (Qi s.rm k o) k _ _=_
     rw[i,bK ⟨rfl,rfl,rfl⟩]
    .refine Ds ?_;show(s.mv.set k _)[k]?=_
     rw[XH (by rw[h.ml];exact F)]
   .have e1:Zd (Qi s.rm k o) j n a=Zd s.rm j n a:=by rw[i,bJ e]
    rw[e1] at b;show ∃(d:Nat),∃t,Zd (Qi s.rm k o) j n a=d/\_
    rw[e1];rcases h.own j n a b with⟨d,f,D,E,z|⟨m,z,N⟩⟩|⟨_,g⟩
    .exact⟨d,f,D,E,.inl z⟩
    .exact⟨d,f,D,E,.inr ⟨m,C _ rfl j m z,N⟩⟩
    .cases g
 .rw[bJ v];exact h
theorem Ks(h:s.OkP c pd){m:MvM}(hm:s.mv[k]?=some (some m)):m.f+m.size<=s.bs.length/\m.t+m.size<=s.bs.length/\0<m.size/\(m.f+m.size<=m.t\/m.t+m.size<=m.f):=by
 obtain⟨⟨o,t,e1,e2,e3⟩,x,y,C,D,E,F⟩:=h.mv k m hm;have G:k<c.bT.length:=by have:=(XC.1 hm).1;have:=h.ml;omega
 have l:=h.small o t e2 (P7 h e2 (by rw[e3];simp only;omega));rw[e3] at l;have d:=(O3 h (k:=(k:Nat)) (n:=m.pf) (a:=m.fa) (by rw[l.2.2];omega)).1;have e:=(O3 h (k:=(k:Nat)) (n:=m.pt) (a:=m.ta) (by rw[x,e1];omega)).1;have H:=Tj h.may d (by omega);have I:=Tj h.may e (by omega);have B:=h.bl;refine⟨by omega,by omega,by omega,?_⟩;obtain⟨z,f,g,A,q,r,J,K,L,M,N,O,P,Q⟩:=Id h.may d (by simp only;omega);obtain⟨b,i,j,f1,f2,f3,R,S,T,U,V,W,g7,g8⟩:=Id h.may e (by simp only;omega);simp only at A q r f1 f2 f3
 have u:z=k:=by omega
 have v:b=k:=by omega
 subst u;subst v;have x1:Hk c (b:Nat) m.pf m.fa=(f:Int)*c.size+(g:Int)*Z6 c (b:Nat):=by unfold Hk Ak;rw[bK ⟨d,by simp only;omega⟩];simp only;rw[q,r]
 have x2:Hk c (b:Nat) m.pt m.ta=(i:Int)*c.size+(j:Int)*Z6 c (b:Nat):=by unfold Hk Ak;rw[bK ⟨e,by simp only;omega⟩];simp only;rw[f2,f3]
 have p:0<=c.size:=by have:=(D3 h.may).1;omega
 rcases Nat.lt_trichotomy f i with w|heq|hgt
 .have:((f:Int)+1)*c.size<=i*c.size:=ZD (by omega) p;rw[QL,QM] at this;omega
 .subst heq;rcases Nat.lt_trichotomy g j with w|heq|hgt
  .have:((g:Int)+1)*Z6 c (b:Nat)<=j*Z6 c (b:Nat):=ZD (by omega) (by omega);rw[QL,QM] at this;omega
  .exact absurd ⟨by omega,by omega⟩ y
  .have:((j:Int)+1)*Z6 c (b:Nat)<=g*Z6 c (b:Nat):=ZD (by omega) (by omega);rw[QL,QM] at this;omega
 .have:((i:Int)+1)*c.size<=f*c.size:=ZD (by omega) p;rw[QL,QM] at this;omega
theorem XdW{f:Nat}(h:Qh bs):Qh (H8 bs t f n):=λx hx=>by
 rcases Nw hx with hx|hx
 .exact h x hx
 .unfold sub at hx;exact h x (ZU (XY hx))
theorem Tz(m:MvM)(n:Int):Zt m n<=m.size-m.cE:=by unfold Zt D7;omega
theorem StM.OkP.step(h:s.OkP c pd){m:MvM}(hm:s.mv[k]?=some (some m))(n:Int):(Ad s m n).OkP c pd:=by
 obtain⟨a,b,e,_⟩:=Ks h hm;have f:=Tz m n;have d:=(h.mv k m hm).2.2.2.2.2.2;refine h.bytes ?_ ?_ _
 .exact Xce (size:=m.size) (by omega) a b
 .unfold Ji;split
  .exact h.bi
  .exact XdW h.bi
theorem StM.OkP.go(h:s.Ok c)(k:Nat)(n:Int):(Yo s k n).Ok c:=by
 unfold Yo;cases M:Xx s (k:Nat) with
 |none=>exact h
 |some m=>
  obtain⟨j,ej,p,hm⟩:=Ah M;obtain rfl:k=j:=by omega
  have C:=StM.OkP.step h hm n;obtain⟨⟨o,t,e1,e2,e3⟩,N,P,a4,a5,a6,a7⟩:=h.mv k m hm;simp only
  by_cases I:m.cE+Zt m n<m.size
  .rw[bK I];have Q:∀j m',Xx s j=some m' -> ∃J,Xx {Ad s m n with mv:=s.mv.set k (some {m with cE:=m.cE+Zt m n})} j=some J/\J.pt=m'.pt/\J.ta=m'.ta:=λj m' p=>by
    by_cases e:j=k
    .subst e;rw[M] at p;cases p
     refine⟨{m with cE:=m.cE+Zt m n},Ds ?_,rfl,rfl⟩;show(s.mv.set k _)[k]?=_
     rw[XH p]
    .exact⟨m',Ul (s:=s) rfl e p,rfl,rfl⟩
   refine⟨h.may,C.rm,h.kl,h.kr,C.bl,C.bi,h.tl,by show(s.mv.set _ _).length=_;rw[XG];exact h.ml,h.size,h.small,h.large,h.linj,λj m' p=>?_,λj n' a p=>?_,(by rintro _ _ ⟨⟩),(by rintro _ _ ⟨⟩)⟩
   .rcases J9 p with⟨rfl,e,_⟩|⟨u,p⟩
    .have em:=Option.some.inj e;subst em;exact⟨⟨o,t,e1,e2,e3⟩,N,P,a4,a5,a6,I⟩
    .exact h.mv j m' p
   .rcases h.own j n' a p with⟨f,l,z,D,v|⟨m',v,E,F⟩⟩|⟨_,g⟩
    .exact .inl ⟨f,l,z,D,.inl v⟩
    .obtain⟨J,y,w,x⟩:=Q j m' v;exact .inl ⟨f,l,z,D,.inr ⟨J,y,w.trans E,x.trans F⟩⟩
    .cases g
  .rw[bJ I];have L:=P7 h e2 (by rw[e3];simp only;omega);obtain⟨O,s2,K⟩:=h.small o t e2 L;rw[e3] at O K;simp only at O K
   have R:∀j n' a,Zd (Ad s m n).rm j n' a=Zd s.rm j n' a:=λ_ _ _=>rfl;obtain⟨G1,S⟩:=Xeq C.rm (k:=(k:Nat)) (n:=m.pf) (i:=m.fa) (by rw[R,K];omega);have bV:∀{j n' a:Int},¬(j=k/\n'=m.pf/\a=m.fa)->Zd (Q1 (Ad s m n).rm k m.pf m.fa) j n' a=Zd s.rm j n' a:=λu=>by rw[S,bJ u];rfl
   have T:m.who.toNat=o:=by omega
   have U:Ab s m.who=t.size:=by unfold Ab;rw[e1,Hd e2]
   rw[T,U];have A1:∀{f:Nat} {l:ThM},(s.th.set o (some ⟨t.size,⟨(k:Nat),m.pt,m.ta,[]⟩⟩))[f]?=some (some l)->(f=o/\l=⟨t.size,⟨(k:Nat),m.pt,m.ta,[]⟩⟩)\/(f≠o/\s.th[f]?=some (some l)):=λh=>by
    rcases J9 h with⟨a,b,_⟩|hb
    .exact .inl ⟨a,(Option.some.inj b).symm⟩
    .exact .inr hb
   have Ew:∀{f:Nat} {l:ThM},f≠o->s.th[f]?=some (some l)->(s.th.set o (some ⟨t.size,⟨(k:Nat),m.pt,m.ta,[]⟩⟩))[f]?=some (some l):=λu h=>by rw[XK (Ne.symm u)];exact h
   have tnew:(s.th.set o (some ⟨t.size,⟨(k:Nat),m.pt,m.ta,[]⟩⟩))[o]?=some (some ⟨t.size,⟨(k:Nat),m.pt,m.ta,[]⟩⟩):=by rw[XH ((XC.1 e2).1)]
   refine⟨h.may,C.rm.give _ _ _,h.kl,h.kr,C.bl,C.bi,by show((s.th.set _ _).length:Int)=_;rw[XG];exact h.tl,by show(s.mv.set _ _).length=_;rw[XG];exact h.ml,λf l q=>?_,λf l q A=>?_,λf l q A=>?_,λf G l V q A W H hp=>?_,λj m' p=>?_,λj n' a p=>.inl ?_,(by rintro _ _ ⟨⟩),(by rintro _ _ ⟨⟩)⟩
   .rcases A1 q with⟨rfl,rfl⟩|⟨_,q⟩
    .exact h.size f t e2
    .exact h.size f l q
   .rcases A1 q with⟨rfl,rfl⟩|⟨u,q⟩
    .refine⟨O,rfl,?_⟩;refine(bV ?_).trans (N.trans e1);rintro⟨_,y,w⟩;exact P ⟨y.symm,w.symm⟩
    .obtain⟨y,w,x⟩:=h.small f l q A;refine⟨y,w,(bV ?_).trans x⟩;rintro⟨d1,d2,d3⟩;rw[d1,d2,d3,K] at x;omega
   .show ∃n' r,(n',r)∈(Q1 (Ad s m n).rm k m.pf m.fa).lg/\_
    rw[XbX];rcases A1 q with⟨rfl,rfl⟩|⟨_,q⟩
    .exact absurd A L
    .exact h.large f l q A
   .rcases A1 q with⟨rfl,rfl⟩|⟨_,q⟩
    .exact absurd W (by simp only;omega)
    .rcases A1 A with⟨rfl,rfl⟩|⟨_,A⟩
     .exact absurd H (by simp only;omega)
     .exact h.linj f G l V q A W H hp
   .rcases J9 p with⟨_,e,_⟩|⟨u,p⟩
    .cases e
    .obtain⟨⟨f,l,y,w,x⟩,H,c3⟩:=h.mv j m' p;have B:f≠o:=λe=>by
      subst e;rw[e2] at w;cases w
      rw[e3] at x;have:=congrArg PlcM.cL x;simp only at this
      omega
     refine⟨⟨f,l,y,Ew B w,x⟩,(bV ?_).trans H,c3⟩;rintro⟨d,_⟩;omega
   .replace p:Zd (Q1 (Ad s m n).rm k m.pf m.fa) j n' a≠-1:=p;have u:¬(j=k/\n'=m.pf/\a=m.fa):=λe=>by rw[S,bK e] at p;exact p rfl
    show ∃(f:Nat),∃l,Zd (Q1 (Ad s m n).rm k m.pf m.fa) j n' a=f/\_
    rw[bV u] at p⊢;rcases h.own j n' a p with⟨f,l,z,D,v|⟨m',v,E,F⟩⟩|⟨_,g⟩
    .have B:f≠o:=λe=>by
      subst e;rw[e2] at D;cases D
      rw[e3] at v;exact u ⟨(congrArg PlcM.cL v).symm,(congrArg PlcM.cR v).symm,(congrArg PlcM.idx v).symm⟩
     exact⟨f,l,z,Ew B D,.inl v⟩
    .by_cases ek:j=k
     .subst ek;rw[M] at v;cases v
      have:(f:Int)=o:=by rw[<-z,<-E,<-F,N,e1]
      obtain rfl:f=o:=by omega
      exact⟨f,_,z,tnew,.inl (by rw[E,F])⟩
     .obtain⟨i,ei,_,hi⟩:=Ah v;subst ei;obtain⟨⟨G,V,y,w,x⟩,H,_⟩:=h.mv i m' hi;have a0:G=f:=by
       have:(G:Int)=f:=by rw[<-y,<-H,E,F];exact z
       omega
      subst a0;have B:G≠o:=λe=>by
       subst e;rw[e2] at w;cases w
       rw[e3] at x;have:=congrArg PlcM.cL x;simp only at this
       omega
      exact⟨G,l,z,Ew B D,.inr ⟨m',Ul (s:=s) rfl ek v,E,F⟩⟩
    .cases g
theorem StM.OkP.finish(h:s.Ok c)(k:Int):(Zg s k).Ok c:=by
 unfold Zg;split
 .exact h
 .exact StM.OkP.go h _ _
end
section
variable {c:Conf}{s:StM}{pd:Option (Nat×PlcM)}
theorem XeI(hb:Qh bs)(hl:Qh l):∀k,Qh (Q8 c q bs i l k)
 |0=>hb
 |k+1=>λx hx=>by
  unfold Q8 at hx;rcases ZN hx with hx|rfl
  .exact XeI hb hl k x hx
  .rw[XA];cases hg:l[k]? with
   |none=>exact⟨QN _,by decide⟩
   |some y=>exact hl y (XW hg)
theorem Sw(n:Nat):Qh (X6 n):=λx a=>by
 unfold X6 at a;rw[QA] at a;omega
theorem StM.OkP.put(h:s.OkP c pd)(q:PlcM)(i:Nat)(hl:Qh l):(Yp c s q i l).OkP c pd:=
 h.bytes (Kp _ _ _ _ _ _) (XeI h.bi hl _) _
theorem Xmz(hw:0<=who)(hf:Qf c M size=0)(hp:Xm c.bT size≠-1):Au c M who size=Qi M (Xm c.bT size) who/\Bx c M who size=⟨Xm c.bT size,Eu M (Xm c.bT size) who,Et M (Xm c.bT size) who,[]⟩/\C4 c M who size=Gj M (Xm c.bT size) who:=by
 refine⟨?_,?_,?_⟩
 .unfold Au;rw[bJ (by omega),bJ (by omega),bJ hp]
 .unfold Bx;rw[bJ (by omega),bJ (by omega),bJ hp]
 .unfold C4;rw[bJ (by omega),bJ (by omega),bJ hp]
theorem Xmy(hw:0<=who)(hf:Qf c M size=0)(hp:Xm c.bT size=-1):Au c M who size=Es M (Z8 size c.size).toNat/\Bx c M who size=⟨-1,(M.pl.free.getD 0 0:Nat),0,X4 (M.pl.free.take (Z8 size c.size).toNat).tail⟩:=by
 refine⟨?_,?_⟩
 .unfold Au;rw[bJ (by omega),bJ (by omega),bK hp]
 .unfold Bx;rw[bJ (by omega),bJ (by omega),bK hp]
theorem Tx(hf:Yt c s size=0):(1<=size/\size<=c.cH)/\(Fq c s size=none->Qf c s.rm size=0):=by
 unfold Yt at hf;split at hf
 .exact absurd hf (by decide)
 .rename_i hr
  refine⟨by omega,λa=>?_⟩;split at hf
  .rename_i b
   unfold Fq at a;cases hm:Xx s (Xm c.bT size) with
   |none=>rw[hm] at b;cases b
   |some m=>
    rw[hm] at a;simp only at a
    split at a
    .cases a
    .rename_i d
     obtain⟨j,ej,_⟩:=Ah hm;unfold Qf;rw[bJ hr,bJ];unfold Dd;rw[bJ (by omega)];omega
  .exact hf
theorem A1{l:List (Option ThM)}{o1:Nat}{t t1:ThM}(h:(l.set o (some t))[o1]?=some (some t1)):(o1=o/\t1=t)\/(o1≠o/\l[o1]?=some (some t1)):=by
 rcases J9 h with⟨a,b,_⟩|hb
 .exact .inl ⟨a,(Option.some.inj b).symm⟩
 .exact .inr hb
theorem Ew{l:List (Option ThM)}{o1:Nat}{v:Option ThM}{t1:ThM}(hne:o1≠o)(h:l[o1]?=some (some t1)):(l.set o v)[o1]?=some (some t1):=by rw[XK (Ne.symm hne)];exact h
theorem StM.OkP.over(h:s.OkP c pd){m:MvM}(ho:s.th[o]?=some none)(hs:1<=size/\size<=c.cH)(hk:Xm c.bT size=(k:Nat))(hm:s.mv[k]?=some (some m))(hpd:∀o' q,pd=some (o',q)->o'=o):StM.OkP c {s with mv:=s.mv.set k none,rm:=Qu s.rm k m.pt m.ta o,th:=s.th.set o (some ⟨size,⟨(k:Nat),m.pt,m.ta,[]⟩⟩)} pd:=by
 obtain⟨⟨D,T,e1,e2,e3⟩,M,U,_⟩:=h.mv k m hm;have a7:D≠o:=λe=>by subst e;rw[ho] at e2;cases e2
 obtain⟨W1,E⟩:=XkK h.rm (k:=(k:Nat)) (n:=m.pt) (i:=m.ta) (who:=(o:Nat)) (by omega) (by rw[M,e1];omega);have bV:∀{j n a:Int},¬(j=k/\n=m.pt/\a=m.ta)->Zd (Qu s.rm k m.pt m.ta o) j n a=Zd s.rm j n a:=λv=>by rw[E,bJ v]
 have V:=h.small D T e2 (P7 h e2 (by rw[e3];simp only;omega));have other:∀{l:Nat} {b:ThM},s.th[l]?=some (some b)->Zd s.rm b.q.cL b.q.cR b.q.idx=l->b.q.bS=[] -> ¬(b.q.cL=k/\b.q.cR=m.pt/\b.q.idx=m.ta):=λ{l b} f p z=>by
  rintro⟨W,F,G⟩;rw[W,F,G,M,e1] at p;obtain rfl:D=l:=by omega
  rw[e2] at f;cases f
  rw[e3] at F G;exact U ⟨F,G⟩
 have N:∀{j:Int} {m':MvM},Xx {s with mv:=s.mv.set k none,rm:=Qu s.rm k m.pt m.ta o,th:=s.th.set o (some ⟨size,⟨(k:Nat),m.pt,m.ta,[]⟩⟩)} j=some m'->j≠k/\Xx s j=some m':=λhj=>by
  rcases Xku (s:=s) rfl hj with⟨_,e⟩|hj
  .cases e
  .exact hj
 refine⟨h.may,h.rm.own _ _ _ _,h.kl,h.kr,h.bl,h.bi,by show((s.th.set _ _).length:Int)=_;rw[XG];exact h.tl,by show(s.mv.set _ _).length=_;rw[XG];exact h.ml,λl b f=>?_,λl b f p=>?_,λl b f p=>?_,λl o3 b t3 f z w A hp=>?_,λj m' hj=>?_,λj n a hj=>?_,λo' q H I=>?_,λo' q H I=>?_⟩
 .rcases A1 f with⟨rfl,rfl⟩|⟨_,f⟩
  .exact hs
  .exact h.size l b f
 .rcases A1 f with⟨rfl,rfl⟩|⟨v,f⟩
  .refine⟨hk.symm,rfl,?_⟩;show Zd (Qu s.rm k m.pt m.ta l) k m.pt m.ta=l
   rw[E,bK ⟨rfl,rfl,rfl⟩]
  .obtain⟨J,t,B⟩:=h.small l b f p;exact⟨J,t,(bV (other f B t)).trans B⟩
 .show ∃n' r,(n',r)∈(Qu s.rm k m.pt m.ta o).lg/\_
  rw[Xgl];rcases A1 f with⟨rfl,rfl⟩|⟨_,f⟩
  .rw[hk] at p;omega
  .exact h.large l b f p
 .rcases A1 f with⟨rfl,rfl⟩|⟨_,f⟩
  .exact absurd w (by simp only;omega)
  .rcases A1 z with⟨rfl,rfl⟩|⟨_,z⟩
   .exact absurd A (by simp only;omega)
   .exact h.linj l o3 b t3 f z w A hp
 .rcases J9 hj with⟨_,e,_⟩|⟨v,hj⟩
  .cases e
  .obtain⟨⟨l,b,J,t,B⟩,c2,A⟩:=h.mv j m' hj;exact⟨⟨l,b,J,Ew (λe=>by subst e;rw[ho] at t;cases t) t,B⟩,(bV (λd=>by have:=d.1;omega)).trans c2,A⟩
 .replace hj:Zd (Qu s.rm k m.pt m.ta o) j n a≠-1:=hj;show(∃(l:Nat),∃b,Zd (Qu s.rm k m.pt m.ta o) j n a=l/\_)\/_
  by_cases e:j=k/\n=m.pt/\a=m.ta
  .obtain⟨rfl,rfl,rfl⟩:=e;exact .inl ⟨o,_,by rw[E,bK ⟨rfl,rfl,rfl⟩],XH ((XC.1 ho).1),.inl rfl⟩
  .rw[bV e] at hj⊢;rcases h.own j n a hj with⟨l,b,O,u,x|⟨m',x,P,Q⟩⟩|g
   .exact .inl ⟨l,b,O,Ew (λe=>by subst e;rw[ho] at u;cases u) u,.inl x⟩
   .have R:j≠k:=λe2=>by
     subst e2;rw[Ds hm] at x;cases x
     exact e ⟨rfl,P.symm,Q.symm⟩
    exact .inl ⟨l,b,O,Ew (λe=>by subst e;rw[ho] at u;cases u) u,.inr ⟨m',Ul (s:=s) rfl R x,P,Q⟩⟩
   .exact .inr g
 .obtain⟨K,L,C,p4⟩:=h.ps o' q H I;have y:¬(q.cL=k/\q.cR=m.pt/\q.idx=m.ta):=λe=>by
   refine C m ?_ ⟨e.2.1.symm,e.2.2.symm⟩;rw[e.1];exact Ds hm
  refine⟨K,(bV y).trans L,λm' S=>C m' (N S).2,λl b f=>?_⟩;rcases A1 f with⟨rfl,rfl⟩|⟨_,f⟩
  .intro e;rw[<-e] at y;exact y ⟨rfl,rfl,rfl⟩
  .exact p4 l b f
 .obtain⟨n,r,K,L,C⟩:=h.pl o' q H I;refine⟨n,r,by show(n,r)∈(Qu s.rm k m.pt m.ta o).lg;rw[Xgl];exact K,L,λl b f w=>?_⟩;rcases A1 f with⟨rfl,rfl⟩|⟨_,f⟩
  .exact absurd w (by simp only;omega)
  .exact C l b f w
theorem StM.OkP.block(h:s.OkP c pd)(ho:s.th[o]?=some none)(hs:1<=size/\size<=c.cH)(hk:Xm c.bT size=(k:Nat))(hE:Gj s.rm k o=0):StM.OkP c {s with rm:=Qi s.rm k o,th:=s.th.set o (some ⟨size,⟨(k:Nat),Eu s.rm k o,Et s.rm k o,[]⟩⟩)} pd:=by
 obtain⟨t,F⟩:=Xcv h.rm hE;have bV:∀{j n a:Int},Zd s.rm j n a≠-1->Zd (Qi s.rm k o) j n a=Zd s.rm j n a:=λy=>by
  rw[t,bJ];rintro⟨rfl,rfl,rfl⟩;exact y F
 refine⟨h.may,h.rm.take _ _,h.kl,h.kr,h.bl,h.bi,by show((s.th.set _ _).length:Int)=_;rw[XG];exact h.tl,h.ml,λd f b=>?_,λd f b u=>?_,λd f b u=>?_,λd H f I b z m v J=>?_,λj m' l=>?_,λj n a l=>?_,λo' q A B=>?_,λo' q A B=>?_⟩
 .rcases A1 b with⟨rfl,rfl⟩|⟨_,b⟩
  .exact hs
  .exact h.size d f b
 .rcases A1 b with⟨rfl,rfl⟩|⟨y,b⟩
  .refine⟨hk.symm,rfl,?_⟩;show Zd (Qi s.rm k d) k _ _=d
   rw[t,bK ⟨rfl,rfl,rfl⟩]
  .obtain⟨w,p,x⟩:=h.small d f b u;exact⟨w,p,(bV (by rw[x];omega)).trans x⟩
 .show ∃n' r,(n',r)∈(Qi s.rm k o).lg/\_
  rw[Xb1];rcases A1 b with⟨rfl,rfl⟩|⟨_,b⟩
  .rw[hk] at u;omega
  .exact h.large d f b u
 .rcases A1 b with⟨rfl,rfl⟩|⟨_,b⟩
  .exact absurd m (by simp only;omega)
  .rcases A1 z with⟨rfl,rfl⟩|⟨_,z⟩
   .exact absurd v (by simp only;omega)
   .exact h.linj d H f I b z m v J
 .obtain⟨⟨d,f,w,p,x⟩,G,v⟩:=h.mv j m' l;exact⟨⟨d,f,w,Ew (λe=>by subst e;rw[ho] at p;cases p) p,x⟩,(bV (by rw[G,w];omega)).trans G,v⟩
 .replace l:Zd (Qi s.rm k o) j n a≠-1:=l;show(∃(d:Nat),∃f,Zd (Qi s.rm k o) j n a=d/\_)\/_
  by_cases e:j=k/\n=Eu s.rm k o/\a=Et s.rm k o
  .obtain⟨rfl,rfl,rfl⟩:=e;exact .inl ⟨o,_,by rw[t,bK ⟨rfl,rfl,rfl⟩],XH ((XC.1 ho).1),.inl rfl⟩
  .have e1:Zd (Qi s.rm k o) j n a=Zd s.rm j n a:=by rw[t,bJ e]
   rw[e1] at l⊢;rcases h.own j n a l with⟨d,f,K,C,L⟩|g
   .exact .inl ⟨d,f,K,Ew (λe=>by subst e;rw[ho] at C;cases C) C,L⟩
   .exact .inr g
 .obtain⟨D,i,E,M⟩:=h.ps o' q A B;refine⟨D,(bV (by rw[i];omega)).trans i,E,λd f b=>?_⟩;rcases A1 b with⟨rfl,rfl⟩|⟨_,b⟩
  .intro e;rw[<-e] at i;simp only at i
   rw[F] at i;omega
  .exact M d f b
 .obtain⟨n,r,D,i,E⟩:=h.pl o' q A B;refine⟨n,r,by show(n,r)∈(Qi s.rm k o).lg;rw[Xb1];exact D,i,λd f b m=>?_⟩;rcases A1 b with⟨rfl,rfl⟩|⟨_,b⟩
  .exact absurd m (by simp only;omega)
  .exact E d f b m
theorem StM.OkP.bS(h:s.OkP c pd)(ho:s.th[o]?=some none)(hs:1<=size/\size<=c.cH)(hf:Qf c s.rm size=0)(hp:Xm c.bT size=-1):StM.OkP c {s with rm:=Es s.rm (Z8 size c.size).toNat,th:=s.th.set o (some ⟨size,⟨-1,(s.rm.pl.free.getD 0 0:Nat),0,X4 (s.rm.pl.free.take (Z8 size c.size).toNat).tail⟩⟩)} pd:=by
 have V:=(XC.1 ho).1;obtain⟨f1,f2,_,_⟩:=Xi5 h.may hf hp;obtain⟨many,B⟩:∃many,many=(Z8 size c.size).toNat:=⟨_,rfl⟩;have M:Z8 size c.size=many:=by omega
 rw[<-B] at f1 f2⊢;obtain⟨m,u⟩:∃m,m=s.rm.pl.free.getD 0 0:=⟨_,rfl⟩;obtain⟨t,v⟩:∃t,t=(s.rm.pl.free.take many).tail:=⟨_,rfl⟩;have F:m∈s.rm.pl.free:=by
  rw[u,XA,XD (show 0<s.rm.pl.free.length by omega)];exact XM _
 have i:∀{n:Nat} {r:List Nat},(n,r)∈s.rm.lg->n≠m:=λ{n r} hm e=>by
  subst e;have b:=(h.rm.ok.lg n (I5 hm (ZO ..))).2;have w:=(h.rm.cU.cV.free _ F).2;omega
 have D:(Es s.rm many).lg=s.rm.lg++[(m,t)]:=by rw[u,v];rfl
 have N:t.length+1=many:=by rw[v,QS,XX];omega
 rw[<-u,<-v];refine⟨h.may,h.rm.big (by omega) f2,h.kl,h.kr,h.bl,h.bi,by show((s.th.set _ _).length:Int)=_;rw[XG];exact h.tl,h.ml,λf d b=>?_,λf d b w=>?_,λf d b w=>?_,λf O d P b K x L k=>?_,λj m' y=>?_,λj n a y=>?_,λo' q G z=>?_,λo' q G z=>?_⟩
 .rcases A1 b with⟨rfl,rfl⟩|⟨_,b⟩
  .exact hs
  .exact h.size f d b
 .rcases A1 b with⟨rfl,rfl⟩|⟨E,b⟩
  .exact absurd hp w
  .exact h.small f d b w
 .show ∃n' r,(n',r)∈(Es s.rm many).lg/\_
  rw[D];rcases A1 b with⟨rfl,rfl⟩|⟨_,b⟩
  .exact⟨m,t,by simp,rfl,by show((t.length:Int)+1)=Z8 size c.size;omega⟩
  .obtain⟨n',r,l,p⟩:=h.large f d b w;exact⟨n',r,QQ _ l,p⟩
 .have cR:∀{f:Nat} {d:ThM},s.th[f]?=some (some d)->d.q.cL=-1->d.q.cR≠(m:Int):=λ{f d} b x=>by
   have Q:=Decidable.byContradiction λE=>by
    have:=(h.small f d b E).1;omega
   obtain⟨n',r,l,p,_⟩:=h.large f d b Q;have:=i l;rw[p];simp only
   omega
  rcases A1 b with⟨e1,e2⟩|⟨_,l⟩
  .rcases A1 K with⟨e3,_⟩|⟨_,A⟩
   .exact e1.trans e3.symm
   .rw[e2] at k;exact absurd k.symm (cR A L)
  .rcases A1 K with⟨e3,e4⟩|⟨_,A⟩
   .rw[e4] at k;exact absurd k (cR l x)
   .exact h.linj f O d P l A x L k
 .obtain⟨⟨f,d,R,H,S⟩,T⟩:=h.mv j m' y;exact⟨⟨f,d,R,Ew (λe=>by subst e;rw[ho] at H;cases H) H,S⟩,T⟩
 .replace y:Zd s.rm j n a≠-1:=y;rcases h.own j n a y with⟨f,d,l,p,A⟩|g
  .exact .inl ⟨f,d,l,Ew (λe=>by subst e;rw[ho] at p;cases p) p,A⟩
  .exact .inr g
 .obtain⟨C,I,J,U⟩:=h.ps o' q G z;refine⟨C,I,J,λf d b=>?_⟩;rcases A1 b with⟨rfl,rfl⟩|⟨_,b⟩
  .intro e;rw[<-e] at z;exact z rfl
  .exact U f d b
 .obtain⟨n,r,C,I,J⟩:=h.pl o' q G z;refine⟨n,r,by show(n,r)∈(Es s.rm many).lg;rw[D];exact QQ _ C,I,λf d b x=>?_⟩;rcases A1 b with⟨rfl,rfl⟩|⟨_,b⟩
  .have:=i C;simp only
   omega
  .exact J f d b x
theorem StM.OkP.lay(h:s.OkP c pd)(ho:s.th[o]?=some none)(hf:Yt c s size=0)(hpd:∀o' q,pd=some (o',q)->o'=o):(Q2 c s o size).OkP c pd:=by
 obtain⟨f,g⟩:=Tx hf;have base:StM.OkP c {Yd c s o size with th:=s.th.set o (some ⟨size,Yl c s o size⟩)} pd:=by
  cases ht:Fq c s size with
  |some m=>
   have e1:Yd c s o size=Qk {s with mv:=s.mv.set (Xm c.bT size).toNat none,rm:=Qu s.rm (Xm c.bT size) m.pt m.ta o} 3:=by unfold Yd;rw[ht]
   have e2:Yl c s o size=⟨Xm c.bT size,m.pt,m.ta,[]⟩:=by unfold Yl;rw[ht]
   unfold Fq at ht;cases hm:Xx s (Xm c.bT size) with
   |none=>rw[hm] at ht;cases ht
   |some m'=>
    rw[hm] at ht;simp only at ht
    split at ht
    .cases ht
     obtain⟨k,b,_,n⟩:=Ah hm;rw[e1,e2,b,XB];exact(h.over ho f b n hpd).tot 3
    .cases ht
  |none=>
   have e1:Yd c s o size={s with rm:=Au c s.rm o size}:=by unfold Yd;rw[ht]
   have e2:Yl c s o size=Bx c s.rm o size:=by unfold Yl;rw[ht]
   have a:=g ht;rw[e1,e2];by_cases d:Xm c.bT size=-1
   .obtain⟨i,j⟩:=Xmy (c:=c) (who:=(o:Nat)) (by omega) a d;rw[i,j];exact h.bS ho f a d
   .obtain⟨i,j,p⟩:=Xmz (c:=c) (who:=(o:Nat)) (by omega) a d;have l:=Xi8 (who:=(o:Nat)) h.rm.ok (by omega) a;rw[p] at l;obtain⟨r,t⟩:=Uw d;obtain⟨k,b⟩:=XE r;rw[i,j];rw[b] at l⊢;exact h.block ho f b l
 have e:Q2 c s o size=Yp c {Yd c s o size with th:=s.th.set o (some ⟨size,Yl c s o size⟩)} (Yl c s o size) 0 (X6 (Z3 c (Yl c s o size).cQ).toNat):=by
  unfold Q2 Yp Qk;rw[XB]
 rw[e];exact base.put _ _ (Sw _)
theorem Xmv{q:PlcM}(h:q.cL≠-1):Qc M q=Q1 M q.cL q.cR q.idx:=by unfold Qc;rw[bK h]
theorem Xmu(hok:M.Ok c){r:List Nat}(hm:(n,r)∈M.lg):Qc M ⟨-1,(n:Nat),0,X4 r⟩=Im M n r:=by
 have a:Dc M.lg ((n:Nat):Int)=some r:=by
  cases b:Dc M.lg ((n:Nat):Int) with
  |none=>exact absurd rfl (T8 b _ hm)
  |some r'=>
   obtain⟨k,e,d⟩:=Ox b;have:k=n:=by omega
   subst this;rw[Xa0 hok.nd d hm]
 unfold Qc;rw[bJ (by simp)];simp only
 rw[a]
 simp
theorem StM.OkP.dropped{q:PlcM}(h:s.OkP c (some (o,q))):StM.Ok c {s with rm:=Qc s.rm q}:=by
 by_cases p:q.cL=-1
 .obtain⟨n,r,u,v,w⟩:=h.pl o q rfl p;rw[v,Xmu h.rm.ok u];refine⟨h.may,h.rm.cE u,h.kl,h.kr,h.bl,h.bi,h.tl,h.ml,h.size,h.small,λd f l t=>?_,h.linj,h.mv,λj n' a b=>.inl ?_,(by rintro _ _ ⟨⟩),(by rintro _ _ ⟨⟩)⟩
  .obtain⟨n',r',H,x,I⟩:=h.large d f l t;refine⟨n',r',?_,x,I⟩;show(n',r')∈Dq s.rm.lg n
   unfold Dq;refine QW.2 ⟨H,?_⟩;have:=w d f l (by rw[x]);rw[x] at this;simp only at this
   simp only[bne_iff_ne,ne_eq];omega
  .replace b:Zd s.rm j n' a≠-1:=b;rcases h.own j n' a b with g|⟨o',g⟩
   .exact g
   .have e:=(Prod.mk.inj (Option.some.inj g)).2;have B:j=-1:=by rw[e] at p;exact p
    exact absurd (by rw[B];unfold Zd;rw[Sg (by omega)]) b
 .obtain⟨u,v,w,J⟩:=h.ps o q rfl p;rw[Xmv p];obtain⟨M,C⟩:=Xeq h.rm (k:=q.cL) (n:=q.cR) (i:=q.idx) (by rw[v];omega);have bV:∀{j n' a:Int},¬(j=q.cL/\n'=q.cR/\a=q.idx)->Zd (Q1 s.rm q.cL q.cR q.idx) j n' a=Zd s.rm j n' a:=λm=>by rw[C,bJ m]
  refine⟨h.may,h.rm.give _ _ _,h.kl,h.kr,h.bl,h.bi,h.tl,h.ml,h.size,λd f l t=>?_,λd f l t=>?_,h.linj,λj m' b=>?_,λj n' a b=>.inl ?_,(by rintro _ _ ⟨⟩),(by rintro _ _ ⟨⟩)⟩
  .obtain⟨K,D,L⟩:=h.small d f l t;refine⟨K,D,(bV ?_).trans L⟩;rintro⟨y,z,A⟩;refine J d f l ?_;obtain⟨sz,E,F,G,N⟩:=f;obtain⟨O,P,Q,R⟩:=q;simp only at *
   rw[y,z,A,D,u]
  .show ∃n' r,(n',r)∈(Q1 s.rm q.cL q.cR q.idx).lg/\_
   rw[XbX];exact h.large d f l t
  .obtain⟨E,F,G⟩:=h.mv j m' b;refine⟨E,(bV ?_).trans F,G⟩;rintro⟨y,z,A⟩;exact w m' (by rw[<-y];exact Ds b) ⟨z,A⟩
  .replace b:Zd (Q1 s.rm q.cL q.cR q.idx) j n' a≠-1:=b;have m:¬(j=q.cL/\n'=q.cR/\a=q.idx):=λe=>by rw[C,bK e] at b;exact b rfl
   show ∃(d:Nat),∃f,Zd (Q1 s.rm q.cL q.cR q.idx) j n' a=d/\_
   rw[bV m] at b⊢;rcases h.own j n' a b with g|⟨o',g⟩
   .exact g
   .have e:=(Prod.mk.inj (Option.some.inj g)).2;exact absurd ⟨by rw[e],by rw[e],by rw[e]⟩ m
theorem StM.OkP.clear{q:PlcM}(h:s.OkP c (some (o,q))):(B9 c s q).Ok c:=by
 unfold B9;split
 .exact h.dropped
 .exact StM.OkP.go (StM.OkP.begin h.dropped _) _ _
theorem StM.OkP.away(h:s.Ok c){t:ThM}(ht:s.th[o]?=some (some t))(hm:∀(k:Nat) (m:MvM),s.mv[k]?=some (some m)->m.who≠(o:Nat)):StM.OkP c {s with th:=s.th.set o none} (some (o,t.q)):=by
 have f:∀{b:Nat} {d:ThM},(s.th.set o none)[b]?=some (some d)->b≠o/\s.th[b]?=some (some d):=λh1=>by
  rcases J9 h1 with⟨_,e,_⟩|h1
  .cases e
  .exact h1
 have p:∀{k:Nat} {m:MvM},s.mv[k]?=some (some m) -> ∀{b:Nat},m.who=(b:Nat)->b≠o:=λC b e1 e=>hm _ _ C (by rw[e1,e]);refine⟨h.may,h.rm,h.kl,h.kr,h.bl,h.bi,by show((s.th.set _ _).length:Int)=_;rw[XG];exact h.tl,h.ml,λb d h1=>h.size b d (f h1).2,λb d h1=>h.small b d (f h1).2,λb d h1=>h.large b d (f h1).2,λb D d F h1 L=>h.linj b D d F (f h1).2 (f L).2,λk m C=>?_,λj n a M=>?_,λo' q G w=>?_,λo' q G w=>?_⟩
 .obtain⟨⟨b,d,v,H,x⟩,y⟩:=h.mv k m C;exact⟨⟨b,d,v,Ew (p C v) H,x⟩,y⟩
 .rcases h.own j n a M with⟨b,d,z,u,A|⟨m,A,I,J⟩⟩|⟨_,g⟩
  .by_cases e:b=o
   .subst e;rw[ht] at u;cases u
    exact .inr ⟨b,by rw[A]⟩
   .exact .inl ⟨b,d,z,Ew e u,.inl A⟩
  .obtain⟨i,ei,_,B⟩:=Ah A;subst ei;obtain⟨⟨D,F,v,_⟩,y,_⟩:=h.mv i m B;have:(D:Int)=b:=by rw[<-v,<-y,I,J];exact z
   have l:=p B v;exact .inl ⟨b,d,z,Ew (by omega) u,.inr ⟨m,A,I,J⟩⟩
  .cases g
 .obtain⟨e1,e2⟩:=Prod.mk.inj (Option.some.inj G);subst e1;subst e2;obtain⟨v,H,x⟩:=h.small o t ht (P7 h ht w);refine⟨H,x,λm K=>?_,λb d h1 e=>?_⟩
  .obtain⟨i,ei,_,B⟩:=Ah K;rintro⟨N,O⟩;obtain⟨⟨D,F,E,_⟩,y,_⟩:=h.mv i m B;rw[N,O,<-ei,x,E] at y;exact p B E (by omega)
  .obtain⟨l,h1⟩:=f h1;obtain⟨_,_,P⟩:=h.small b d h1 (P7 h h1 (by rw[e];exact w));rw[e,x] at P;omega
 .obtain⟨e1,e2⟩:=Prod.mk.inj (Option.some.inj G);subst e1;subst e2;have Q:=Decidable.byContradiction λl=>by
   have h1:=(h.small o t ht l).1;rw[w] at h1;exact l h1.symm
  obtain⟨n,r,z,u,_⟩:=h.large o t ht Q;refine⟨n,r,z,u,λb d h1 E e=>?_⟩;obtain⟨l,h1⟩:=f h1;exact l (h.linj b o d t h1 ht E w (by rw[e,u]))
end
section
variable {c:Conf}{s:StM}{pd:Option (Nat×PlcM)}
theorem N6(c:Conf)(s:StM)(k:Nat):(Yv c s k).th=s.th/\(Yv c s k).bV=s.bV/\(Yv c s k).bs=s.bs/\(Yv c s k).mv.length=s.mv.length:=by
 unfold Yv;split
 .exact⟨rfl,rfl,rfl,XG⟩
 .exact⟨rfl,rfl,rfl,rfl⟩
theorem Xer(s:StM)(k:Nat)(n:Int):(Yo s k n).bV=s.bV/\(Yo s k n).th.length=s.th.length/\(Yo s k n).mv.length=s.mv.length/\(Yo s k n).rm.lg=s.rm.lg:=by
 unfold Yo;split
 .exact⟨rfl,rfl,rfl,rfl⟩
 .split
  .exact⟨rfl,rfl,XG,rfl⟩
  .exact⟨rfl,XG,XG,XbX _ _ _ _⟩
theorem Xjm(h:s.Ok c)(k:Nat)(n:Int):(∀(o:Nat) t,s.th[o]?=some (some t) -> ∃t',(Yo s k n).th[o]?=some (some t')/\t'.size=t.size/\t'.q.cL=t.q.cL/\t'.q.bS=t.q.bS/\(t.q.cL≠(k:Nat)->t'=t))/\(∀o:Nat,s.th[o]?=some none->(Yo s k n).th[o]?=some none)/\∀j:Int,j≠k->Xx (Yo s k n) j=Xx s j:=by
 unfold Yo;cases l:Xx s (k:Nat) with
 |none=>exact⟨λo t ht=>⟨t,ht,rfl,rfl,rfl,λ_=>rfl⟩,λ_ h=>h,λ_ _=>rfl⟩
 |some m=>
  obtain⟨j,ej,q,hm⟩:=Ah l;obtain rfl:k=j:=by omega
  have d:∀{s':StM} {v:Option MvM},s'.mv=s.mv.set k v -> ∀j:Int,j≠k->Xx s' j=Xx s j:=λ{s' v} e j f=>by
   unfold Xx;split
   .rename_i r
    rw[e,XA,XA,XK (by omega)]
   .rfl
  simp only
  split
  .exact⟨λo t ht=>⟨t,ht,rfl,rfl,rfl,λ_=>rfl⟩,λ_ h=>h,d rfl⟩
  .obtain⟨⟨o,t,e1,e2,e3⟩,_⟩:=h.mv k m hm;have i:Ab s m.who=t.size:=by unfold Ab;rw[e1,Hd e2]
   have g:m.who.toNat=o:=by omega
   refine⟨λb p a=>?_,λb a=>?_,d rfl⟩
   .show ∃t',(s.th.set m.who.toNat _)[b]?=_/\_
    rw[g,i];by_cases e:b=o
    .subst e;rw[e2] at a;cases a
     exact⟨_,XH ((XC.1 e2).1),rfl,by rw[e3],by rw[e3],λf=>absurd (by rw[e3]) f⟩
    .exact⟨p,Ew e a,rfl,rfl,rfl,λ_=>rfl⟩
   .show(s.th.set m.who.toNat _)[b]?=_
    rw[g,XK (λe=>by subst e;rw[e2] at a;cases a)];exact a
theorem Xjl(h:s.Ok c){m:MvM}(hm:s.mv[k]?=some (some m)){n:Int}(hn:(m.size-m.cE:Nat)<=n):Xx (Yo s k n) (k:Nat)=none:=by
 have a:=(h.mv k m hm).2.2.2.2.2.2;unfold Yo;rw[Ds hm];simp only
 have b:Zt m n=m.size-m.cE:=by unfold Zt D7;omega
 rw[bJ (by omega)];unfold Xx;rw[bK (by omega)];show((s.mv.set k none).getD _ none)=none
 rw[XB,XA,XH ((XC.1 hm).1)];rfl
structure XhW(c:Conf)(s s':StM)(κ:Int):Prop where
 ok:s'.Ok c
 mv:Xx s' κ=none
 other:∀j:Int,j≠κ->Xx s' j=Xx s j
 th:∀(o:Nat) t,s.th[o]?=some (some t) -> ∃t',s'.th[o]?=some (some t')/\t'.size=t.size/\t'.q.cL=t.q.cL/\t'.q.bS=t.q.bS/\(t.q.cL≠κ->t'=t)
 no:∀o:Nat,s.th[o]?=some none->s'.th[o]?=some none
 bV:s'.bV=s.bV/\s'.th.length=s.th.length/\s'.mv.length=s.mv.length/\s'.rm.lg=s.rm.lg
theorem Mi(h:s.Ok c)(κ:Int):XhW c s (Zg s κ) κ:=by
 have a:=h.finish κ;unfold Zg at a⊢;cases hm:Xx s κ with
 |none=>exact⟨h,hm,λ_ _=>rfl,λo t ht=>⟨t,ht,rfl,rfl,rfl,λ_=>rfl⟩,λ_ h=>h,rfl,rfl,rfl,rfl⟩
 |some m=>
  rw[hm] at a;obtain⟨k,rfl,g,b⟩:=Ah hm;simp only[XB] at a⊢;obtain⟨d,e,f⟩:=Xjm h k (m.size:Nat);exact⟨a,Xjl h b (by omega),f,d,e,Xer s k _⟩
theorem Qo{t:ThM}(h:s.th[o]?=some (some t)):Y7 s (o:Nat)=t.q:=by unfold Y7;rw[Hd h]
theorem Ev{t:ThM}(h:s.th[o]?=some (some t)):Ab s (o:Nat)=t.size:=by unfold Ab;rw[Hd h]
theorem Oh(h:s.Ok c){t:ThM}(ht:s.th[o]?=some (some t)):∃t',(Zg s t.q.cL).th[o]?=some (some t')/\t'.size=t.size/\t'.q.cL=t.q.cL/\t'.q.bS=t.q.bS/\(∀(k:Nat) (m:MvM),(Zg s t.q.cL).mv[k]?=some (some m)->m.who≠(o:Nat)):=by
 have F:=Mi h t.q.cL;obtain⟨t',b,f,a,g,_⟩:=F.th o t ht;refine⟨t',b,f,a,g,λk m hm e=>?_⟩;obtain⟨⟨i,l,n,d,j⟩,_⟩:=F.ok.mv k m hm;obtain rfl:i=o:=by omega
 rw[b] at d;cases d
 have:Xx (Zg s t.q.cL) (k:Nat)=some m:=Ds hm;rw[j] at a;simp only at a
 rw[a,F.mv] at this;cases this
theorem J0{o:Int}(h:Z5 s o=0):∃(j:Nat),∃t,o=j/\s.th[j]?=some (some t):=by
 unfold Z5 at h;split at h
 .exact absurd h (by decide)
 .cases ht:A9 s o with
  |none=>rw[ht] at h;exact absurd (show(9:Int)=0 from h) (by decide)
  |some t=>
   obtain⟨j,e,_,a⟩:=Xcz ht;exact⟨j,t,e,a⟩
theorem Xbn{o:Int}(h1:Z5 s o≠1)(h0:Z5 s o≠0):∃j:Nat,o=j/\j<s.th.length/\s.th[j]?=some none:=by
 unfold Z5 at h1 h0;split at h1
 .exact absurd rfl h1
 .rename_i hr
  rw[bJ hr] at h0;obtain⟨j,rfl⟩:=XE (show 0<=o by omega);have a:j<s.th.length:=by omega
  refine⟨j,rfl,a,?_⟩;cases b:s.th[j] with
  |none=>rw[XD a,b]
  |some t=>
   have:A9 s (j:Nat)=some t:=Hd (by rw[XD a,b]);rw[this] at h0;exact absurd rfl h0
theorem W7{o:Int}(h:Ck c s o size=0):∃j:Nat,o=j/\j<s.th.length/\s.th[j]?=some none/\Yt c s size=0:=by
 unfold Ck at h;split at h
 .exact absurd h (by decide)
 .rename_i e
  split at h
  .exact absurd h (by decide)
  .rename_i f
   obtain⟨j,a,b,d⟩:=Xbn e f;exact⟨j,a,b,d,h⟩
theorem StM.OkP.alloc(h:s.Ok c)(o size:Int):(Aa c s o size).Ok c:=by
 unfold Aa;split
 .rename_i a
  obtain⟨j,rfl,_,b,hf⟩:=W7 a;exact StM.OkP.lay h b hf (by rintro _ _ ⟨⟩)
 .exact h
theorem StM.OkP.free(h:s.Ok c)(o:Int):(Bl c s o).Ok c:=by
 unfold Bl;split
 .exact h
 .rename_i b
  obtain⟨j,t,rfl,ht⟩:=J0 (YK.1 b);rw[Qo ht];obtain⟨t',a,_,_,_,d⟩:=Oh h ht;rw[Qo a,XB];exact((Mi h t.q.cL).ok.away a d).clear
theorem StM.OkP.wrote(h:s.OkP c pd)(o:Int)(i n:Nat)(hi:∀m,Xx s (Y7 s o).cL=some m->i+n<=m.size):(Aj s o i n).OkP c pd:=by
 unfold Aj;split
 .rename_i m hm
  split
  .obtain⟨k,_,_,a⟩:=Ah hm;obtain⟨b,d,e,_⟩:=Ks h a;have:=hi m hm;refine h.bytes ?_ ?_ _
   .unfold Ex;split
    .rfl
    .unfold Q4 at *;exact P8 (by omega) (by omega)
   .unfold Ex;split
    .exact h.bi
    .exact XdW h.bi
  .exact h
 .exact h
theorem StM.OkP.sized(h:s.Ok c){t:ThM}(ht:s.th[o]?=some (some t))(hs:A0 c t.size size=true)(hr:1<=size/\size<=c.cH):(D5 s (o:Nat) ⟨size,t.q⟩).Ok c:=by
 unfold A0 at hs;simp only[XJ,Bool.or_eq_true,decide_eq_true_eq] at hs;obtain⟨B,F⟩:=hs;have p:∀{b:Nat} {d:ThM},(s.th.set o (some ⟨size,t.q⟩))[b]?=some (some d) -> ∃f,s.th[b]?=some (some f)/\d.q=f.q/\((b=o/\f=t/\d.size=size)\/(b≠o/\d=f)):=λi=>by
  rcases A1 i with⟨rfl,rfl⟩|⟨w,i⟩
  .exact⟨t,ht,rfl,.inl ⟨rfl,rfl,rfl⟩⟩
  .exact⟨_,i,rfl,.inr ⟨w,rfl⟩⟩
 have x:∀{b:Nat} {f:ThM},s.th[b]?=some (some f) -> ∃d,(s.th.set o (some ⟨size,t.q⟩))[b]?=some (some d)/\d.q=f.q:=λ{b f} i=>by
  by_cases e:b=o
  .subst e;rw[ht] at i;cases i
   exact⟨_,XH ((XC.1 ht).1),rfl⟩
  .exact⟨f,Ew e i,rfl⟩
 unfold D5;rw[XB];refine⟨h.may,h.rm,h.kl,h.kr,h.bl,h.bi,by show((s.th.set _ _).length:Int)=_;rw[XG];exact h.tl,h.ml,λb d i=>?_,λb d i q=>?_,λb d i q=>?_,λb G d P i q E A C=>?_,λk m H=>?_,λj n a I=>.inl ?_,(by rintro _ _ ⟨⟩),(by rintro _ _ ⟨⟩)⟩
 .obtain⟨f,l,u,⟨_,_,v⟩|⟨_,rfl⟩⟩:=p i
  .rw[v];exact hr
  .exact h.size b d l
 .obtain⟨f,l,u,⟨_,D,v⟩|⟨_,rfl⟩⟩:=p i
  .subst D;rw[v,<-B] at q;rw[u,v,<-B];exact h.small b f l q
  .exact h.small b d l q
 .obtain⟨f,l,u,⟨_,D,v⟩|⟨_,rfl⟩⟩:=p i
  .subst D;rw[v,<-B] at q;obtain⟨n,r,y,z,J⟩:=h.large b f l q;refine⟨n,r,y,u.trans z,?_⟩;rw[J,v];unfold Z8;rw[(F.resolve_left (λw=>w q))]
  .exact h.large b d l q
 .obtain⟨f,l,u,_⟩:=p i;obtain⟨K,y,z,_⟩:=p q;rw[u] at E C;rw[z] at A C;exact h.linj b G f K l y E A C
 .obtain⟨⟨b,f,L,M,N⟩,A⟩:=h.mv k m H;obtain⟨d,l,u⟩:=x M;exact⟨⟨b,d,L,l,u.trans N⟩,A⟩
 .rcases h.own j n a I with⟨b,f,l,u,O⟩|⟨_,g⟩
  .obtain⟨d,y,z⟩:=x u;exact⟨b,d,l,y,by rw[z];exact O⟩
  .cases g
theorem XjT(c:Conf)(s:StM)(o:Nat)(size:Int):Q2 c {s with th:=s.th.set o none} o size=Q2 c s o size:=by
 have e1:Fq c {s with th:=s.th.set o none} size=Fq c s size:=rfl;have e2:Yl c {s with th:=s.th.set o none} o size=Yl c s o size:=rfl;have e3:Yd c {s with th:=s.th.set o none} o size={Yd c s o size with th:=s.th.set o none}:=by unfold Yd;rw[e1];split <;> rfl
 unfold Q2;rw[e2,e3];simp only[List.set_set,XB];rfl
theorem Xeo(M:RmM)(k n i:Int)(h:Y9 c M):M.pl.free.length<=(Q1 M k n i).pl.free.length/\∀j,j≠k->Qn (Q1 M k n i) j=Qn M j:=by
 unfold Q1;cases a:Zp M k with
 |none=>exact⟨XF _,λ_ _=>rfl⟩
 |some x=>
  obtain⟨l,rfl,b,e⟩:=G9 a;simp only[XB];split
  .refine⟨?_,λj d=>?_⟩
   .show _<=(Bk x M.pl n i).free.length
    unfold Bk;split
    .split
     .show _<=(PlM.give M.pl _).free.length
      unfold PlM.give
      simp
     .exact XF _
    .exact XF _
   .show Qn (Gi M l (Af x n i) (Bk x M.pl n i)) j=_
    unfold Qn;rw[Xgk b,bJ d]
  .exact⟨XF _,λ_ _=>rfl⟩
theorem Xmw{M':RmM}(h1:M.pl.free.length<=M'.pl.free.length)(h2:Qn M' (Xm c.bT size)=Qn M (Xm c.bT size))(h:Qf c M size=0):Qf c M' size=0:=by
 unfold Qf at h⊢;split at h
 .exact absurd h (by decide)
 .rename_i hr
  rw[bJ hr];split at h
  .exact absurd h (by decide)
  .rename_i a
   rw[bJ];unfold Dd at a⊢;rw[h2];omega
theorem Xi7(h:s.Ok c){κ:Int}(hne:Xm c.bT size=-1\/Xm c.bT size≠κ)(hf:Yt c s size=0):Yt c (Zg s κ) size=0:=by
 unfold Yt at hf⊢;split at hf
 .exact absurd hf (by decide)
 .rename_i hr
  rw[bJ hr];have d:Xx (Zg s κ) (Xm c.bT size)=Xx s (Xm c.bT size):=by
   rcases hne with e|e
   .rw[e];rfl
   .exact(Mi h κ).other _ e
  rw[d];split at hf
  .rename_i a;rw[bK a]
  .rename_i a
   rw[bJ a];refine Xmw ?_ ?_ hf
   .unfold Zg;split
    .exact XF _
    .rename_i m hm
     obtain⟨k,rfl,_,b⟩:=Ah hm;rw[XB];unfold Yo;rw[hm];simp only
     split
     .exact XF _
     .exact(Xeo _ _ _ _ (StM.OkP.step h b _).rm).1
   .unfold Zg;split
    .rfl
    .rename_i m hm
     obtain⟨k,rfl,_,b⟩:=Ah hm;rw[XB];unfold Yo;rw[hm];simp only
     split
     .rfl
     .rcases hne with e|e
      .rw[e];unfold Qn;rw[Sg (by omega),Sg (by omega)]
      .exact(Xeo _ _ _ _ (StM.OkP.step h b _).rm).2 _ e
theorem Pt(hb:Qh bs)(i n:Nat):Qh (Yg c q bs i n):=λx a=>by
 unfold Yg at a;obtain⟨j,_,rfl⟩:=XQ.1 a;rw[XA];cases b:bs[(B2 c q (i+j)).toNat]? with
 |none=>exact⟨QN _,by decide⟩
 |some y=>exact hb y (XW b)
theorem U8{o:Int}(h:A7 c s o size=0):∃(j:Nat),∃t,o=j/\s.th[j]?=some (some t)/\(1<=size/\size<=c.cH)/\(A0 c t.size size=true\/(A0 c t.size size=false/\Yt c s size=0)):=by
 unfold A7 at h;by_cases a:Z5 s o=0
 .rw[bJ (λd=>d a)] at h;obtain⟨j,t,rfl,ht⟩:=J0 a;split at h
  .exact absurd h (by decide)
  .rename_i hr
   rw[Ev ht] at h;refine⟨j,t,rfl,ht,by omega,?_⟩;split at h
   .rename_i b;exact .inl b
   .rename_i b;exact .inr ⟨by simpa using b,h⟩
 .rw[bK a] at h;exact absurd h a
theorem Xnx{old:Int}(h:A0 c old size=false):Xm c.bT size=-1\/Xm c.bT size≠Xm c.bT old:=by
 unfold A0 at h;by_cases e:Xm c.bT old=Xm c.bT size
 .rw[bN e,YI] at h;by_cases e1:Xm c.bT old=-1
  .exact .inl (by omega)
  .rw[bN e1,Bool.true_or] at h;cases h
 .exact .inr (λh=>e h.symm)
theorem XdN(h:s.OkP c pd){t:ThM}(ht:s.th[o]?=some (some t)):t.q.cL=Xm c.bT t.size:=by
 by_cases a:Xm c.bT t.size=-1
 .obtain⟨n,r,_,e,_⟩:=h.large o t ht a;rw[e,a]
 .exact(h.small o t ht a).1
structure XhY(c:Conf)(s:StM)(o:Nat)(t:ThM)(size:Int)(t':ThM):Prop where
 ok1:(Zg s t.q.cL).Ok c
 th1:(Zg s t.q.cL).th[o]?=some (some t')
 size':t'.size=t.size
 cls':t'.q.cL=t.q.cL
 pages':t'.q.bS=t.q.bS
 away:StM.OkP c {Zg s t.q.cL with th:=(Zg s t.q.cL).th.set o none} (some (o,t'.q))
 fits:Yt c (Zg s t.q.cL) size=0
 ok2:(Q2 c (Qk (Zg s t.q.cL) (Zi c t'.q.cQ 0 (min t.size size).toNat)) o size).OkP c (some (o,t'.q))
theorem Ru(h:s.Ok c){t:ThM}(ht:s.th[o]?=some (some t))(hs:A0 c t.size size=false)(hf:Yt c s size=0):∃t',XhY c s o t size t':=by
 obtain⟨t',b,g,i,j,k⟩:=Oh h ht;have F:=Mi h t.q.cL;have a:=Xi7 (κ:=t.q.cL) h (by rw[(XdN h ht)];exact Xnx hs) hf;have d:=F.ok.away b k;refine⟨t',F.ok,b,g,i,j,d,a,?_⟩;have f:=StM.OkP.lay (o:=o) (size:=size) (d.tot (Zi c t'.q.cQ 0 (min t.size size).toNat)) (by show((Zg s t.q.cL).th.set o none)[o]?=_;rw[XH ((XC.1 b).1)]) a (λo' q e=>by cases e;rfl);have e:Qk {Zg s t.q.cL with th:=(Zg s t.q.cL).th.set o none} (Zi c t'.q.cQ 0 (min t.size size).toNat)={Qk (Zg s t.q.cL) (Zi c t'.q.cQ 0 (min t.size size).toNat) with th:=(Qk (Zg s t.q.cL) (Zi c t'.q.cQ 0 (min t.size size).toNat)).th.set o none}:=rfl;rw[e,XjT] at f;exact f
theorem StM.OkP.moveTo(h:s.Ok c){t:ThM}(ht:s.th[o]?=some (some t))(hs:A0 c t.size size=false)(hf:Yt c s size=0):(Ka c s o size).Ok c:=by
 obtain⟨t',M⟩:=Ru h ht hs hf;unfold Ka;simp only
 rw[Qo ht,Qo M.th1,Ev ht];exact(M.ok2.put _ _ (Pt M.ok1.bi _ _)).clear
theorem Xfz{n:Int}(h:Xm zs n=(k:Nat)):n<=zs.getD k 0:=by
 unfold Xm at h;split at h
 .omega
 .unfold idx at h;split at h
  .rename_i i a
   obtain⟨b,c,_⟩:=YN.1 a;obtain rfl:i=k:=by omega
   rw[XA,XD b];exact bL c
  .omega
theorem Ro(h:s.OkP c pd){m:MvM}(hm:s.mv[k]?=some (some m)){t:ThM}(ht:s.th[o]?=some (some t))(hc:t.q.cL=(k:Nat)):t.size<=m.size:=by
 have a:=XdN h ht;rw[hc] at a;rw[((h.mv k m hm).2.2.2.2.2.1)];unfold Z6;rw[XB];have b:Xm c.bT t.size≠-1:=by omega
 obtain⟨_,d⟩:=Uw b;exact Xfz a.symm
theorem StM.OkP.resize(h:s.Ok c)(o size:Int):(Ai c s o size).Ok c:=by
 unfold Ai;split
 .exact h
 .rename_i e
  obtain⟨j,t,rfl,ht,hr,b⟩:=U8 (YK.1 e);rw[Ev ht,Qo ht];split
  .rename_i a
   split
   .rename_i g
    refine(StM.OkP.sized (h.put t.q size.toNat (Sw (t.size-size).toNat)) (o:=j) (t:=t) ht a hr).wrote _ _ _ λm hm=>?_;have i:=h.size j t ht;have f:(D5 (Yp c s t.q size.toNat (X6 (t.size-size).toNat)) (j:Nat) ⟨size,t.q⟩).th[j]?=some (some ⟨size,t.q⟩):=by
     show(s.th.set (j:Int).toNat _)[j]?=_
     rw[XB,XH ((XC.1 ht).1)]
    rw[Qo f] at hm;obtain⟨k,ek,_,d⟩:=Ah hm;have:=Ro h (k:=k) (m:=m) d ht ek;omega
   .exact h.sized ht a hr
  .rename_i a
   rcases b with b|⟨b,hf⟩
   .exact absurd b a
   .exact h.moveTo ht b hf
theorem V2{o i n:Int}(h:Ql s o i n=0):∃(j:Nat),∃t,o=j/\s.th[j]?=some (some t)/\0<=i/\0<=n/\i+n<=t.size:=by
 unfold Ql at h;by_cases a:Z5 s o=0
 .rw[bJ (λb=>b a)] at h;obtain⟨j,t,rfl,ht⟩:=J0 a;rw[Ev ht] at h;split at h
  .exact absurd h (by decide)
  .exact⟨j,t,rfl,ht,by omega,by omega,by omega⟩
 .rw[bK a] at h;exact absurd h a
theorem StM.OkP.read(h:s.Ok c)(o i n:Int):(Cu c s o i n).Ok c:=by
 unfold Cu;split
 .exact h.tot _
 .exact h
theorem StM.OkP.write(h:s.Ok c)(o i:Int)(hl:Qh l):(Dg c s o i l).Ok c:=by
 unfold Dg;split
 .rename_i b
  obtain⟨j,t,rfl,ht,d,_,e⟩:=V2 b;refine(h.put _ _ hl).wrote _ _ _ λm hm=>?_;rw[(Qo (s:=Yp c s (Y7 s (j:Nat)) i.toNat l) ht)] at hm;obtain⟨k,ek,_,a⟩:=Ah hm;have:=Ro h (k:=k) (m:=m) a ht ek;omega
 .exact h
theorem StM.OkP.tickK(h:s.Ok c)(n:Int)(k:Nat):(tickK c (s,n) k).1.Ok c:=by
 unfold Go.Proofs.YtdeihcnepljjaaaGreatDoor.tickK;split
 .exact h
 .split
  .exact h.begin k
  .exact(StM.OkP.begin h k).go k _
theorem Nq(c:Conf)(s:StM)(n:Nat):tickTo c s (n+1)=tickK c (tickTo c s n) n:=by
 unfold tickTo;rw[QC,List.foldl_append];rfl
theorem StM.OkP.tickTo(h:s.Ok c):∀n,(tickTo c s n).1.Ok c
 |0=>h
 |n+1=>by rw[Nq];exact StM.OkP.tickK (StM.OkP.tickTo h n) _ _
theorem StM.OkP.tick(h:s.Ok c):(D6 c s).Ok c:=h.tickTo _
theorem StM.OkP.set(h:s.Ok c)(k bV:Int):(Df s k bV).Ok c:=by
 unfold Df;split
 .rename_i a
  unfold Ca at a;split at a
  .exact absurd a (by decide)
  .refine⟨h.may,h.rm,by show(s.bV.set _ _).length=_;rw[XG];exact h.kl,λx b=>?_,h.bl,h.bi,h.tl,h.ml,h.size,h.small,h.large,h.linj,h.mv,h.own,h.ps,h.pl⟩;rcases ZN b with b|rfl
   .exact h.kr x b
   .omega
 .exact h
end
structure Iu(F:Nat->Prop)(w:dD)(R:Rm)(z:Nat):Prop where
 f:¬F z
 rb:R.rb≠z
 sb:R.sb≠z
 tb:1≠z
 ca:∀off s,R.p.ca≠some ⟨z,off,s⟩
 ka:∀off s,R.p.ka≠some ⟨z,off,s⟩
 lb:kd w z≠some (some 352)
 pg:kd w z≠some (some 348)
 int:kd w z=some (some 3)->R.X z
theorem Zm.other(h:Zm F w R M)(hc:Xc S w w')(hS:∀z,S z->Iu F w R z):Zm F w' R M:=by
 have q:=hc.size;have out:∀{a:Option Addr} {l:List Int},A3 F w a l->(∀z,S z -> ∀off s,a≠some ⟨z,off,s⟩)->A3 F w' a l:=λ{a l} g n=>⟨g.1.bW (λb off s e c=>n b c off s e) hc,g.2⟩;have pb:¬S R.P.pb:=λc=>(hS _ c).f (h.pf _ (.inl rfl));have ab:¬S R.P.ab:=λc=>(hS _ c).f (h.pf _ (.inr rfl));refine⟨h.ok,hc.heap h.obj (λc=>(hS _ c).rb rfl),out h.cL (λz c=>(hS z c).ca),out h.kee (λz c=>(hS z c).ka),h.may,λb o=>?_,λk i=>hc.cell (h.sl k i) (λc=>(hS _ c).sb rfl),h.pool.bR hc pb ab,h.pf,?_,h.lg.bR hc (λz c e=>.inr ((hS z e).int c)) (λc=>(hS _ c).f h.lf),h.lf,h.rf,h.sf,λz c=>by have:=h.low z c;omega,h.tab.bR hc (λc=>(hS _ c).tb rfl),h.tf,λz c=>⟨by have:=(h.xl z c).1;omega,(h.xl z c).2⟩⟩
 .obtain⟨f,hm⟩:=h.met b o;exact⟨f,hc.heap hm.1 (λe=>(hS _ e).f f),hm.2⟩
 .obtain⟨G,a,e⟩:=h.sh;refine⟨G,λk x p=>?_,e⟩;obtain⟨f,d,j⟩:=a k x p;have nf:∀z,S z -> ¬Qg (R.S _) (G _) x.pg z:=λz c hf=>(hS z c).f (j z hf).1;exact⟨f,⟨d.ok,d.pos,d.of,d.at'.bR hc (λz c=>⟨λe=>nf z c (.inl e),λe=>nf z c (.inr (.inl e)),λe=>(hS z c).lb (e▸d.at'.kds.lb),λe=>nf z c (.inr (.inr (.inl e)))⟩) (λz c e m=>⟨λe'=>(hS z c).pg (e'▸(d.at'.bS e m).kds.p),λe'=>nf z c (.inr (.inr (.inr ⟨e,m,e'⟩)))⟩) (λc=>(hS _ c).tb rfl),d.pool.bR hc (by rw[f];exact pb) (by rw[f];exact ab)⟩,j⟩
theorem XnU{off:Nat}(h:off+m<=n):sub (X6 n) off m=List.replicate m 0:=by
 unfold sub X6;rw[List.drop_replicate,List.take_replicate,Nat.min_eq_left (by omega)]
theorem Xoj(v:Vw)(vb:Nat)(A:Ar)(V:ArV)(i m:Nat)(w:dD)(hvb:G5 w vb v)(hv:w.heap[v.vb]?=some (.cells (Nt v).toArray 226 (0,0)))(hab:v.ab=A.ab)(hA:X8 w A V)(him:i+m<=V.bs.length):Xe prog 171 #[.int .i64 i,.int .i64 m,.pointer (some ⟨vb,0,none⟩)] w (λ_ w'=>X8 w' A {V.cT A m with bs:=Q3 V.bs i (List.replicate m 0)}/\Xc (Zw A) w w'):=by
 refine aR func171 ntmps171 aA (bB hvb aA (bB hv aA ?_));rw[hab];refine aP aA (Xif A V i m 0 w hA him (by decide)) ?_;rintro _ c ⟨rfl,a,b⟩;exact aN aA (bE func171 aA ⟨a,b⟩)
theorem Xoi(v:Vw)(q:Plc)(at' n:Nat)(A:Ar)(V:ArV)(w:dD)(hv:Bn w v)(hq:Zo w q)(hmb:v.mb=A.mb)(hab:v.ab=A.ab)(hck:Qq v.c q at' n=0)(hfew:q.bS.length<=4096)(hPv:¬Zw A v.vb)(hPq:0<q.bS.length->Xj (Zw A) q.pa)(hPc:0<v.c.bT.length->Xj (Zw A) v.p.ca)(hPk:0<v.c.bV.length->Xj (Zw A) v.p.ka)(hA:X8 w A V)(hlen:(V.bs.length:Int)=v.c.size*v.c.bS):Xe prog 112 #[Fs v,.agg (Xv q).toArray,.int .i64 at',.int .i64 n] w (λu w'=>u=.int .i64 0/\X8 w' A (B1 q A V (Zu v.c q at' n) (X6 n) (Zu v.c q at' n).length)/\Xc (Zw A) w w'):=by
 obtain⟨ps,c⟩:∃ps,ps=Zu v.c q at' n:=⟨_,rfl⟩;have f:∀p∈ps,∃i m:Nat,p=((i:Int),(m:Int))/\i+m<=V.bs.length:=λp g=>by
  obtain⟨i,m,W,h2⟩:=R0 hv.may hck hfew p (c▸g);exact⟨i,m,W,by omega⟩
 have H:Zn ps=n:=by rw[c];exact O5 hv.may
 have K:(X6 n).length=n:=XI;rw[<-c];refine aR func112 ntmps112 aA (bC aA λvb w1 e1 L M a5=>bC aA λqb j e2 l E a6=>?_);replace l:Jc j qb q:=l;have o:=M.trans E;have r:G5 j vb v:=E.bP L;refine bB r aA (bB l aA ?_);have d:=foot_lt hA;have b:∀z,Yu A z->Zw A z:=λz h=>.inr h;have a7:=Xg hv.obj;have N:=XcJ v q at' n 171 [.pointer (some ⟨vb,0,none⟩)] A (B1 q A V ps (X6 n))
  (λk Y x=>(∀z,Y z↔Zw A z)/\G5 x vb v/\x.heap[v.vb]?=some (.cells (Nt v).toArray 226 (0,0))/\j.heap.size<=x.heap.size)
  (Zw A) j (hv.bQ o) (hq.bQ o) hmb hck hfew
  (by rintro(h|h);exact hPv h;exact hPv (b _ h))
  (hq.rd.outNew hPq (λz a=>by rcases a with h|h;exact .inl h;exact .inl (b _ h)))
  (hv.cO.bT.outNew hPc (λz a=>by rcases a with h|h;exact .inl h;exact .inl (b _ h)))
  (hv.cO.bV.outNew hPk (λz a=>by rcases a with h|h;exact .inl h;exact .inl (b _ h)))
  (by
   rintro k Y x ⟨e,s,t,B⟩ z a;have:=d z ((e z).1 a);omega)
  (by
   rintro k Y x y S ⟨e,s,t,B⟩ I hS;have no:∀z,z<j.heap.size -> ¬Yu A z -> ¬S z:=λz a hm h=>(hS z h).elim hm (λh=>by omega);exact⟨e,I.heap s (no _ (by omega) (λh=>by have:=d _ (b _ h);omega)),I.heap t (no _ (by omega) (λh=>hPv (b _ h))),ZZ B I.size⟩)
  (by
   rintro k Y x C O ⟨e,s,t,B⟩;rw[<-c] at C;obtain⟨i,m,g,P⟩:=f ps[k] (XM C);have F:(B3 q A (B1 q A V ps (X6 n) k)).bs=(B1 q A V ps (X6 n) k).bs:=Tp _ _ _;have J:(B1 q A V ps (X6 n) k).bs.length=V.bs.length:=XcN f (by rw[K];exact H) (by omega);have G:=Sq C;rw[g] at G;simp only[XB] at G;have hR:=Xoj v vb A (B3 q A (B1 q A V ps (X6 n) k)) i m x s t hab O (by rw[F,J];exact P);simp only[<-c];rw[g];refine hR.mono λ_ y ⟨Q,D⟩=>?_;rw[F] at Q;refine⟨by rw[St C g,XnU (by omega)];exact Q,D.mono λz _ a=>(e z).2 a,Y,⟨e,?_,?_,ZZ B D.size⟩,λz a=>.inl a⟩
   .exact D.heap s (λh=>by have:=d _ h;omega)
   .exact D.heap t hPv)
  (hA.bQ o) ⟨λz=>Iff.rfl,r,o.bP hv.obj,XF _⟩
 rw[<-c] at N;refine aP aA (N) ?_;rintro _ w4 ⟨rfl,R,_,T⟩;refine aN rfl ?_;have U:Xc (Zw A) w w4:=o.gr.bU T (λz a h=>by rcases h with h|h;exact h;exact b _ h);exact Xa.ret1 Xb rfl func112 rfl rfl ⟨rfl,R,U⟩
structure Sto where
 sb:Nat
 c:Conf
 p:Y8
 kb:Nat
 kc:Nat
 kr:List Value
 mb:Nat
 A:Ar
 R:Rm
 v:Vw
 tm:Nat
 vb:Nat
 vc:Nat
abbrev Yq(S:Sto):Value:=.pointer (some ⟨S.sb,0,none⟩)
def Pr(S:Sto)(nk nm:Nat)(by':Int):List Value:=Zj S.c S.p++[.slice (some ⟨S.kb,0,none⟩) nk S.kc,.pointer (some ⟨S.mb,0,none⟩),.pointer (some ⟨S.A.ab,0,none⟩),Ci S.R,Fs S.v,.map (some S.tm),.slice (some ⟨S.vb,0,none⟩) nm S.vc,.int .i64 by']
def Fd(size:Int)(q:Plc):List Value:=.int .i64 size::Xv q
abbrev Mo:=List (Option (Nat×MvM))
def Em:Option (Nat×MvM)->List Value
 |none=>[.pointer none,.int .i64 0,.int .i64 0,.int .i64 0,.int .i64 0,.int .i64 0]
 |some (b,m)=>[.pointer (some ⟨b,0,none⟩),.int .i64 m.who,.int .i64 m.pf,.int .i64 m.fa,.int .i64 m.pt,.int .i64 m.ta]
theorem Xe8(x:Option (Nat×MvM)):(Em x).length=6:=by cases x <;> rfl
def Hq(mo:Mo):List (Option MvM):=mo.map λx=>x.map (·.2)
abbrev E0(S:Sto)(s:StM):ArV:=⟨s.bs,s.rm.tot,S.R.dA⟩
abbrev E6(b:Nat)(m:MvM):Mv:=⟨b,m.f,m.t,m.size⟩
def Fw(w:dD)(a:Option Addr):Prop:=∀b off s,a=some ⟨b,off,s⟩->kd w b=some (some 3)
theorem Fw.bR{S:Nat->Prop}{w w':dD}(h:Fw w a)(hc:Xc S w w')(hS:Xj S a):Fw w' a:=λb off s e=>Gw hc (h b off s e) (hS b off s e)
theorem Fw.bQ{w w':dD}(h:Fw w a)(hc:Xc Xf w w'):Fw w' a:=h.bR hc (λ_ _ _ _ h=>h)
def Pv(F:Nat->Prop)(w:dD)(tm:Nat)(th:List (Option ThM))(al:AL):Prop:=Yx w tm al/\(Bi al).Nodup/\
 (∀(o:Nat) t,th[o]?=some (some t) -> ∃q:Plc,Xy q=t.q/\Bo al o=some (.agg (Fd t.size q).toArray)/\Zo w q/\Xj F q.pa/\Fw w q.pa)/\∀k:Int,(∀(o:Nat) t,th[o]?=some (some t)->(o:Int)≠k)->Bo al k=none
def Hj(F:Nat->Prop)(w:dD)(tm:Nat)(th:List (Option ThM)):Prop:=∃al,Pv F w tm th al
theorem Hj.bW{F S:Nat->Prop}{w w':dD}{tm:Nat}{th:List (Option ThM)}(h:Hj F w tm th)(hc:Xc S w w')(hS:∀z,S z->F z)(hm:¬S tm):Hj F w' tm th:=by
 obtain⟨al,a,b,d,e⟩:=h;exact⟨al,a.bR hc hm,b,λo t ht=>by
  obtain⟨q,g,i,f,c,j⟩:=d o t ht;exact⟨q,g,i,⟨f.rd.bW (c.mono hS) hc,f.len⟩,c,j.bR hc (c.mono hS)⟩,e⟩
theorem Hj.wide{F:Nat->Prop}{w:dD}(h:Hj F w tm th)(hF:∀z,F' z->F z\/w.heap.size<=z):Hj F' w tm th:=by
 obtain⟨al,a,b,d,e⟩:=h;exact⟨al,a,b,λo t ht=>by
  obtain⟨q,f,g,i,j,c⟩:=d o t ht;exact⟨q,f,g,i,λb off s e k=>(hF b k).elim (j b off s e) (λh=>by have:=Ek (c b off s e);omega),c⟩,e⟩
structure Xs(F Fr:Nat->Prop)(w:dD)(S:Sto)(s:StM)(by':Int)(mo:Mo):Prop where
 obj:w.heap[S.sb]?=some (.cells (Pr S s.bV.length s.mv.length by').toArray 159 (0,0))
 kee:w.heap[S.kb]?=some (.cells (s.bV.map (Value.int .i64)++S.kr).toArray 3 (0,0))
 kcap:s.bV.length<=S.kc
 cW:Zm Fr w S.R s.rm
 ar:X8 w S.A (E0 S s)
 vw:Bn w S.v
 th:Hj F w S.tm s.th
 mvs:w.heap[S.vb]?=some (.cells (fl Em mo).toArray 214 (0,0))
 mvc:s.mv.length<=S.vc
 mom:Hq mo=s.mv
 mob:∀(k b:Nat) m,mo[k]?=some (some (b,m))->w.heap[b]?=some (.cells (Oz S.A (E6 b m) m.cE).toArray 288 (0,0))/\F b/\¬Fr b
 mdj:∀(j k b:Nat) m m',mo[j]?=some (some (b,m))->mo[k]?=some (some (b,m'))->j=k
 rc:S.R.c=S.c
 rp:S.R.p=S.p
 rmo:S.R.mo=some S.mb
 rX:S.R.X=λz=>z=S.kb
 amb:S.A.mb=some S.mb
 vc:S.v.c=S.c
 vp:S.v.p=S.p
 vab:S.v.ab=S.A.ab
 vmb:S.v.mb=some S.mb
 f1:∀z,Fr z->F z
 f2:F S.sb/\F S.kb/\F S.A.db/\F S.tm/\F S.vb
 nr:¬Fr S.sb/\¬Fr S.kb/\¬Fr S.A.db/\¬Fr S.tm/\¬Fr S.vb
 nF:¬F S.A.ab/\¬F S.A.mc/\¬F S.v.vb/\¬F S.R.rb/\¬F S.R.sb/\¬F 1
 ca:A3 F w S.p.ca S.c.bT
 ka:A3 F w S.p.ka S.c.bV
 low:∀z,F z->z<w.heap.size
section
variable {F Fr:Nat->Prop}{w w':dD}{S:Sto}{s:StM}{by':Int}{mo:Mo}
theorem Xs.lt(h:Xs F Fr w S s by' mo):S.sb<w.heap.size/\S.kb<w.heap.size/\S.A.db<w.heap.size/\S.tm<w.heap.size/\S.vb<w.heap.size:=
 ⟨h.low _ h.f2.1,h.low _ h.f2.2.1,h.low _ h.f2.2.2.1,h.low _ h.f2.2.2.2.1,h.low _ h.f2.2.2.2.2⟩
theorem Hj.kd(h:Hj F w S.tm s.th):kd w S.tm=some none:=by
 obtain⟨al,a,_⟩:=h;exact Rp a
theorem Xs.mb(h:Xs F Fr w S s by' mo):F S.mb/\Fr S.mb/\Be w S.mb s.rm.tot S.R.dA:=by
 obtain⟨a,b⟩:=h.cW.met _ h.rmo;exact⟨h.f1 _ a,a,b⟩
theorem Xs.ext(h:Xs F Fr w S s by' mo){z:Nat}{x:Option Nat}(hF:F z)(hn:¬Fr z)(hk:kd w z=some x)(hx:∀t,x=some t->t≠352/\t≠348/\t≠221/\(t=3->z=S.kb)):Iu Fr w S.R z:=by
 obtain⟨j,k,m,c,d,f⟩:=h.nF;have hm:=Z4 h.cW.may;have bW:∀{a:Option Addr} {l:List Int},A3 F w a l->0<l.length -> ∀off s,a≠some ⟨z,off,s⟩:=λg i off s e=>g.2 i z off s e hF;have b:=h.rc;refine⟨hn,λe=>c (e▸hF),λe=>d (e▸hF),λe=>f (e▸hF),?_,?_,λe=>?_,λe=>?_,λe=>?_⟩
 .rw[h.rp];exact bW h.ca (by rw[b] at hm;have:=hm.n;omega)
 .rw[h.rp];exact bW h.ka (by rw[b] at hm;have:=hm.bV;have:=hm.n;omega)
 .rw[hk] at e;exact(hx _ (Option.some.inj e)).1 rfl
 .rw[hk] at e;exact(hx _ (Option.some.inj e)).2.1 rfl
 .rw[hk] at e;rw[h.rX];exact(hx _ (Option.some.inj e)).2.2.2 rfl
theorem Xs.ext'(h:Xs F Fr w S s by' mo){z:Nat}(hF:F z)(hn:¬Fr z)(hk:kd w z=some (some t))(ht:t≠352/\t≠348/\t≠221/\t≠3):Iu Fr w S.R z:=
 h.ext hF hn hk (λt' e=>by cases e;exact⟨ht.1,ht.2.1,ht.2.2.1,λe=>absurd e ht.2.2.2⟩)
theorem Xs.extMap(h:Xs F Fr w S s by' mo):Iu Fr w S.R S.tm:=h.ext h.f2.2.2.2.1 h.nr.2.2.2.1 h.th.kd (λt e=>by cases e)
theorem Xs.extKeep(h:Xs F Fr w S s by' mo):Iu Fr w S.R S.kb:=h.ext h.f2.2.1 h.nr.2.1 (X0 h.kee) (λt e=>by cases e;exact⟨by decide,by decide,by decide,λ_=>rfl⟩)
theorem Xs.bQ(h:Xs F Fr w S s by' mo)(hc:Xc Xf w w'):Xs F Fr w' S s by' mo:=
 {h with
  obj:=hc.bP h.obj,kee:=hc.bP h.kee,cW:=h.cW.bQ hc,ar:=h.ar.bQ hc,vw:=h.vw.bQ hc,th:=h.th.bW hc (λ_ h=>h.elim) id,mvs:=hc.bP h.mvs,
  mob:=λk b m hm=>by obtain⟨a,d⟩:=h.mob k b m hm;exact⟨hc.bP a,d⟩,
  ca:=h.ca.bR hc (λ_ h=>h.elim),ka:=h.ka.bR hc (λ_ h=>h.elim),low:=λz c=>by have:=h.low z c;have:=hc.size;omega}
structure Wv(F:Nat->Prop)(w:dD)(S:Sto)(z:Nat):Prop where
 f:¬F z
 e1:S.A.ab≠z/\S.A.mc≠z/\S.v.vb≠z/\S.R.rb≠z/\S.R.sb≠z/\1≠z
 ca:∀off s,S.p.ca≠some ⟨z,off,s⟩
 ka:∀off s,S.p.ka≠some ⟨z,off,s⟩
 kd:∃t,kd w z=some (some t)/\t≠352/\t≠348/\t≠3
def Xh5(S:Nat->Prop)(w:dD)(tm:Nat):Prop:=∀al,Yx w tm al -> ∀(k:Int) sz (q:Plc),Bo al k=some (.agg (Fd sz q).toArray)->Xj S q.pa
theorem Xs.other{T:Nat->Prop}(h:Xs F Fr w S s by' mo)(hc:Xc T w w')(hT:∀z,T z->Wv F w S z)(ho:Xh5 T w S.tm):Xs F Fr w' S s by' mo:=by
 have nf:∀{z:Nat},F z -> ¬T z:=λhf ht=>(hT _ ht).f hf;have i:∀z,T z->Iu Fr w S.R z:=λz c=>by
  have e:=hT z c;obtain⟨t,r,u,v,x⟩:=e.kd;have d:∀{t':Nat},t≠t'->Go.Proofs.YtdeihcnepljjaaaGreatDoor.kd w z≠some (some t'):=λh e=>h (Option.some.inj (Option.some.inj (r.symm.trans e)));exact⟨λhf=>e.f (h.f1 z hf),e.e1.2.2.2.1,e.e1.2.2.2.2.1,e.e1.2.2.2.2.2,by rw[h.rp];exact e.ca,by rw[h.rp];exact e.ka,d u,d v,λe=>absurd e (d x)⟩
 have bW:∀{a:Option Addr} {l:List Int},A3 F w a l->(∀z,T z -> ∀off s,a≠some ⟨z,off,s⟩)->A3 F w' a l:=λg y=>⟨g.1.bW (λb off s e c=>y b c off s e) hc,g.2⟩;have n:Bn w' S.v:=⟨hc.heap h.vw.obj (λc=>(hT _ c).e1.2.2.1 rfl),by
  have:=h.vw.cO;rw[h.vc,h.vp] at this⊢;exact⟨this.bT.bW (λb off s e c=>(hT b c).ca off s e) hc,this.bV.bW (λb off s e c=>(hT b c).ka off s e) hc,this.lc,this.lk,this.size⟩,h.vw.may⟩
 refine {h with
  obj:=hc.heap h.obj (nf h.f2.1),kee:=hc.heap h.kee (nf h.f2.2.1),cW:=h.cW.other hc i,
  ar:=h.ar.bR hc (λb hb c=>?_),vw:=n,th:=?_,mvs:=hc.heap h.mvs (nf h.f2.2.2.2.2),
  mob:=λk b m hm=>by obtain⟨a,d⟩:=h.mob k b m hm;exact⟨hc.heap a (nf d.1),d⟩,
  ca:=bW h.ca (λz c=>(hT z c).ca),ka:=bW h.ka (λz c=>(hT z c).ka),low:=λz c=>by have:=h.low z c;have:=hc.size;omega}
 .rcases hb with rfl|rfl|rfl|hb
  .exact(hT _ c).e1.1 rfl
  .exact nf h.f2.2.2.1 c
  .exact(hT _ c).e1.2.1 rfl
  .rw[h.amb] at hb;cases hb;exact nf h.mb.1 c
 .have f:=ho;obtain⟨al,a,b,d,e⟩:=h.th;exact⟨al,a.bR hc (nf h.f2.2.2.2.1),b,λo t ht=>by
   obtain⟨q,A,j,p,B,C⟩:=d o t ht;exact⟨q,A,j,⟨p.rd.bW (f al a _ _ _ j) hc,p.len⟩,B,C.bR hc (f al a _ _ _ j)⟩,e⟩
theorem Xs.own(h:Xs F Fr w S s by' mo)(hc:Xc T w w')(hT:∀z,T z->F z/\Iu Fr w S.R z):Zm Fr w' S.R s.rm/\Bn w' S.v/\(¬T S.tm->Hj F w' S.tm s.th)/\(¬T S.A.db->X8 w' S.A (E0 S s))/\A3 F w' S.p.ca S.c.bT/\A3 F w' S.p.ka S.c.bV/\(∀z,F z->z<w'.heap.size)/\Be w' S.mb s.rm.tot S.R.dA:=by
 obtain⟨d,e,f,j,k,l⟩:=h.nF;have c:¬T S.mb:=λa=>(hT _ a).2.f h.mb.2.1;refine⟨h.cW.other hc (λz a=>(hT z a).2),⟨hc.heap h.vw.obj (λa=>f (hT _ a).1),?_,h.vw.may⟩,λhm=>h.th.bW hc (λz a=>(hT z a).1) hm,λg=>h.ar.bR hc (λb hb a=>?_),h.ca.bR hc (λz a=>(hT z a).1),h.ka.bR hc (λz a=>(hT z a).1),λz a=>by have:=h.low z a;have:=hc.size;omega,h.mb.2.2.1|> λi=>⟨hc.heap i c,h.mb.2.2.2⟩⟩
 .have:=h.vw.cO;rw[h.vc,h.vp] at this⊢;exact⟨(h.ca.bR hc (λz a=>(hT z a).1)).1,(h.ka.bR hc (λz a=>(hT z a).1)).1,this.lc,this.lk,this.size⟩
 .rcases hb with rfl|rfl|rfl|hb
  .exact d (hT _ a).1
  .exact g a
  .exact e (hT _ a).1
  .rw[h.amb] at hb;cases hb;exact c a
end
variable {mo:Mo}
theorem Zm.charge2{F:Nat->Prop}{w w':dD}(h:Zm F w R M)(hb:R.mo=some b){t:Int}(hm:Be w' b t R.dA)(hc:Xc T w w')(hT:∀z,T z->z=b\/Iu F w R z):Zm F w' R {M with tot:=t}:=by
 obtain⟨f,o⟩:=h.met b hb;have kb:=Mp o;have kp:=h.pool.kds;have y:=hc.size;have no:∀{z:Nat} {x:Option Nat},kd w z=some x->x≠some 240 -> ¬Iu F w R z -> ¬T z:=λi j r hz=>by
  rcases hT _ hz with e|e
  .subst e;rw[kb] at i;exact j (Option.some.inj i).symm
  .exact r e
 have mf:∀{z:Nat} {x:Option Nat},kd w z=some x->x≠some 240->F z -> ¬T z:=λi j hf=>no i j (λe=>e.f hf);have out:∀{a:Option Addr} {l:List Int},A3 F w a l->(∀z,Iu F w R z -> ∀off s,a≠some ⟨z,off,s⟩)->A3 F w' a l:=λ{a l} g u=>by
  refine⟨?_,g.2⟩;by_cases v:0<l.length
  .exact g.1.bW (λb' off s e hz=>by
    rcases hT _ hz with e'|e'
    .subst e';exact g.2 v b' off s e f
    .exact u b' e' off s e) hc
  .have:l=[]:=YG (by omega);subst this;exact Rd.nil _ _ _
 have rbn:¬T R.rb:=λhz=>(hT _ hz).elim (λe=>h.rf (e▸f)) (λe=>e.rb rfl);have sbn:¬T R.sb:=λhz=>(hT _ hz).elim (λe=>h.sf (e▸f)) (λe=>e.sb rfl);have tbn:¬T 1:=λhz=>(hT _ hz).elim (λe=>h.tf (e▸f)) (λe=>e.tb rfl);have pb:=mf kp.1 (by decide) (h.pf _ (.inl rfl));have ab:=mf kp.2 (by decide) (h.pf _ (.inr rfl));refine⟨{h.ok with tot:=by have:=hm.2;show 0<=t/\t<=4611686018427387904;omega},hc.heap h.obj rbn,out h.cL (λz e=>e.ca),out h.kee (λz e=>e.ka),h.may,λb' m=>?_,λk i=>hc.cell (h.sl k i) sbn,h.pool.bR hc pb ab,h.pf,?_,h.lg.bR hc (λz hz e=>(hT z e).elim (λe=>.inl (e▸f)) (λe=>.inr (e.int hz))) (mf (Ie h.lg) (by simp) h.lf),h.lf,h.rf,h.sf,λz hz=>by have:=h.low z hz;omega,h.tab.bR hc tbn,h.tf,λz hz=>⟨by have:=(h.xl z hz).1;omega,(h.xl z hz).2⟩⟩
 .rw[hb] at m;cases m;exact⟨f,hm⟩
 .obtain⟨G,a,d⟩:=h.sh;refine⟨G,λk x j=>?_,d⟩;obtain⟨n,c,p⟩:=a k x j;have ap:=c.at'.apart kb (by decide);have nf:∀z,Iu F w R z -> ¬Qg (R.S _) (G _) x.pg z:=λz hz hf=>hz.f (p z hf).1;refine⟨n,⟨c.ok,c.pos,c.of,c.at'.bR hc (λz hz=>?_) (λz hz=>?_) tbn,c.pool.bR hc (by rw[n];exact pb) (by rw[n];exact ab)⟩,p⟩
  .rcases hT z hz with e|hz
   .subst e;exact ap.1
   .exact⟨λe=>nf z hz (.inl e),λe=>nf z hz (.inr (.inl e)),λe=>hz.lb (e▸c.at'.kds.lb),λe=>nf z hz (.inr (.inr (.inl e)))⟩
  .rcases hT z hz with e|hz
   .subst e;exact ap.2
   .exact λe q=>⟨λe'=>hz.pg (e'▸(c.at'.bS e q).kds.p),λe'=>nf z hz (.inr (.inr (.inr ⟨e,q,e'⟩)))⟩
section
variable {F Fr:Nat->Prop}{w w':dD}{S:Sto}{s:StM}{by':Int}{mo:Mo}
theorem Pv.put{al:AL}(h:Pv F w tm th al){qm:PlcM}(hq:Xy q=qm)(ho:o<th.length)(hm:Yx w' tm (Cz al (o:Nat) (.agg (Fd size q).toArray)))(hc:Xc (λz=>z=tm) w w')(ht:F tm)(hp:Zo w q)(hF:Xj F q.pa)(hl:Fw w q.pa):Hj F w' tm (th.set o (some ⟨size,qm⟩)):=by
 obtain⟨x,l,m,n⟩:=h;have up:∀{q:Plc},Zo w q->Xj F q.pa->Zo w' q:=λa b=>⟨a.rd.bW (b.mono (S':=λz=>z=tm) λz e=>e▸ht) hc,a.len⟩;refine⟨_,hm,Xbf l _ _,λd g c=>?_,λk j=>?_⟩
 .rcases A1 c with⟨rfl,rfl⟩|⟨v,c⟩
  .exact⟨q,hq,by rw[Jr,bK rfl],up hp hF,hF,hl.bR hc (hF.mono (S':=λz=>z=tm) λz e=>e▸ht)⟩
  .obtain⟨p,r,s,t,i,u⟩:=m d g c;exact⟨p,r,by rw[Jr,bJ (by omega)];exact s,up t i,i,u.bR hc (i.mono (S':=λz=>z=tm) λz e=>e▸ht)⟩
 .have f:=j o _ (XH ho);rw[Jr,bJ (λe=>f e.symm)];refine n k λd g c=>?_;by_cases e:d=o
  .subst e;exact f
  .exact j d g (Ew e c)
theorem Pv.del{al:AL}(h:Pv F w tm th al)(hm:Yx w' tm (Dk al (o:Nat)))(hc:Xc (λz=>z=tm) w w')(ht:F tm):Hj F w' tm (th.set o none):=by
 obtain⟨s,c,i,j⟩:=h;refine⟨_,hm,Xfg c _,λb d a=>?_,λk l=>?_⟩
 .rcases J9 a with⟨_,e,_⟩|⟨r,a⟩
  .cases e
  .obtain⟨m,n,p,g,f,q⟩:=i b d a;exact⟨m,n,by rw[L7 c,bJ (by omega)];exact p,⟨g.rd.bW (f.mono (S':=λz=>z=tm) λz e=>e▸ht) hc,g.len⟩,f,q.bR hc (f.mono (S':=λz=>z=tm) λz e=>e▸ht)⟩
 .rw[L7 c];by_cases e:k=(o:Nat)
  .rw[bK e]
  .rw[bJ e];refine j k λb d a=>?_;by_cases e1:b=o
   .subst e1;exact λh=>e h.symm
   .exact l b d (Ew e1 a)
theorem Xs.kds(h:Xs F Fr w S s by' mo):kd w S.sb=some (some 159)/\kd w S.kb=some (some 3)/\kd w S.A.db=some (some 5)/\kd w S.tm=some none/\kd w S.vb=some (some 214)/\kd w S.mb=some (some 240):=
 ⟨X0 h.obj,X0 h.kee,X0 h.ar.dat,h.th.kd,X0 h.mvs,X0 h.mb.2.2.1⟩
theorem Xs.objAt(h:Xs F Fr w S s by' mo)(hc:Xc T w w')(hT:∀(k b:Nat) m,mo[k]?=some (some (b,m)) -> ¬T b):∀(k b:Nat) m,mo[k]?=some (some (b,m))->w'.heap[b]?=some (.cells (Oz S.A (E6 b m) m.cE).toArray 288 (0,0))/\F b/\¬Fr b:=λk b m hm=>by
 obtain⟨x,y⟩:=h.mob k b m hm;exact⟨hc.heap x (hT k b m hm),y⟩
theorem Xs.kdm(h:Xs F Fr w S s by' mo){m:MvM}(hm:mo[k]?=some (some (b,m))):kd w b=some (some 288):=X0 (h.mob k b m hm).1
theorem Xs.setBy(h:Xs F Fr w S s by' mo){by2:Int}(hc:Xc (λz=>z=S.sb) w w')(ho:w'.heap[S.sb]?=some (.cells (Pr S s.bV.length s.mv.length by2).toArray 159 (0,0))):Xs F Fr w' S s by2 mo:=by
 obtain⟨a,c,d,f,g,r⟩:=h.kds;obtain⟨i,j,l,n,o,p,q,_⟩:=h.own hc (λz e=>⟨e▸h.f2.1,e▸h.ext' h.f2.1 h.nr.1 a (by decide)⟩);exact {h with obj:=ho,kee:=hc.heap h.kee (Xr c a (by decide)),cW:=i,ar:=n (Xr d a (by decide)),vw:=j,th:=l (Xr f a (by simp)),mvs:=hc.heap h.mvs (Xr g a (by decide)),mob:=h.objAt hc (λk b m hm=>Xr (h.kdm hm) a (by decide)),ca:=o,ka:=p,low:=q}
theorem Xs.setKeep(h:Xs F Fr w S s by' mo)(hl:l.length=s.bV.length)(hc:Xc (λz=>z=S.kb) w w')(ho:w'.heap[S.kb]?=some (.cells (l.map (Value.int .i64)++S.kr).toArray 3 (0,0))):Xs F Fr w' S {s with bV:=l} by' mo:=by
 obtain⟨c,a,d,f,g,t⟩:=h.kds;obtain⟨i,j,n,o,p,q,r,_⟩:=h.own hc (λz e=>⟨e▸h.f2.2.1,e▸h.extKeep⟩);exact {h with obj:=by show w'.heap[S.sb]?=some (.cells (Pr S l.length s.mv.length by').toArray _ _);rw[hl];exact hc.heap h.obj (Xr c a (by decide)),kee:=ho,kcap:=by show l.length<=_;rw[hl];exact h.kcap,cW:=i,ar:=o (Xr d a (by decide)),vw:=j,th:=n (Xr f a (by simp)),mvs:=hc.heap h.mvs (Xr g a (by decide)),mob:=h.objAt hc (λk b m hm=>Xr (h.kdm hm) a (by decide)),ca:=p,ka:=q,low:=r}
theorem Xs.setTh(h:Xs F Fr w S s by' mo){th':List (Option ThM)}(hc:Xc (λz=>z=S.tm) w w')(ht:Hj F w' S.tm th'):Xs F Fr w' S {s with th:=th'} by' mo:=by
 obtain⟨c,d,f,a,g,q⟩:=h.kds;obtain⟨i,j,r,l,n,o,p,_⟩:=h.own hc (λz e=>⟨e▸h.f2.2.2.2.1,e▸h.extMap⟩);exact {h with obj:=hc.heap h.obj (Xr c a (by simp)),kee:=hc.heap h.kee (Xr d a (by simp)),cW:=i,ar:=l (Xr f a (by simp)),vw:=j,th:=ht,mvs:=hc.heap h.mvs (Xr g a (by simp)),mob:=h.objAt hc (λk b m hm=>Xr (h.kdm hm) a (by simp)),ca:=n,ka:=o,low:=p}
theorem Xe4(mo:Mo)(k:Nat)(x:Option (Nat×MvM)):Hq (mo.set k x)=(Hq mo).set k (x.map (·.2)):=by unfold Hq;rw[ZY]
theorem Rt{mo:Mo}{m:MvM}{x:Option (Nat×MvM)}(h:(mo.set k x)[j]?=some (some (b,m))):(j=k/\x=some (b,m)/\k<mo.length)\/(j≠k/\mo[j]?=some (some (b,m))):=J9 h
theorem Xs.mol(h:Xs F Fr w S s by' mo):mo.length=s.mv.length:=by rw[<-h.mom];unfold Hq;rw[XV]
theorem Xs.setMv(h:Xs F Fr w S s by' mo){x:Option (Nat×MvM)}(hc:Xc (λz=>z=S.vb) w w')(ho:w'.heap[S.vb]?=some (.cells (fl Em (mo.set k x)).toArray 214 (0,0)))(hx:∀b m,x=some (b,m)->w.heap[b]?=some (.cells (Oz S.A (E6 b m) m.cE).toArray 288 (0,0))/\F b/\¬Fr b/\∀(j:Nat) m',mo[j]?≠some (some (b,m'))):Xs F Fr w' S {s with mv:=s.mv.set k (x.map (·.2))} by' (mo.set k x):=by
 obtain⟨l,n,o,p,a,D⟩:=h.kds;obtain⟨q,r,t,u,v,y,A,_⟩:=h.own hc (λz e=>⟨e▸h.f2.2.2.2.2,e▸h.ext' h.f2.2.2.2.2 h.nr.2.2.2.2 a (by decide)⟩);have f:(s.mv.set k (x.map (·.2))).length=s.mv.length:=XG;refine {h with obj:=by show w'.heap[S.sb]?=some (.cells (Pr S s.bV.length (s.mv.set k (x.map (·.2))).length by').toArray _ _);rw[f];exact hc.heap h.obj (Xr l a (by decide)),kee:=hc.heap h.kee (Xr n a (by decide)),cW:=q,ar:=u (Xr o a (by decide)),vw:=r,th:=t (Xr p a (by simp)),mvs:=ho,mvc:=by show(s.mv.set k _).length<=_;rw[f];exact h.mvc,mom:=by rw[Xe4,h.mom],mob:=λj b m hm=>?_,mdj:=λi j b m m' B g=>?_,ca:=v,ka:=y,low:=A}
 .rcases Rt hm with⟨_,e,_⟩|⟨_,hm⟩
  .obtain⟨c,d,C,_⟩:=hx b m e;exact⟨hc.heap c (Xr (X0 c) a (by decide)),d,C⟩
  .obtain⟨c,d⟩:=h.mob j b m hm;exact⟨hc.heap c (Xr (X0 c) a (by decide)),d⟩
 .rcases Rt B with⟨e1,e,_⟩|⟨_,gi⟩
  .rcases Rt g with⟨e2,_,_⟩|⟨_,gj⟩
   .exact e1.trans e2.symm
   .exact absurd gj ((hx b m e).2.2.2 j m')
  .rcases Rt g with⟨_,e,_⟩|⟨_,gj⟩
   .exact absurd gi ((hx b m' e).2.2.2 i m)
   .exact h.mdj i j b m m' gi gj
theorem Xs.adopt(h:Xs F Fr w S s by' mo)(hc:Xc Xf w w')(hb:w.heap.size<=b)(hb':b<w'.heap.size):Xs (λz=>F z\/z=b) Fr w' S s by' mo:=by
 have g:=h.bQ hc;obtain⟨f,i,j,l,n,o⟩:=h.nF;have d:∀z,(F z\/z=b)->F z\/w.heap.size<=z:=λz a=>a.elim .inl (λe=>.inr (by omega));have c:=h.cW;have hm:=Z4 c.may;have p:=Xg h.ar.obj;have q:=Xg h.ar.cap;have r:=Xg h.vw.obj;have t:=Xg c.obj;have u:S.R.sb<w.heap.size:=by have:=World.block_lt_of_cell? w _ (c.sl 0 (by have:=hm.n;have:=c.ok.n;omega));exact this
 have v:1<w.heap.size:=by have:=World.block_lt_of_cell? w _ (c.tab 0 (by decide));exact this
 exact {g with
  th:=((h.th.wide d).bW hc (λ_ h=>h.elim) id),
  mob:=λk b' m hm=>by obtain⟨x,y,z⟩:=g.mob k b' m hm;exact⟨x,.inl y,z⟩,
  f1:=λz a=>.inl (h.f1 z a),f2:=⟨.inl h.f2.1,.inl h.f2.2.1,.inl h.f2.2.2.1,.inl h.f2.2.2.2.1,.inl h.f2.2.2.2.2⟩,
  nF:=⟨λa=>a.elim f (by omega),λa=>a.elim i (by omega),λa=>a.elim j (by omega),λa=>a.elim l (by omega),λa=>a.elim n (by omega),λa=>a.elim o (by omega)⟩,
  ca:=(h.ca.bQ d).bR hc (λ_ h=>h.elim),ka:=(h.ka.bQ d).bR hc (λ_ h=>h.elim),low:=λz a=>a.elim (g.low z) (by omega)}
theorem Xs.arena(h:Xs F Fr w S s by' mo){t:Int}{mo2:Mo}(hc:Xc T w w')(hT:∀z,T z->z=S.A.db\/z=S.mb\/∃(k:Nat),∃m,mo[k]?=some (some (z,m)))(hd:w'.heap[S.A.db]?=some (.cells (bs.map (Value.int .u8)).toArray 5 (0,0)))(hl:bs.length=s.bs.length)(hb:Qh bs)(hm:Be w' S.mb t S.R.dA)(hfl:fl Em mo2=fl Em mo)(hml:mo2.length=mo.length)(hmo:∀(k b:Nat) m,mo2[k]?=some (some (b,m))->w'.heap[b]?=some (.cells (Oz S.A (E6 b m) m.cE).toArray 288 (0,0))/\∃m0,mo[k]?=some (some (b,m0))):Xs F Fr w' S {s with bs:=bs,rm:={s.rm with tot:=t},mv:=Hq mo2} by' mo2:=by
 obtain⟨r,u,o,v,y,A⟩:=h.kds;obtain⟨B,C,D,M,N,O⟩:=h.nF;have c:∀z,T z->F z:=λz a=>by
  rcases hT z a with e|e|⟨k,m,e⟩
  .exact e▸h.f2.2.2.1
  .exact e▸h.mb.1
  .exact(h.mob k z m e).2.1
 have kT:∀{z:Nat} {x:Option Nat},kd w z=some x->x≠some 5->x≠some 240->x≠some 288 -> ¬T z:=λd E G H a=>by
  rcases hT _ a with e|e|⟨k,m,e⟩
  .subst e;rw[o] at d;exact E (Option.some.inj d).symm
  .subst e;rw[A] at d;exact G (Option.some.inj d).symm
  .have:=h.kdm e;rw[this] at d;exact H (Option.some.inj d).symm
 have p:=h.cW.charge2 h.rmo hm hc λz a=>by
  rcases hT z a with e|e|⟨k,m,e⟩
  .exact .inr (e▸h.ext' h.f2.2.2.1 h.nr.2.2.1 o (by decide))
  .exact .inl e
  .obtain⟨_,n,f⟩:=h.mob k z m e;exact .inr (h.ext' n f (h.kdm e) (by decide))
 have g:(Hq mo2).length=s.mv.length:=by unfold Hq;rw[XV,hml,h.mol]
 refine {h with
  obj:=by show w'.heap[S.sb]?=some (.cells (Pr S s.bV.length (Hq mo2).length by').toArray _ _);rw[g];exact hc.heap h.obj (kT r (by decide) (by decide) (by decide)),
  kee:=hc.heap h.kee (kT u (by decide) (by decide) (by decide)),cW:=p,ar:=?_,vw:=?_,th:=h.th.bW hc c (kT v (by simp) (by simp) (by simp)),
  mvs:=by rw[hfl];exact hc.heap h.mvs (kT y (by decide) (by decide) (by decide)),mvc:=by show(Hq mo2).length<=_;rw[g];exact h.mvc,mom:=rfl,
  mob:=λk b m q=>by obtain⟨n,m0,f⟩:=hmo k b m q;exact⟨n,(h.mob k b m0 f).2⟩,
  mdj:=λi j b m m' I J=>by obtain⟨_,m0,f⟩:=hmo i b m I;obtain⟨_,K,L⟩:=hmo j b m' J;exact h.mdj i j b m0 K f L,
  ca:=h.ca.bR hc c,ka:=h.ka.bR hc c,low:=λz a=>by have:=h.low z a;have:=hc.size;omega}
 .refine⟨?_,hd,hc.heap h.ar.cap (λa=>C (c _ a)),λb l=>?_,by show bs.length<=_;rw[hl];exact h.ar.len,hb⟩
  .have:=hc.heap h.ar.obj (λa=>B (c _ a));show w'.heap[S.A.ab]?=some (.cells #[.slice (some ⟨S.A.db,0,none⟩) bs.length bs.length,Xhx S.A] _ _)
   rw[hl];exact this
  .rw[h.amb] at l;cases l;exact hm
 .refine⟨hc.heap h.vw.obj (λa=>D (c _ a)),?_,h.vw.may⟩;have:=h.vw.cO;rw[h.vc,h.vp] at this⊢;exact⟨(h.ca.bR hc c).1,(h.ka.bR hc c).1,this.lc,this.lk,this.size⟩
theorem Xs.arena'(h:Xs F Fr w S s by' mo){n:Int}(hc:Xc (Zw S.A) w w')(ha:X8 w' S.A ⟨bs,Xw s.rm.tot n,S.R.dA⟩)(hl:bs.length=s.bs.length):Xs F Fr w' S (Qk {s with bs:=bs} n) by' mo:=by
 have:=h.arena (bs:=bs) (t:=Xw s.rm.tot n) (mo2:=mo) hc (λz a=>a.elim .inl (λe=>.inr (.inl (by rw[h.amb] at e;exact(Option.some.inj e).symm)))) ha.dat hl ha.rng (ha.met _ h.amb) rfl rfl (λk b m hm=>⟨?_,m,hm⟩)
 .rw[h.mom] at this;exact this
 .have kk:=h.kdm hm;obtain⟨_,_,c,_,_,d⟩:=h.kds;refine hc.heap (h.mob k b m hm).1 ?_;rintro(e|e)
  .exact Xr kk c (by decide) e
  .rw[h.amb] at e;cases e;exact Xr kk d (by decide) rfl
theorem Xs.roomed{Fr':Nat->Prop}(h:Xs F Fr w S s by' mo)(hr:Zm Fr' w' S.R M)(hf:∀z,Fr' z->Fr z\/w.heap.size<=z)(hc:Xc Fr w w'):Xs (λz=>F z\/Fr' z) Fr' w' S {s with rm:=M} by' mo:=by
 obtain⟨l,n,o,A,B,C⟩:=h.nF;obtain⟨D,E,G,H,I⟩:=h.lt;obtain⟨p,q,r,t,u⟩:=h.nr;have f:∀z,(F z\/Fr' z)->F z\/w.heap.size<=z:=λz a=>a.elim .inl (λe=>(hf z e).imp (h.f1 z) id);have c:∀{z:Nat},¬Fr z->z<w.heap.size -> ¬Fr' z:=λj J a=>(hf _ a).elim j (by omega);have nf:∀{z:Nat},¬F z->z<w.heap.size -> ¬(F z\/Fr' z):=λj J a=>(f _ a).elim j (by omega);have d:=h.cW;have hm:=Z4 d.may;have K:S.R.sb<w.heap.size:=by have:=World.block_lt_of_cell? w _ (d.sl 0 (by have:=hm.n;have:=d.ok.n;omega));exact this
 have L:1<w.heap.size:=by have:=World.block_lt_of_cell? w _ (d.tab 0 (by decide));exact this
 have g:=(h.ca.bQ f).bR hc (λz a=>.inl (h.f1 z a));have i:=(h.ka.bQ f).bR hc (λz a=>.inl (h.f1 z a));exact {h with
  obj:=hc.heap h.obj p,kee:=hc.heap h.kee q,cW:=hr,
  ar:=⟨hc.heap h.ar.obj (λa=>l (h.f1 _ a)),hc.heap h.ar.dat r,hc.heap h.ar.cap (λa=>n (h.f1 _ a)),λb v=>by rw[h.amb] at v;cases v;exact(hr.met _ h.rmo).2,h.ar.len,h.ar.rng⟩,
  vw:=⟨hc.heap h.vw.obj (λa=>o (h.f1 _ a)),by
   have:=h.vw.cO;rw[h.vc,h.vp] at this⊢;exact⟨g.1,i.1,this.lc,this.lk,this.size⟩,h.vw.may⟩,
  th:=(h.th.wide f).bW hc (λz a=>.inl (h.f1 z a)) t,mvs:=hc.heap h.mvs u,
  mob:=λk b m hm=>by obtain⟨x,y,z⟩:=h.mob k b m hm;exact⟨hc.heap x z,.inl y,c z (h.low b y)⟩,
  f1:=λz a=>.inr a,f2:=⟨.inl h.f2.1,.inl h.f2.2.1,.inl h.f2.2.2.1,.inl h.f2.2.2.2.1,.inl h.f2.2.2.2.2⟩,
  nr:=⟨c p D,c q E,c r G,c t H,c u I⟩,
  nF:=⟨nf l (Xg h.ar.obj),nf n (Xg h.ar.cap),nf o (Xg h.vw.obj),nf A (Xg d.obj),nf B K,nf C L⟩,ca:=g,ka:=i,
  low:=λz a=>a.elim (λa=>by have:=h.low z a;have:=hc.size;omega) (hr.low z)}
end
def Ee(F:Nat->Prop)(w w':dD)(S:Sto)(s:StM)(by':Int):Prop:=∃F' Fr' mo',Xs F' Fr' w' S s by' mo'/\(∀z,F' z->F z\/w.heap.size<=z)/\Xc F w w'
section
variable {F Fr:Nat->Prop}{w w' w'':dD}{S:Sto}{s:StM}{by':Int}{mo:Mo}
theorem Ee.of(h:Xs F Fr w' S s by' mo)(hc:Xc F w w'):Ee F w w' S s by':=⟨F,Fr,mo,h,λ_ h=>.inl h,hc⟩
theorem Ee.trans{F1:Nat->Prop}(hF:∀z,F1 z->F z\/w.heap.size<=z)(hc:Xc F w w')(h:Ee F1 w' w'' S s by'):Ee F w w'' S s by':=by
 obtain⟨g,d,e,a,b,c⟩:=h;refine⟨g,d,e,a,λz f=>?_,hc.bU c λz f i=>?_⟩
 .rcases b z f with h|h
  .exact hF z h
  .have:=hc.size;exact .inr (by omega)
 .rcases hF z i with h|h
  .exact h
  .omega
end
theorem Xn2(c:Conf)(q:Plc)(bs:List Int)(at' m k:Nat):Yg c q bs at' (m+k)=Yg c q bs at' m++Yg c q bs (at'+m) k:=by
 unfold Yg;rw[List.range_add,XL,List.map_map]
 congr 1
 apply ZW
 intro i _;simp only[Function.comp];rw[YR]
theorem Xcl{x:Nat}(h:x+m<=bs.length):sub bs x m=(List.range m).map λi=>bs.getD (x+i) 0:=by
 apply List.ext_getElem
 .rw[Hc h];simp
 .intro i a b;rw[Hc h] at a;simp only[YU,List.getElem_range];have e:(sub bs x m)[i]?=some (bs.getD (x+i) 0):=by
   unfold sub;rw[YV,bK a,List.getElem?_drop,XD (show x+i<bs.length by omega),XA,XD (show x+i<bs.length by omega)];rfl
  exact Option.some.inj ((XD _).symm.trans e)
theorem XcP(hcl:q.cL=-1)(hsz:c.size=sz)(hi:at'%sz+i<sz):B2 c q (at'+i)=q.bS.getD (at'/sz) 0*c.size+((at'%sz:Nat):Int)+i:=by
 unfold B2;rw[bK hcl,show c.size.toNat=sz from by omega];have a:(at'+i)/sz=at'/sz:=by
  have d:=QB at' sz;apply Nat.div_eq_of_lt_le
  .rw[QE];omega
  .rw[Nat.add_mul,Nat.one_mul,QE];omega
 have hm:(at'+i)%sz=at'%sz+i:=by
  have e:=QB at' sz;have b:=QB (at'+i) sz;rw[a] at b;omega
 rw[a,hm];omega
theorem Xlk(hcl:q.cL=-1)(hsz:c.size=sz)(hp:1<=sz):∀(n at':Nat),(∀i,i<n->0<=B2 c q (at'+i)/\B2 c q (at'+i)<bs.length) ->
 D4 bs ((Zz at' n sz).map λs=>(q.bS.getD s.1 0*c.size+s.2.1,(s.2.2:Int)))=Yg c q bs at' n:=by
 intro n
 induction n using QP with
 |_ n ih=>
  intro at' b;by_cases l:n=0
  .subst l;rfl
  .have d:=Kk (at':=at') hp (show 0<n by omega);have o:=YQ at' (show 0<sz by omega);rw[Lw hp (by omega),ZK];obtain⟨m,hm⟩:∃m,m=min n (sz-at'%sz):=⟨_,rfl⟩;have g:Dm at' n sz=(at'/sz,at'%sz,m):=by unfold Dm;rw[hm]
   rw[g,<-hm];rw[<-hm] at d;have h:=b 0 (by omega);have a:=b (m-1) (by omega);rw[XcP hcl hsz (by omega)] at h a;obtain⟨x,e⟩:=XE (show 0<=q.bS.getD (at'/sz) 0*c.size+((at'%sz:Nat):Int) by omega);rw[e] at a;have f:sub bs x m=Yg c q bs at' m:=by
    rw[Xcl (by omega)];unfold Yg;apply ZW
    intro i j;rw[List.mem_range] at j;rw[XcP hcl hsz (by omega),e]
    congr 1
   have k:n=m+(n-m):=by omega
   conv=>rhs;rw[k]
   rw[Xn2,<-f,<-(ih (n-m) (by omega) (at'+m) (λi j=>by rw[YR];exact b (m+i) (by omega)))];unfold D4;rw[ZX];simp only
   rw[e];rfl
theorem Xll(hm:Zb c=true)(hck:Qq c q at' n=0)(hlen:(bs.length:Int)=c.size*c.bS):D4 bs (Zu c q at' n)=Yg c q bs at' n:=by
 obtain⟨m,o,p⟩:=D3 hm;obtain⟨e,_,_,l⟩:=To hck;have d:∀i,i<n->0<=B2 c q (at'+i)/\B2 c q (at'+i)<bs.length:=λi r=>by
  have:=XcO (i:=at'+i) hm e (by omega);omega
 unfold Zu;by_cases a:q.cL=-1
 .rw[bK a];obtain⟨sz,f⟩:=XE (show 0<=c.size by omega);rw[show c.size.toNat=sz from by omega];exact Xlk a f (by omega) n at' d
 .rw[bJ a];unfold D4;simp only[ZX,List.flatMap_nil,QD,XB];by_cases h:n=0
  .subst h;simp[sub,Yg]
  .have j:=d 0 (by omega);have k:=d (n-1) (by omega);have b:∀i,B2 c q (at'+i)=Ak c q+at'+i:=λi=>by unfold B2;rw[bJ a];omega
   rw[b] at j k;obtain⟨x,g⟩:=XE (show 0<=Ak c q+(at':Int) by omega);rw[g,XB,Xcl (by omega)];unfold Yg;apply ZW
   intro i _;rw[b,g]
   congr 1
theorem Xnu(hp:1<=sz):∀(n at' k:Nat) (h:k<(Zz at' n sz).length),(Zz at' n sz)[k].1*sz+(Zz at' n sz)[k].2.1=at'+(((Zz at' n sz).take k).map λs=>s.2.2).sum:=by
 intro n
 induction n using QP with
 |_ n ih=>
  intro at' k h;by_cases b:n=0
  .subst b;simp[Vo] at h
  .have c:=Kk (at':=at') hp (show 0<n by omega);have e:=QB at' sz;have a:=Lw (at':=at') hp (show 0<n by omega);cases k with
   |zero=>
    simp only[a,List.getElem_cons_zero,List.take_zero,List.map_nil,List.sum_nil];unfold Dm;simp only
    rw[QE];omega
   |succ k=>
    have d:k<(Zz (at'+min n (sz-at'%sz)) (n-min n (sz-at'%sz)) sz).length:=by rw[a] at h;simpa using h
    have:=ih _ (by omega) _ k d;simp only[a,List.getElem_cons_succ,List.take_succ_cons,ZK,QH];rw[this];unfold Dm;simp only
    omega
theorem XkX(hm:Zb c=true)(hk:k<(Zu c q at' n).length)(hp:(Zu c q at' n)[k]=((i:Int),(m:Int))):∀j,j<m->B2 c q (at'+(Zn ((Zu c q at' n).take k)+j))=(i:Int)+j:=by
 obtain⟨y,z,B⟩:=D3 hm;intro j C;by_cases b:q.cL=-1
 .obtain⟨sz,h⟩:=XE (show 0<=c.size by omega);have a:Zu c q at' n=(Zz at' n sz).map λs=>(q.bS.getD s.1 0*c.size+s.2.1,(s.2.2:Int)):=by unfold Zu;rw[bK b,show c.size.toNat=sz from by omega]
  have g:k<(Zz at' n sz).length:=by rw[a,XV] at hk;exact hk
  have e:=Xnu (sz:=sz) (by omega) n at' k g;obtain⟨l,o,p,x⟩:=Xcc (cR:=sz) (by omega) n at' _ (XM g);have r:Zn ((Zu c q at' n).take k)=(((Zz at' n sz).take k).map λs=>s.2.2).sum:=by
   unfold Zn;rw[a,<-QZ,List.map_map];rfl
  have t:(q.bS.getD (Zz at' n sz)[k].1 0*c.size+((Zz at' n sz)[k].2.1:Int),((Zz at' n sz)[k].2.2:Int))=((i:Int),(m:Int)):=by
   rw[<-hp];simp only[a,YU]
  obtain⟨e1,e2⟩:=Prod.mk.inj t;rw[r,<-YR,<-e];obtain⟨s,u⟩:∃s,s=(Zz at' n sz)[k]:=⟨_,rfl⟩;rw[<-u] at e1 e2 l o p⊢
  clear u e x
  obtain⟨N,A,L⟩:=s;simp only at e1 e2 l o p⊢
  have d:(N*sz+A)%sz=A:=by rw[QE,Nat.mul_add_mod];exact Nat.mod_eq_of_lt (by omega)
  have f:(N*sz+A)/sz=N:=by rw[QE,Nat.mul_add_div (by omega),Nat.div_eq_of_lt (by omega)];rfl
  rw[XcP b h (by rw[d];omega),d,f];omega
 .have a:Zu c q at' n=[(Ak c q+at',(n:Int))]:=by unfold Zu;rw[bJ b]
  have v:k=0:=by rw[a] at hk;simpa using hk
  subst v;have w:(Ak c q+(at':Int),(n:Int))=((i:Int),(m:Int)):=by rw[<-hp];simp only[a];rfl
  obtain⟨e1,e2⟩:=Prod.mk.inj w;unfold B2;rw[bJ b];simp only[List.take_zero,Zn,List.map_nil,List.sum_nil];omega
theorem XeK{c:Conf}{q:Plc}{bs l:List Int}{at' off i m:Nat}(him:i+m<=bs.length)(hol:off+m<=l.length)(hw:∀j,j<m->B2 c q (at'+(off+j))=(i:Int)+j):∀j,j<=m->Q8 c q bs at' l (off+j)=Ep (Q8 c q bs at' l off) i (sub l off m) j
 |0,_=>by rw[Xbq];rfl
 |j+1,h=>by
  have a:(sub l off m).length=m:=Hc hol;have ih:=XeK him hol hw j (by omega);have b:(sub l off m).getD j 0=l.getD (off+j) 0:=by
   rw[Xcl hol,XA,XO,List.getElem?_range (by omega)];rfl
  rw[<-Xbp (by rw[a,Kp];exact him) (by rw[a];omega),b,<-ih];show(Q8 c q bs at' l (off+j)).set (B2 c q (at'+(off+j))).toNat (l.getD (off+j) 0)=_
  rw[hw j (by omega)];rfl
theorem XhE{c:Conf}{q:Plc}{A:Ar}{V:ArV}{at':Nat}{l:List Int}(hm:Zb c=true)(hck:Qq c q at' l.length=0)(hfew:q.bS.length<=4096)(hlen:(V.bs.length:Int)=c.size*c.bS):∀k,k<=(Zu c q at' l.length).length->(B1 q A V (Zu c q at' l.length) l k).bs=Q8 c q V.bs at' l (Zn ((Zu c q at' l.length).take k))
 |0,_=>rfl
 |k+1,h=>by
  have a:k<(Zu c q at' l.length).length:=h;obtain⟨i,m,b,n⟩:=R0 hm hck hfew _ (XM a);have ih:=XhE (A:=A) hm hck hfew hlen k (by omega);have j:Zn (Zu c q at' l.length)=l.length:=O5 hm;have d:=Sq a;rw[b] at d;simp only[XB] at d;have f:Zn ((Zu c q at' l.length).take (k+1))=Zn ((Zu c q at' l.length).take k)+m:=by
   rw[ZH,XD a,b,Vz];simp[Zn]
  have g:i+m<=V.bs.length:=by omega
  have e:Zn ((Zu c q at' l.length).take k)+m<=l.length:=by omega
  rw[St a b,f,XeK g e (XkX hm a b) m (XF _)];show Q3 _ i (sub l _ m)=_
  rw[ih];have:=Xfv (bs:=Q8 c q V.bs at' l (Zn ((Zu c q at' l.length).take k))) (l:=sub l (Zn ((Zu c q at' l.length).take k)) m) (i:=i);rw[Hc e] at this;exact this.symm
theorem XhF(hm:Zb c=true)(hck:Qq c q at' l.length=0)(hfew:q.bS.length<=4096)(hlen:(V.bs.length:Int)=c.size*c.bS):(B1 q A V (Zu c q at' l.length) l (Zu c q at' l.length).length).bs=Q8 c q V.bs at' l l.length:=by
 rw[XhE hm hck hfew hlen _ (XF _),ZL,O5 hm]
theorem Cq{t m:Int}(h:0<=t/\0<=m/\t+m<=4611686018427387904):Xw t m=t+m:=by unfold Xw;split <;> omega
def Fh(q:Plc)(k:Nat):Int:=if q.cL=-1 then (k:Int) else 0
theorem Xbs(hm:Zb c=true):((Zn (Zu c q at' n):Nat):Int)+Fh q (Zu c q at' n).length=Zi c q at' n:=by
 rw[O5 hm];unfold Fh Zi Zu;by_cases a:q.cL=-1
 .rw[bK a,bK a,bK a,XV]
 .rw[bJ a,bJ a]
theorem Tn{t a b:Int}(h:0<=t/\t<=4611686018427387904)(ha:0<=a)(hb:0<=b):Xw (Xw t a) b=Xw t (a+b):=by
 unfold Xw;split <;> split <;> split <;> omega
theorem N9(t:Int):Xw t 0=t:=by unfold Xw;rw[bK (by omega)]
theorem P5{n:Int}(hb:A.mb=some b):(V.cT A n).total=Xw V.total n:=by unfold ArV.cT;rw[hb]
theorem XdI(hb:A.mb=some b):(B3 q A V).total=Xw V.total (Fh q 1):=by
 unfold B3 Fh;split
 .exact P5 hb
 .rw[N9]
theorem XdJ:(B3 q A V).dA=V.dA:=by unfold B3;split;exact V.charge_lap A _;rfl
theorem Xdq(q:Plc)(k:Nat):Fh q (k+1)=Fh q k+Fh q 1/\0<=Fh q k/\0<=Fh q 1:=by unfold Fh;split <;> omega
theorem Xhr{ps:List (Int×Int)}(hk:k<ps.length)(hp:ps[k]=((i:Int),(m:Int))):Zn (ps.take (k+1))=Zn (ps.take k)+m:=by
 rw[ZH,XD hk,hp,Vz];simp[Zn]
theorem XhA{q:Plc}{A:Ar}{V:ArV}{ps:List (Int×Int)}{b:Nat}(hb:A.mb=some b)(hps:∀p∈ps,∃i m:Nat,p=((i:Int),(m:Int)))(hV:0<=V.total/\V.total<=4611686018427387904):∀k,k<=ps.length->(Ir q A V ps k).total=Xw V.total (Zn (ps.take k)+Fh q k)/\(Ir q A V ps k).dA=V.dA
 |0,_=>by
  have e:((Zn (ps.take 0):Nat):Int)+Fh q 0=0:=by unfold Fh;simp[Zn]
  rw[e,N9];exact⟨rfl,rfl⟩
 |k+1,h=>by
  have a:k<ps.length:=h;obtain⟨i,m,c⟩:=hps _ (XM a);obtain⟨d,f⟩:=XhA (q:=q) hb hps hV k (by omega);obtain⟨g,l,j⟩:=Xdq q k;rw[XhB a,c];simp only
  rw[ArV.charge_lap,XdJ,P5 hb,XdI hb,d,Tn hV (by omega) j,Tn hV (by omega) (by omega),Xhr a c,g];exact⟨by congr 1;omega,f⟩
theorem XcM{q:Plc}{A:Ar}{V:ArV}{ps:List (Int×Int)}{l:List Int}{b:Nat}(hb:A.mb=some b)(hps:∀p∈ps,∃i m:Nat,p=((i:Int),(m:Int)))(hV:0<=V.total/\V.total<=4611686018427387904):∀k,k<=ps.length->(B1 q A V ps l k).total=Xw V.total (Zn (ps.take k)+Fh q k)/\(B1 q A V ps l k).dA=V.dA
 |0,_=>by
  have e:((Zn (ps.take 0):Nat):Int)+Fh q 0=0:=by unfold Fh;simp[Zn]
  rw[e,N9];exact⟨rfl,rfl⟩
 |k+1,h=>by
  have a:k<ps.length:=h;obtain⟨i,m,c⟩:=hps _ (XM a);obtain⟨d,f⟩:=XcM (q:=q) (l:=l) hb hps hV k (by omega);obtain⟨g,n,j⟩:=Xdq q k;rw[St a c];show((B3 q A (B1 q A V ps l k)).cT A m).total=_/\((B3 q A (B1 q A V ps l k)).cT A m).dA=_
  rw[ArV.charge_lap,XdJ,P5 hb,XdI hb,d,Tn hV (by omega) j,Tn hV (by omega) (by omega),Xhr a c,g];exact⟨by congr 1;omega,f⟩
theorem ArV.eq{t l:Int}(h1:V.bs=bs)(h2:V.total=t)(h3:V.dA=l):V=⟨bs,t,l⟩:=by cases V;cases h1;cases h2;cases h3;rfl
theorem Kh{c:Conf}{i n:Int}(hv:Yk c q=true)(hi:0<=i)(hn:0<=n)(h:i+n<=Z3 c q):Qq c q i n=0:=by
 unfold Qq;rw[bJ (by rw[hv];decide),bJ (by omega)]
section
variable {F Fr:Nat->Prop}{w w':dD}{S:Sto}{s:StM}{by':Int}{mo:Mo}{pd:Option (Nat×PlcM)}
theorem Xs.footF(h:Xs F Fr w S s by' mo):∀z,Zw S.A z->F z:=λz a=>by
 rcases a with e|e
 .exact e▸h.f2.2.2.1
 .rw[h.amb] at e;cases e;exact h.mb.1
theorem Xs.tot(h:Xs F Fr w S s by' mo):0<=s.rm.tot/\s.rm.tot<=4611686018427387904:=h.cW.ok.tot
theorem Xs.vwf(h:Xs F Fr w S s by' mo):¬Zw S.A S.v.vb/\(0<S.v.c.bT.length->Xj (Zw S.A) S.v.p.ca)/\(0<S.v.c.bV.length->Xj (Zw S.A) S.v.p.ka):=by
 refine⟨λb=>h.nF.2.2.1 (h.footF _ b),λa=>?_,λa=>?_⟩
 .rw[h.vc] at a;rw[h.vp];exact(h.ca.2 a).mono h.footF
 .rw[h.vc] at a;rw[h.vp];exact(h.ka.2 a).mono h.footF
theorem Xbt{c:Conf}(hm:Zb c=true)(hck:Qq c q i n=0)(hfew:q.bS.length<=4096):∀p∈Zu c q i n,∃a b:Nat,p=((a:Int),(b:Int)):=λp d=>by
 obtain⟨a,b,e,_⟩:=R0 hm hck hfew p d;exact⟨a,b,e⟩
theorem Xg1(h:Xs F Fr w S s by' mo)(hm:Zb S.c=true)(hbl:(s.bs.length:Int)=S.c.size*S.c.bS)(q:Plc)(i:Nat)(a:Option Addr)(cap:Nat)(l:List Int)(hq:Zo w q)(hF:Xj F q.pa)(hck:Qq S.c q i l.length=0)(hfew:q.bS.length<=4096)(hr:Rd .u8 w a l)(hlc:l.length<=cap)(hin:Qh l)(hout:0<l.length->Xj F a):Xe prog 109 #[Fs S.v,.agg (Xv q).toArray,.int .i64 i,.slice a l.length cap] w (λu w'=>u=.int .i64 0/\Xs F Fr w' S (Yp S.c s (Xy q) i l) by' mo/\Xc F w w'):=by
 obtain⟨f,g,j⟩:=h.vwf;have ec:=h.vc;refine(Xog S.v q i a cap l S.A (E0 S s) w h.vw hq (h.vmb.trans h.amb.symm) h.vab (by rw[ec];exact hck) hfew f (λ_=>hF.mono h.footF) g j h.ar (by rw[ec];exact hbl) hr hlc hin (λk=>(hout k).mono h.footF)).mono λu w' ⟨e,b,c⟩=>⟨e,?_,c.mono λz _ m=>h.footF z m⟩;rw[ec] at b;obtain⟨d,o⟩:=XcM (q:=q) (V:=E0 S s) (l:=l) h.amb (Xbt hm hck hfew) h.tot _ (XF _);rw[ZL,Xbs hm] at d;rw[(ArV.eq (XhF (A:=S.A) (V:=E0 S s) hm hck hfew hbl) d o),Mr,Jt] at b;exact h.arena' (bs:=Q8 S.c (Xy q).cQ s.bs i l l.length) (n:=Zi S.c (Xy q).cQ i l.length) c b (Kp _ _ _ _ _ _)
theorem Gp(n:Nat):(X6 n).length=n:=by unfold X6;rw[XI]
theorem Xg2(h:Xs F Fr w S s by' mo)(hm:Zb S.c=true)(hbl:(s.bs.length:Int)=S.c.size*S.c.bS)(q:Plc)(i n:Nat)(hq:Zo w q)(hF:Xj F q.pa)(hck:Qq S.c q i n=0)(hfew:q.bS.length<=4096):Xe prog 112 #[Fs S.v,.agg (Xv q).toArray,.int .i64 i,.int .i64 n] w (λu w'=>u=.int .i64 0/\Xs F Fr w' S (Yp S.c s (Xy q) i (X6 n)) by' mo/\Xc F w w'):=by
 obtain⟨g,j,k⟩:=h.vwf;have ec:=h.vc;have a:=Gp n;refine(Xoi S.v q i n S.A (E0 S s) w h.vw hq (h.vmb.trans h.amb.symm) h.vab (by rw[ec];exact hck) hfew g (λ_=>hF.mono h.footF) j k h.ar (by rw[ec];exact hbl)).mono λu w' ⟨e,b,c⟩=>⟨e,?_,c.mono λz _ a=>h.footF z a⟩;rw[ec] at b;obtain⟨d,m⟩:=XcM (q:=q) (V:=E0 S s) (l:=X6 n) h.amb (Xbt hm hck hfew) h.tot _ (XF _);rw[ZL,Xbs hm] at d;have f:=XhF (A:=S.A) (V:=E0 S s) (l:=X6 n) (q:=q) (at':=i) hm (by rw[a];exact hck) hfew hbl;rw[a] at f;rw[(ArV.eq f d m),Mr,Jt] at b;have:=h.arena' (bs:=Q8 S.c (Xy q).cQ s.bs i (X6 n) n) (n:=Zi S.c (Xy q).cQ i n) c b (Kp _ _ _ _ _ _);unfold Yp;rw[a];exact this
theorem Xg0(h:Xs F Fr w S s by' mo)(hm:Zb S.c=true)(hbl:(s.bs.length:Int)=S.c.size*S.c.bS)(q:Plc)(i n:Nat)(hq:Zo w q)(hF:Xj F q.pa)(hck:Qq S.c q i n=0)(hfew:q.bS.length<=4096):Xe prog 107 #[Fs S.v,.agg (Xv q).toArray,.int .i64 i,.int .i64 n] w (λu w'=>∃u1,u=.tuple #[u1,.int .i64 0]/\Xs F Fr w' S (Qk s (Zi S.c (Xy q).cQ i n)) by' mo/\Xc (Zw S.A) w w'/\
  Xl w.heap.size 5 1 w' u1 n ((Yg S.c (Xy q).cQ s.bs i n).map (Value.int .u8))):=by
 obtain⟨j,k,l⟩:=h.vwf;have ec:=h.vc;have mF:∀z,Yu S.A z->Zw S.A z:=λz a=>.inr a;refine(Xoe S.v q i n S.A (E0 S s) w h.vw hq (h.vmb.trans h.amb.symm) h.vab (by rw[ec];exact hck) hfew (λa=>j (mF _ a)) (λ_=>(hF.mono h.footF).mono mF) (λb=>(k b).mono mF) (λb=>(l b).mono mF) h.ar (by rw[ec];exact hbl)).mono λu w' ⟨u1,e,c,f,d⟩=>⟨u1,e,?_,f.mono λz _ a=>mF z a,?_⟩
 .rw[ec] at c;obtain⟨g,m⟩:=XhA (q:=q) (V:=E0 S s) h.amb (Xbt hm hck hfew) h.tot _ (XF _);rw[ZL,Xbs hm] at g;rw[(ArV.eq (XcL q S.A (E0 S s) (Zu S.c q i n) _) g m),Jt] at c;exact h.arena' (bs:=s.bs) (n:=Zi S.c (Xy q).cQ i n) (f.mono λz _ a=>mF z a) c rfl
 .rw[ec,Xll hm hck hbl] at d;have e:(Yg S.c q s.bs i n).length=n:=by unfold Yg;rw[XV,ZM]
  rw[e,XcC] at d;exact d
end
theorem Xkf{n q:Int}(hn:1<=n)(hq:1<=q):n<=Qm n q*q:=by
 have a:=Int.emod_add_mul_ediv (n-1) q;have:=Int.emod_lt_of_pos (n-1) (show 0<q by omega);have e:Qm n q=(n-1)/q+1:=by unfold Qm;rw[bJ (by omega)]
 rw[e,QL,QM,YP ((n-1)/q) q];omega
section
variable {c:Conf}{s:StM}{pd:Option (Nat×PlcM)}
theorem Xa3:∀{l:List (Nat×List Nat)} {e:Nat×List Nat},e∈l->e.2.length+1<=El l
 |a::l,e,h=>by
  have b:El (a::l)=(a.2.length+1)+El l:=by unfold El;simp
  rcases ZB.1 h with rfl|h
  .omega
  .have:=Xa3 h;omega
theorem XjZ(h:s.OkP c pd){r:List Nat}(hm:(n,r)∈s.rm.lg):(∀m∈r,(m:Int)<c.bS)/\r.length<=1024:=by
 have f:=h.rm.ok.own;have a:=h.rm.cU.cV;refine⟨λm b=>?_,?_⟩
 .have:=(h.rm.ok.lg m (I5 hm (YB _ b))).1;omega
 .have d:=Xa3 hm;have e:=h.rm.ok.sum;have g:=a.many;have i:=a.len;unfold Za at e;simp only at d
  omega
theorem XjL(h:s.OkP c pd){r:List Nat}(hm:(n,r)∈s.rm.lg)(hs:1<=size)(hr:(r.length+1:Int)=Z8 size c.size):Yk c (PlcM.mk (-1) (n:Nat) 0 (X4 r)).cQ=true/\size<=Z3 c (PlcM.mk (-1) (n:Nat) 0 (X4 r)).cQ/\(X4 r).length<=4096:=by
 obtain⟨g,l⟩:=XjZ h hm;have i:1<=c.size:=by have:=(D3 h.may).1;omega
 have a:=Xkf hs i;have k:1<=Qm size c.size:=by
  have o:0<=(size-1)/c.size:=YL (by omega) (by omega);unfold Qm;rw[bJ (by omega)];omega
 have e:(r.length:Int)=Qm size c.size:=by
  unfold Z8 at hr;split at hr <;> omega
 have j:=En r;have b:Yk c (PlcM.mk (-1) (n:Nat) 0 (X4 r)).cQ=true:=by
  unfold Yk PlcM.cQ;show(if (-1:Int)=-1 then (decide (0<(X4 r).length) && !(X4 r).any λn=>!Br n c.bS) else _)=true
  rw[bK rfl,XJ];refine⟨bN (by omega),?_⟩;rw[Bool.not_eq_true',QG];intro x d;unfold X4 at d;obtain⟨m,f,rfl⟩:=XQ.1 d;have:=g m f;rw[Mm.2 (by omega)]
  decide
 refine⟨b,?_,by omega⟩;unfold Z3;rw[bK b];show size<=if (-1:Int)=-1 then ((X4 r).length:Int)*c.size else _
 rw[bK rfl,j,e];exact a
theorem Xnr(h:s.OkP c pd){k n a:Int}(ho:Zd s.rm k n a≠-1):Yk c (PlcM.mk k n a []).cQ=true/\Z3 c (PlcM.mk k n a []).cQ=Z6 c k:=by
 obtain⟨b,d,_⟩:=O3 h ho;refine⟨b,?_⟩;unfold Z3;rw[bK (show Yk c (PlcM.mk k n a []).cQ=true from b)];show(if k=-1 then _ else Z6 c k)=_
 rw[bJ (by omega)]
theorem XkZ(hp:Xm c.bT size=(k:Nat)):size<=Z6 c k:=by
 unfold Z6;rw[XB];exact Xfz hp
theorem Ja(h:s.OkP c pd){t:ThM}(ht:s.th[o]?=some (some t)):Yk c t.q.cQ=true/\t.size<=Z3 c t.q.cQ/\t.q.bS.length<=4096:=by
 by_cases d:Xm c.bT t.size=-1
 .obtain⟨n,r,f,b,g⟩:=h.large o t ht d;rw[b];exact XjL h f (h.size o t ht).1 g
 .obtain⟨f,b,g⟩:=h.small o t ht d;obtain⟨m,p⟩:=Uw d;obtain⟨k,i⟩:=XE m;obtain⟨j,l⟩:=Xnr h (k:=t.q.cL) (n:=t.q.cR) (a:=t.q.idx) (by rw[g];omega);have e:t.q=⟨t.q.cL,t.q.cR,t.q.idx,[]⟩:=by
   obtain⟨sz,q,u,v,w⟩:=t;simp only at b
   rw[b]
  rw[<-e] at j l;refine⟨j,?_,by rw[b];simp⟩;rw[l,f,i];exact XkZ i
end
section
variable {F Fr:Nat->Prop}{w w':dD}{S:Sto}{s:StM}{by':Int}{mo:Mo}{pd:Option (Nat×PlcM)}
def He(s:StM)(k:Int):Bool:=decide (0<=k) && decide (k<s.mv.length)
theorem OkP.few(hs:s.OkP S.c pd):s.mv.length<=16/\s.bV.length=s.mv.length/\0<s.mv.length:=by
 have:=(Z4 hs.may).n;have:=hs.ml;have:=hs.kl;omega
end
theorem Xg8{F Fr:Nat->Prop}{w:dD}{S:Sto}{s:StM}{by':Int}{mo:Mo}{pd:Option (Nat×PlcM)}(h:Xs F Fr w S s by' mo)(hs:s.OkP S.c pd)(k:Int):Xe prog 131 #[Yq S,.int .i64 k] w (X3 (.bool (He s k)) w):=by
 refine aR func131 ntmps131 aA (aT aA (λa=>?_) λa=>?_)
 .refine bB h.obj aA ?_;have e:He s k=decide (k<s.mv.length):=by unfold He;rw[bN (show 0<=k from bL a)];rfl
  rw[e];exact bE func131 aA ⟨rfl,rfl⟩
 .have e:He s k=false:=by unfold He;rw[bO (show ¬0<=k from bM a)];rfl
  rw[e];exact bE func131 aA ⟨rfl,rfl⟩
theorem Xbd{s:StM}{k:Int}(h:He s k=false):Xx s k=none:=by
 unfold Xx;split
 .rename_i a
  unfold He at h;rw[bN a,YI] at h;have:=bM h;rw[XA,ZF (by omega)];rfl
 .rfl
theorem Xhk{s:StM}{k:Int}(h:He s k=true):∃j:Nat,k=j/\j<s.mv.length:=by
 unfold He at h;simp only[XJ,decide_eq_true_eq] at h;exact⟨k.toNat,by omega,by omega⟩
theorem Xe7{s:StM}(h:j<s.mv.length):Xx s (j:Nat)=s.mv[j]:=by
 unfold Xx;rw[bK (by omega),XB,XA,XD h];rfl
section
variable {F Fr:Nat->Prop}{w w':dD}{S:Sto}{s:StM}{by':Int}{mo:Mo}{pd:Option (Nat×PlcM)}
theorem Xs.mo_at(h:Xs F Fr w S s by' mo)(hj:j<s.mv.length):∃x,mo[j]?=some x/\x.map (·.2)=Xx s (j:Nat):=by
 have b:=h.mol;have a:j<mo.length:=by omega
 refine⟨mo[j],XD a,?_⟩;rw[Xe7 hj];have e:=h.mom;unfold Hq at e;simp only[<-e,YU]
theorem Xs.mcell(h:Xs F Fr w S s by' mo){x:Option (Nat×MvM)}(hx:mo[j]?=some x)(hi:i<6)(hv:(Em x)[i]?=some v):w.cell? ⟨S.vb,0+j*6+i,none⟩=some v:=by
 refine(Ys h.mvs).trans ?_;rw[XT,YW,Ty Xe8 hi mo j x hx,hv]
end
theorem K4{F Fr:Nat->Prop}{w:dD}{S:Sto}{s:StM}{by':Int}{mo:Mo}{pd:Option (Nat×PlcM)}(h:Xs F Fr w S s by' mo)(hs:s.OkP S.c pd)(k:Int):Xe prog 120 #[Yq S,.int .i64 k] w (X3 (.bool (Xx s k).isSome) w):=by
 obtain⟨f1,_,_⟩:=OkP.few hs;refine aR func120 ntmps120 aA (bH (Xg8 h hs k) aA ?_);cases ht:He s k with
 |false=>
  refine aS aA ?_;rw[Xbd ht];exact bE func120 aA ⟨rfl,rfl⟩
 |true=>
  obtain⟨j,rfl,c⟩:=Xhk ht;obtain⟨x,a,e⟩:=h.mo_at c;rw[<-e];refine bI aA (bB h.obj aA (aU (j*6) aA ?_));cases x with
  |none=>
   exact aW aA (h.mcell a (i:=0) (by decide) rfl) aA (bE func120 aA ⟨rfl,rfl⟩)
  |some p=>
   obtain⟨b,m⟩:=p;exact aW aA (h.mcell a (i:=0) (by decide) rfl) aA (bE func120 aA ⟨rfl,rfl⟩)
section
variable {F Fr:Nat->Prop}{w w':dD}{S:Sto}{s:StM}{by':Int}{mo:Mo}{pd:Option (Nat×PlcM)}
theorem Xs.mvOk(h:Xs F Fr w S s by' mo)(hs:s.OkP S.c pd){m:MvM}(hx:mo[j]?=some (some (b,m))):Ey w S.A (E0 S s) (E6 b m) m.cE:=by
 have hm:s.mv[j]?=some (some m):=by rw[<-h.mom];unfold Hq;rw[XO,hx];rfl
 obtain⟨a,c,d,_⟩:=Ks hs hm;have e:=(hs.mv j m hm).2.2.2.2.2.2;exact⟨h.ar,(h.mob j b m hx).1,d,by show m.cE<=m.size;omega,a,c⟩
end
theorem XnI{F Fr:Nat->Prop}{w:dD}{S:Sto}{s:StM}{by':Int}{mo:Mo}{pd:Option (Nat×PlcM)}(h:Xs F Fr w S s by' mo)(hs:s.OkP S.c pd)(k:Int):Xe prog 94 #[Yq S,.int .i64 k] w (Grow (.int .i64 (Ip s k:Nat)) w):=by
 obtain⟨f1,_,_⟩:=OkP.few hs;refine aR func94 ntmps94 aA (bH (K4 h hs k) aA ?_);cases ht:Xx s k with
 |none=>
  have e:Ip s k=0:=by unfold Ip;rw[ht]
  rw[e];exact bI aA (bE func94 aA ⟨rfl,Xc.refl _ _⟩)
 |some m=>
  have e:Ip s k=m.size-m.cE:=by unfold Ip;rw[ht]
  rw[e];obtain⟨j,rfl,d,_⟩:=Ah ht;obtain⟨x,a,e⟩:=h.mo_at d;rw[ht] at e;obtain⟨⟨b,m'⟩,rfl,e'⟩:=YO.1 e;simp only at e'
  subst e';exact aS aA (bB h.obj aA (aU (j*6) aA (aW aA (h.mcell a (i:=0) (by decide) rfl) aA (bG (Ui S.A (E0 S s) (E6 b m') m'.cE w (h.mvOk hs a)) aA λf c=>bE func94 aA ⟨rfl,c⟩))))
def Wy(F:Nat->Prop)(w0:dD)(s:StM)(o e:Int)(v:Value):Prop:=∃q,v=.tuple #[.agg (Fd (Ab s o) q).toArray,.int .i64 e]/\Xy q=Y7 s o/\Zo w0 q/\Xj F q.pa/\Fw w0 q.pa
abbrev q0:Plc:=⟨0,0,0,none,0,[]⟩
theorem Xbl{F:Nat->Prop}{s:StM}{o e:Int}{w':dD}(h:A9 s o=none):Wy F w' s o e (.tuple #[.agg (Fd 0 q0).toArray,.int .i64 e]):=by
 refine⟨q0,?_,?_,⟨Rd.nil _ _ _,by simp⟩,(λ_ _ _ e=>by cases e),(λ_ _ _ e=>by cases e)⟩
 .have:Ab s o=0:=by unfold Ab;rw[h]
  rw[this]
 .unfold Y7;rw[h];rfl
theorem Vr{F Fr:Nat->Prop}{w:dD}{S:Sto}{s:StM}{by':Int}{mo:Mo}{pd:Option (Nat×PlcM)}(h0:Xs F Fr w0 S s by' mo)(hw0:Xc Xf w0 w)(hs:s.OkP S.c pd)(o:Int):Xe prog 102 #[Yq S,.int .i64 o] w (λv w'=>Wy F w0 s o (Z5 s o) v/\Xc Xf w w'):=by
 have V:=hs.tl;refine aR func102 ntmps102 aA (bC aA λb w1 e1 u d W=>?_);have B:=(h0.bQ hw0).bQ d;by_cases g:o<0\/S.c.cN<=o
 .have k:Z5 s o=1:=by unfold Z5;rw[bK (by omega)]
  have f:A9 s o=none:=by
   unfold A9;split
   .rw[XA,ZF (by omega)];rfl
   .rfl
  rw[k];refine aT aA (λl=>?_) λl=>?_
  .exact aO aA (bF u aA λC c a m=>aK func102 c aA ⟨Xbl f,d.sn a⟩)
  .have a0:=bM l;exact bB B.obj aA (bI aA (aO aA (bF u aA λC c a m=>aK func102 c aA ⟨Xbl f,d.sn a⟩)))
 .obtain⟨j,rfl⟩:=XE (show 0<=o by omega);refine aS aA (bB B.obj aA (aS aA (bB B.obj aA ?_)));obtain⟨al,D,a1,E,G⟩:=h0.th;have y:=D.bR (hw0.trans d) id;cases i:s.th[j]? with
  |none=>exact absurd i (by rw[List.getElem?_eq_none_iff];omega)
  |some x=>
   cases x with
   |none=>
    have f:A9 s (j:Nat)=none:=by
     unfold A9;rw[bK (by omega),XB,XA,i];rfl
    have k:Z5 s (j:Nat)=9:=by unfold Z5;rw[bJ (by omega),f]
    have K:Bo al (j:Nat)=none:=G _ λL t1 l e=>by
     have:L=j:=by omega
     subst this;rw[i] at l;cases l
    rw[k];exact Xa.lookup Xb rfl (y) ((show Bt al _ _ true=.tuple #[.agg (Fd 0 q0).toArray,.bool false] from by unfold Bt;rw[K];rfl)) rfl (bC aA λM C e2 c a m=>bF c aA λN A h H=>bI aA (aO aA (bF (h.heap (a.bP u) (by omega)) aA λO p r I=>aK func102 p aA ⟨Xbl f,((d.trans a).sn h).sn r⟩)))
   |some t=>
    have f:=Hd i;have k:Z5 s (j:Nat)=0:=by unfold Z5;rw[bJ (by omega),f]
    have J:Ab s (j:Nat)=t.size:=by unfold Ab;rw[f]
    obtain⟨q,P,Q,R,T,U⟩:=E j t i;rw[k];refine Xa.lookup Xb rfl (y) ((show Bt al _ _ true=.tuple #[.agg (Fd t.size q).toArray,.bool true] from by unfold Bt;rw[Q];rfl)) rfl (bC aA λM C e2 c a m=>bF c aA λN A h H=>aS aA (bB A aA (bF (h.heap (a.bP u) (by omega)) aA λO p r I=>?_)));exact aK func102 p aA ⟨⟨q,by rw[J];rfl,P.trans (Qo i).symm,R,T,U⟩,(((d.trans a).sn h).sn r)⟩
theorem Xg9{F Fr:Nat->Prop}{w:dD}{S:Sto}{s:StM}{by':Int}{mo:Mo}{pd:Option (Nat×PlcM)}(h:Xs F Fr w0 S s by' mo)(hw0:Xc Xf w0 w)(hs:s.OkP S.c pd)(o i n:Int)(hi : -9223372036854775808<=i/\i<=9223372036854775807)(hn : -9223372036854775808<=n/\n<=9223372036854775807):Xe prog 106 #[Yq S,.int .i64 o,.int .i64 i,.int .i64 n] w (λv w'=>Wy F w0 s o (Ql s o i n) v/\Xc Xf w w'):=by
 have O:0<=Ab s o/\Ab s o<=1152921504606846976:=by
  unfold Ab;cases ht:A9 s o with
  |none=>simp
  |some t=>
   obtain⟨j,_,_,M⟩:=Xcz ht;have:=hs.size j t M;have:=(Z4 hs.may).cH;simp only
   omega
 refine aR func106 ntmps106 aA (bC aA λb w1 e1 N l P=>aP aA (Vr h (hw0.trans l) hs o) ?_);rintro _ w2 ⟨⟨q,rfl,y,A,B,C⟩,k⟩;have Q:=k.size;refine aN aA (bC aA λb3 w3 e3 H m R=>bF H aA λw4 d p T=>?_);have f:=p.heap (m.bP (k.bP N)) (by omega);refine aT aA (λE=>?_) λE=>?_
 .have I:Z5 s o=0:=by simpa using E
  by_cases g:i<0\/n<0\/Ab s o<n\/Ab s o-n<i
  .have e:Ql s o i n=8:=by unfold Ql;rw[bJ (by omega),bK g]
   refine aT aA (λJ=>?_) λJ=>?_
   .have r:=((l.trans k).trans m).sn p;refine bB d aA (bF f aA λD a c x=>?_);exact aK func106 a aA ⟨⟨q,by rw[e];rfl,y,A,B,C⟩,(r.sn c)⟩
   .have U:=bM J;refine aT aA (λK=>?_) λK=>?_
    .have r:=((l.trans k).trans m).sn p;refine bB d aA (bF f aA λD a c x=>?_);exact aK func106 a aA ⟨⟨q,by rw[e];rfl,y,A,B,C⟩,(r.sn c)⟩
    .have V:=bM K;refine bB d aA (aT aA (λL=>?_) λL=>?_)
     .have r:=((l.trans k).trans m).sn p;refine bB d aA (bF f aA λD a c x=>?_);exact aK func106 a aA ⟨⟨q,by rw[e];rfl,y,A,B,C⟩,(r.sn c)⟩
     .have W:=bM L;refine bB d aA (aV aA (bI aA ?_));refine bB d aA (bF f aA λD a c x=>?_);exact aK func106 a aA ⟨⟨q,by rw[e];rfl,y,A,B,C⟩,((((l.trans k).trans m).sn p).sn c)⟩
  .have e:Ql s o i n=0:=by unfold Ql;rw[bJ (by omega),bJ g]
   have G:Z5 s o=Ql s o i n:=by rw[I,e]
   refine aS aA (aS aA (bB d aA (aS aA (bB d aA (aV aA (aS aA (bB d aA (bF f aA λD a c x=>?_))))))));exact aK func106 a aA ⟨⟨q,by rw[<-G];rfl,y,A,B,C⟩,((((l.trans k).trans m).sn p).sn c)⟩
 .have e:Z5 s o=Ql s o i n:=by unfold Ql;rw[bK (by simpa using E)]
  refine bB d aA (bF f aA λD a c x=>?_);exact aK func106 a aA ⟨⟨q,by rw[<-e];rfl,y,A,B,C⟩,((((l.trans k).trans m).sn p).sn c)⟩
theorem Xch{S:Sto}(fk:Nat)(caps:List Value)(w:dD)(Q:Int->dD->Prop)(hf:Xe prog fk caps.toArray w (λv w'=>∃n:Int,v=.int .i64 n/\Q n w')):Xe prog 99 #[Yq S,.func (.func fk) #[] caps.toArray] w (λv w'=>∃n:Int,v=.int .i64 n/\Q n w'):=by
 refine aR func99 ntmps99 aA (aP aA (hf) ?_);rintro _ b ⟨n,rfl,a⟩;exact aN aA (bE func99 aA ⟨n,rfl,a⟩)
abbrev Xcd(w:dD)(b:Nat)(v:Value):Prop:=w.heap[b]?=some (.cells #[v] 101 (0,0))
theorem XnH{S:Sto}(h:Xs F Fr w S s by' mo)(b:Nat)(hb:Xcd w b (Yq S)):Xe prog 100 [.pointer (some ⟨b,0,none⟩)].toArray w (λv w'=>∃n:Int,v=.int .i64 n/\n=(Za s.rm.pl:Nat)/\w=w'):=by
 exact aR func100 ntmps100 aA (aW aA (Cp (off:=0) hb rfl) aA (bB h.obj aA (bH (Sj h.cW) aA (bE func100 aA ⟨_,rfl,rfl,rfl⟩))))
theorem XnG{S:Sto}(h:Xs F Fr w S s by' mo):Xe prog 50 #[Yq S] w (Grow (.int .i64 (Za s.rm.pl:Nat)) w):=by
 refine aR func50 ntmps50 aA (bC aA λb d e1 c a e=>aW aA (Cp (off:=0) c rfl) aA (aP aA (Xch (S:=S) 100 [.pointer (some ⟨b,0,none⟩)] d _ (XnH (h.bQ a) b c)) ?_));rintro _ f ⟨n,rfl,rfl,rfl⟩;exact aN aA (bE func50 aA ⟨rfl,a⟩)
theorem XnE{S:Sto}(h:Xs F Fr w S s by' mo)(b:Nat)(hb:Xcd w b (Yq S)):Xe prog 126 [.pointer (some ⟨b,0,none⟩)].toArray w (λv w'=>∃n:Int,v=.int .i64 n/\n=by'/\w=w'):=by
 exact aR func126 ntmps126 aA (aW aA (Cp (off:=0) hb rfl) aA (bB h.obj aA (bE func126 aA ⟨_,rfl,rfl,rfl⟩)))
theorem XnD{S:Sto}(h:Xs F Fr w S s by' mo):Xe prog 73 #[Yq S] w (Grow (.int .i64 by') w):=by
 refine aR func73 ntmps73 aA (bC aA λb d e1 c a e=>aW aA (Cp (off:=0) c rfl) aA (aP aA (Xch (S:=S) 126 [.pointer (some ⟨b,0,none⟩)] d _ (XnE (h.bQ a) b c)) ?_));rintro _ f ⟨n,rfl,rfl,rfl⟩;exact aN aA (bE func73 aA ⟨rfl,a⟩)
theorem XnS{S:Sto}(h:Xs F Fr w S s by' mo)(old size:Int)(ho:old<=9223372036854775807)(hz:size<=9223372036854775807):Xe prog 111 #[Yq S,.int .i64 old,.int .i64 size] w (Grow (.bool (A0 S.c old size)) w):=by
 have d:=h.ca.1;have j:S.c.bT.length<=9223372036854775807:=by have:=Z4 h.cW.may;have:=this.n;rw[h.rc] at this;omega
 refine aR func111 ntmps111 aA (aQ 13 Xf (by kernel_rfl) aA λa=>aE a h.obj aA (aG a (λw' f=>Oc S.p.ca S.p.cc S.c.bT old w' (d.bR f) j) aA (aE a h.obj aA (aF a aA λm g=>bG (Oc S.p.ca S.p.cc S.c.bT size m (d.bR g) j) aA λn k=>?_))));have b:=g.trans k;have l:=h.bQ b;by_cases e1:Xm S.c.bT old=Xm S.c.bT size
 .by_cases e2:Xm S.c.bT old=-1
  .have e:A0 S.c old size=decide (Qm old S.c.size=Qm size S.c.size):=by unfold A0;rw[bN e1,YI,bO (λh=>h e2),Bool.false_or]
   rw[e];exact aQ 20 Xf (by kernel_rfl) aA λa=>Xd.yes Xb a rfl (by simpa using e1) rfl (Xd.no Xb a rfl (by rw[e2];rfl) rfl (aE a l.obj aA (aH a (λw' f=>Xax old S.c.size w' ho) aA (aE a l.obj aA (aF a aA λi c=>bH (Xax size S.c.size i hz) aA (bE func111 aA ⟨rfl,b.trans c⟩))))))
  .have e:A0 S.c old size=true:=by unfold A0;rw[bN e1,YI,bN e2,Bool.true_or]
   rw[e];exact aQ 20 Xf (by kernel_rfl) aA λa=>Xd.yes Xb a rfl (by simpa using e1) rfl (Xd.yes Xb a rfl (by simpa using e2) rfl (aF a aA λi c=>bE func111 aA ⟨rfl,b.trans c⟩))
 .have e:A0 S.c old size=false:=by unfold A0;rw[bO e1,Y2]
  rw[e];exact aQ 20 Xf (by kernel_rfl) aA λa=>Xd.no Xb a rfl (by simpa using e1) rfl (aF a aA λi c=>bE func111 aA ⟨rfl,b.trans c⟩)
theorem Xcg{S:Sto}(h:Xs F Fr w S s by' mo)(hs:s.OkP S.c pd)(size:Int):Xe prog 67 #[Yq S,.int .i64 size] w (Grow (.int .i64 (Yt S.c s size)) w):=by
 have g:S.c.bT.length<=9223372036854775807:=by have:=Z4 h.cW.may;have:=this.n;rw[h.rc] at this;omega
 refine aR func67 ntmps67 aA (aT aA (λc=>?_) λc=>?_)
 .have e:Yt S.c s size=3:=by unfold Yt;rw[bK (.inl (bL c))]
  rw[e];exact bE func67 aA ⟨rfl,Xc.refl _ _⟩
 .have i:=bM c;refine bB h.obj aA (aT aA (λd=>?_) λd=>?_)
  .have e:Yt S.c s size=3:=by unfold Yt;rw[bK (.inr (bL d))]
   rw[e];exact bE func67 aA ⟨rfl,Xc.refl _ _⟩
  .have j:=bM d;have e:Yt S.c s size=if (Xx s (Xm S.c.bT size)).isSome then 0 else Qf S.c s.rm size:=by unfold Yt;rw[bJ (by omega)]
   rw[e];refine bB h.obj aA (bG (Oc S.p.ca S.p.cc S.c.bT size w h.ca.1 g) aA λk a=>?_);have b:=h.bQ a;refine bH (K4 b hs (Xm S.c.bT size)) aA ?_;cases hm:(Xx s (Xm S.c.bT size)).isSome with
   |true=>
    exact bI aA (bE func67 aA ⟨rfl,a⟩)
   |false=>
    refine aS aA (bB b.obj aA ?_);have hr:=Xgp b.cW size;rw[b.rc] at hr;exact bG hr aA λl f=>bE func67 aA ⟨rfl,a.trans f⟩
end Go.Proofs.YtdeihcnepljjaaaGreatDoor
