/-
  Texts put together: Laws22, Tb, Tb0, Tb1, Szs, Hp0, Flt, Hp1, Hp2, Hp3, Hpm, Hp4, Aw23, Laws20, Laws20b, Laws23, Act23, Lgo, Lay, By1, By2, Bcnt, Ref10, Sr16, Laws23b, Ref10b, Ref10c, Tot22, Ref23, Ref23b, Ref23c, Laws23c, Laws23d, Laws23e, Bnd22, Cnt22, Bd22, Stl23, Bd23, Ref18, Ref18b, Laws23i.
-/
import Derived.Test.YtdeihcnepljjaaaGreatDoorPt4
import Derived.Test.YtdeihcnepljjaaaGreatDoorQRule24
import Derived.Test.YtdeihcnepljjaaaGreatDoorQRule9
import Derived.KernelRfl
import Derived.Test.YtdeihcnepljjaaaGreatDoorQRule25
import Derived.Test.YtdeihcnepljjaaaGreatDoorQRule12
import Derived.Test.YtdeihcnepljjaaaGreatDoorQRule21
import Derived.Test.YtdeihcnepljjaaaGreatDoorQRule26
import Derived.Test.YtdeihcnepljjaaaGreatDoorQRule23
set_option linter.unusedVariables false
set_option maxRecDepth 100000
namespace Go.Proofs.YtdeihcnepljjaaaGreatDoor
open Go.RowKit
open Go renaming World→dD,Value→dE,Addr→dF
open Bool renaming and_eq_true->XI,false_eq_true->ZP,and_false->YD
open Decidable renaming not_not->YP
open Int renaming toNat_natCast->XA,eq_ofNat_of_zero_le->XE,mul_le_mul_of_nonneg_right->XZ,mul_nonneg->ZG,mul_le_mul->ZH,ediv_nonneg->ZY,mul_comm->YK,sub_self->YL,le_refl->YN,toNat_of_nonneg->YT,tdiv_eq_ediv_of_nonneg->YY,add_mul->QG
open List renaming getD_eq_getElem?_getD->XB,getElem?_eq_some_iff->XC,getElem?_eq_getElem->XD,length_set->XG,getElem?_set_self->XH,length_replicate->XJ,getElem?_set_ne->XK,getElem_mem->XL,map_append->XM,length_cons->XN,getElem?_map->XO,mem_map->XP,length_map->XU,nodup_cons->XV,mem_of_getElem?->XW,length_take->XX,take_append_drop->XY,mem_cons->ZC,getElem?_replicate->ZD,length_range->ZK,map_cons->ZL,mem_cons_self->ZO,nil_append->ZQ,map_congr_left->ZU,map_set->ZW,eq_of_mem_replicate->ZX,length_eq_zero_iff->ZZ,mem_cons_of_mem->YA,getElem?_set->YE,replicate_succ->YF,set_append_left->YO,range_succ->YQ,take_of_length_le->YV,mem_replicate->QF,ext_getElem?->QH,any_eq_false->QI,sum_cons->QJ,length_drop->QK,length_tail->QM,append_nil->QR,getElem_of_mem->QV
open Nat renaming le_refl->XF,zero_le->XQ,zero_add->XT,mul_one->ZS,le_trans->YB,div_add_mod->YG,mul_comm->YJ,mod_lt->YW,div_lt_iff_lt_mul->QQ,succ_mul->An
open Go.Proofs.Tryz (func10 func105 func108 func11 func12 func123 func13 func134 func135 func16 func166 func17 func18 func19 func21 func22 func23 func24 func25 func26 func27 func29 func3 func30 func31 func32 func33 func34 func37 func38 func39 func40 func41 func42 func49 func51 func52 func54 func55 func57 func59 func6 func60 func62 func65 func68 func69 func72 func76 func77 func8 func81 func84 func9 func90 func91 ntmps10 ntmps105 ntmps108 ntmps11 ntmps12 ntmps123 ntmps13 ntmps134 ntmps135 ntmps16 ntmps166 ntmps17 ntmps18 ntmps19 ntmps21 ntmps22 ntmps23 ntmps24 ntmps25 ntmps26 ntmps27 ntmps29 ntmps3 ntmps30 ntmps31 ntmps32 ntmps33 ntmps34 ntmps37 ntmps38 ntmps39 ntmps40 ntmps41 ntmps42 ntmps49 ntmps51 ntmps52 ntmps54 ntmps55 ntmps57 ntmps59 ntmps6 ntmps60 ntmps62 ntmps65 ntmps68 ntmps69 ntmps72 ntmps76 ntmps77 ntmps8 ntmps81 ntmps84 ntmps9 ntmps90 ntmps91 prog)
variable {A:Ar}{V:ArV}{c:Conf}{l':IL}{ahead by' cS cH size cN u who z:Int}{lg:List (Nat×List Nat)}{th:List (Option ThM)}{ps:List IL}{bs l p zs:List Int}{l2 ws:List Nat}{cs rest xs:List dE}{mo:Mo}{N at' b base cap d fuel g i j k lm lo m n o qb sz t tm ty vb xb y:Nat}{e:Nat×List Int}{fz:Nat×Nat}{f:Nat->Int}{G:Nat->Pg}{B C F F' Fr Q S S' T xX:Nat->Prop}{pd pd2:Option (Nat×PlcM)}{a:Option dF}{pg:PgL}{pl':PlM}{q:Plc}{R:Rm}{M:RmM}{r:SR}{x x':Sm}{s s':StM}{α:Type}{v:dE}{w w' w'' w0 w1 w2:dD}{cells:α->List dE}
section
variable {c:Conf}{n0:Nat}{w0 w:dD}{F:Nat->Prop}{S:Sto}{s:StM}
theorem Lv.ofE(h:Lv c n0 w0 w F S s){e:Int}(hi:s'.Ok c){P:Program}{k:FuncId}{args:Array dE}(hd:Xe P k args w (Ju F w S s' e)):Xe P k args w (λv w'=>v=W e/\Kg c n0 w0 w F S s' w'):=
 hd.mono λv w' ⟨e1,ht⟩=>⟨e1,h.to ht hi⟩
theorem XkS(h:Lv c n0 w0 w F S s)(o size:Int):Xe prog 70 #[Y6 S,W o,W size] w (λv w'=>v=W (Cm c s o size)/\Kg c n0 w0 w F S (Q1 c s o size) w'):=by
 obtain⟨Fr,mo,b⟩:=h.ok;have a:=Xok b (by rw[h.sc];exact h.inv) o size;rw[h.sc] at a;exact h.ofE (h.inv.alloc o size) a
theorem XkV(h:Lv c n0 w0 w F S s)(o:Int):Xe prog 53 #[Y6 S,W o] w (λv w'=>v=W (Z9 s o)/\Kg c n0 w0 w F S (Aq c s o) w'):=by
 obtain⟨Fr,mo,b⟩:=h.ok;have a:=Xon b (by rw[h.sc];exact h.inv) o;rw[h.sc] at a;exact h.ofE (h.inv.free o) a
theorem XkZ(h:Lv c n0 w0 w F S s)(o size:Int):Xe prog 63 #[Y6 S,W o,W size] w (λv w'=>v=W (A2 c s o size)/\Kg c n0 w0 w F S (Q7 c s o size) w'):=by
 obtain⟨Fr,mo,b⟩:=h.ok;have a:=Xos b (by rw[h.sc];exact h.inv) o size;rw[h.sc] at a;exact h.ofE (h.inv.resize o size) a
theorem Xk2(h:Lv c n0 w0 w F S s)(o i:Int)(a:Option dF)(cap:Nat)(l:List Int)(hi : -9223372036854775808<=i/\i<=9223372036854775807)(hr:Rd .u8 w a l)(hlc:l.length<=cap)(hl:l.length<=9223372036854775807)(hin:Qo l)(hout:0<l.length->Xj F a):Xe prog 61 #[Y6 S,W o,W i,.slice a l.length cap] w (λv w'=>v=W (Qt s o i l.length)/\Kg c n0 w0 w F S (Cx c s o i l) w'):=by
 obtain⟨Fr,mo,d⟩:=h.ok;have b:=Xox d (by rw[h.sc];exact h.inv) o i a cap l hi hr hlc hl hin hout;rw[h.sc] at b;exact h.ofE (h.inv.write o i hin) b
theorem XkY(h:Lv c n0 w0 w F S s)(o i n:Int)(hi : -9223372036854775808<=i/\i<=9223372036854775807)(hn : -9223372036854775808<=n/\n<=9223372036854775807):Xe prog 56 #[Y6 S,W o,W i,W n] w
 (λv w'=>∃a cap,v=.tuple #[.slice a (Cn c s o i n).length cap,W (Qt s o i n)]/\Rd .u8 w' a (Cn c s o i n)/\(∀b off s',a=some ⟨b,off,s'⟩->w.heap.size<=b/\b<w'.heap.size)/\Lv c n0 w0 w' F S (Cc c s o i n)/\Xc F w w'):=by
 obtain⟨Fr,mo,g⟩:=h.ok;have d:=Xor g (by rw[h.sc];exact h.inv) o i n hi hn;rw[h.sc] at d;refine d.mono λv w' ⟨u,e,j,mo',k,f⟩=>?_;obtain⟨a,cap,e2,hr,l⟩:=j.rd8 rfl;exact⟨a,cap,by rw[e,e2],hr,l,⟨⟨Fr,mo',k⟩,h.inv.read o i n,h.sc,h.fx,h.base,h.bR.bU f (λz m e=>xH (h.base z e))⟩,f⟩
theorem Xk1(h:Lv c n0 w0 w F S s):Xe prog 78 #[Y6 S] w (λv w'=>v=W 0/\Kg c n0 w0 w F S (D4 c s) w'):=by
 obtain⟨Fr,mo,b⟩:=h.ok;have a:=Xow b (by rw[h.sc];exact h.inv);rw[h.sc] at a;exact h.ofE h.inv.tick a
theorem Xk0(h:Lv c n0 w0 w F S s)(k bV:Int):Xe prog 79 #[Y6 S,W k,W bV] w (λv w'=>v=W (Cd s k bV)/\Kg c n0 w0 w F S (Cw s k bV) w'):=by
 obtain⟨Fr,mo,a⟩:=h.ok;exact h.ofE (h.inv.set k bV) (Xot a (by rw[h.sc];exact h.inv) k bV)
theorem Vb(h:Lv c n0 w0 w F S s):Xe prog 71 #[Y6 S] w (λv w'=>v=W (s.rm.tot-S.R.dA)/\Lv c n0 w0 w' F (S.relap s.rm.tot) s/\Xc (λz=>z=S.mb) w w'/\F S.mb):=by
 obtain⟨Fr,mo,a⟩:=h.ok;refine(Xou a).mono λv w' ⟨e,d,b⟩=>⟨e,⟨⟨Fr,mo,d⟩,h.inv,h.sc,?_,h.base,h.bR.bU b (λz f e=>xI (h.base z (e▸a.mb.1)) h.bR.size)⟩,b,a.mb.1⟩;obtain⟨f1,f2,f3,f4,f5,f6,f7,f8⟩:=h.fx;exact⟨f1,f2,f3,f4,f5,f6,f7,f8⟩
theorem XkW(h:Lv c n0 w0 w F S s):Xe prog 50 #[Y6 S] w (Grow (W (Zd s.rm.pl:Nat)) w):=by obtain⟨Fr,mo,a⟩:=h.ok;exact Xoo a
theorem XkT(h:Lv c n0 w0 w F S s):Xe prog 73 #[Y6 S] w (Grow (W (Zy s)) w):=by obtain⟨Fr,mo,a⟩:=h.ok;exact Xol a
theorem XkU(h:Lv c n0 w0 w F S s)(size:Int):Xe prog 67 #[Y6 S,W size] w (Grow (W (Ys c s size)) w):=by
 obtain⟨Fr,mo,a⟩:=h.ok;have:=XcO a (by rw[h.sc];exact h.inv) size;rw[h.sc] at this;exact this
end
theorem XfJ{c:Conf}(hm:Xy c=true)(hA:Y1 c (Io c 0)):(Es c).Ok c:=by
 have hf:=Zr hm;have b:∀(o:Nat) t,(Es c).th[o]?≠some (some t):=λo t e=>by
  have:=XW e;simp only[Es,QF] at this;cases this.2
 have g:∀(o:Nat) t,(Es c).mv[o]?≠some (some t):=λo t e=>by
  have:=XW e;simp only[Es,QF] at this;cases this.2
 have f:=hm;unfold Xy at f;simp only[XI,decide_eq_true_eq,Qu,Bool.not_eq_true'] at f;refine⟨hm,hA,hf.bV,λx d=>?_,?_,Ts _,?_,XJ,λo t h=>absurd h (b o t),λo t h=>absurd h (b o t),λo t h=>absurd h (b o t),λo _ t _ h=>absurd h (b o t),λk m h=>absurd h (g k m),λk n a h=>absurd ?_ h,(by rintro _ _ ⟨⟩),(by rintro _ _ ⟨⟩)⟩
 .have i:=f.1.1.1.1.2.2;rw[QI] at i;have:=i x d;unfold Ng Qu at this;simp at this;omega
 .show((X7 _).length:Int)=_
  rw[Fj];exact YT (ZG (xH hf.size) (xH hf.bS))
 .show((List.replicate c.cN.toNat none).length:Int)=_
  rw[XJ];exact YT X
 .unfold Zi;split
  .rfl
  .rename_i x d
   unfold Zs at d;split at d
   .obtain⟨_,e⟩:=Pk d;rw[e];rfl
   .cases d
theorem Xlm(c:Conf):Zy (Es c)=0:=by
 rw[Hi];show((List.replicate c.cN.toNat (none:Option ThM)).map Bd).sum=0
 generalize c.cN.toNat=n
 induction n with
 |zero=>rfl
 |succ n ih=>rw[YF,ZL,QJ,ih];rfl
theorem XkX(c:Conf)(p:Yz)(w:dD)(hc:Yd w c p)(ht:Bk w)(hm:Xy c=true):Xe prog 64 #[.agg (X5 c p).toArray] w (λv w'=>∃F S,v=.tuple #[Y6 S,W 0]/\Lv c w'.heap.size w w' F S (Es c)/\S.R.dA=0/\S.p=p/\Xc Xf w w'):=by
 refine(Xoq c p w hc ht hm).mono λv w' ⟨F,Fr,S,mo,e,a,⟨d,g⟩,h,i,f⟩=>⟨F,S,e,?_,h,g,f⟩;have hr:=a.cW;have b:=hr.ok;rw[a.rc,d] at b;exact⟨⟨Fr,mo,by rw[Xlm];exact a⟩,XfJ hm ⟨b,hr.cU,hr.mpos⟩,d,a.fixed,i,f⟩
structure TbM where
 gen:List Int
 dB:List Bool
 fl:List Nat
 cH:Int
structure TbM.Ok(t:TbM)(cN cS:Int):Prop where
 n:(t.gen.length:Int)=cN
 nl:t.dB.length=t.gen.length
 mg:t.cH=cS
 sl:1<=cN/\cN<=4096
 gs:1<=cS/\cS<=1023
 gen:∀(i:Nat) (g:Int),t.gen[i]?=some g->1<=g/\g<=cS+1
 lv:∀(i:Nat) (g:Int),t.gen[i]?=some g->t.dB[i]?=some true->g<=cS
 fr:∀i∈t.fl,∃g,t.gen[i]?=some g/\g<=cS/\t.dB[i]?=some false
 nd:t.fl.Nodup
 many:t.fl.length+t.dB.count true<=t.gen.length
def Ec(slot gen:Int):Bool:=decide (0<=slot) && decide (slot<=4095) && decide (1<=gen) && decide (gen<=1023)
def Z5(h:Int):Int:=h.tmod 4096
def Yl(h:Int):Int:=h.tdiv 4096
def Co(t:TbM)(n:Int):Int:=t.gen[n.toNat]?.getD 0
def N0(t:TbM)(n:Int):Bool:=t.dB[n.toNat]?.getD false
def X1(t:TbM)(h:Int):Int:=
 if Ec (Z5 h) (Yl h)=false then 7
 else if (t.gen.length:Int)<=Z5 h then 7
 else if Yl h<Co t (Z5 h) then 6
 else if Co t (Z5 h)<Yl h then 7
 else if N0 t (Z5 h)=false then 7 else 0
def Zh(t:TbM)(h:Int):Int:=if X1 t h=0 then Z5 h else 0
def Ez(t:TbM):TbM:=match t.fl with
 |[]=>t
 |n::r=>{t with dB:=t.dB.set n true,fl:=r}
def C7(t:TbM):Int:=match t.fl with
 |[]=>0
 |n::_=>n
def Ma(t:TbM):Int:=match t.fl with
 |[]=>0
 |n::_=>Co t n*4096+n
def Dj(t:TbM)(h:Int):TbM:=
 if X1 t h=0 then
  {t with
   gen:=t.gen.set (Z5 h).toNat (Co t (Z5 h)+1),dB:=t.dB.set (Z5 h).toNat false,
   fl:=if Co t (Z5 h)+1<=t.cH then (Z5 h).toNat::t.fl else t.fl}
 else t
def Xc0(t:TbM):Nat:=t.dB.count true
def Cu(cN cS:Int):TbM:=⟨List.replicate cN.toNat 1,List.replicate cN.toNat false,List.range cN.toNat,cS⟩
section
variable {t:TbM}{cN cS:Int}
theorem XfK(hs:1<=cN/\cN<=4096)(hg:1<=cS/\cS<=1023):(Cu cN cS).Ok cN cS:=by
 refine⟨?_,?_,rfl,hs,hg,?_,?_,?_,List.nodup_range,?_⟩
 .show((List.replicate cN.toNat (1:Int)).length:Int)=cN
  rw[XJ];omega
 .show(List.replicate cN.toNat false).length=(List.replicate cN.toNat (1:Int)).length
  rw[XJ,XJ]
 .intro i g e;have:=XW e;simp only[Cu,QF] at this;omega
 .intro i g e h;have:=XW h;simp only[Cu,QF] at this;cases this.2
 .intro i hi;have hi:=List.mem_range.1 hi;exact⟨1,by simp[Cu,hi],hg.1,by simp[Cu,hi]⟩
 .show(List.range cN.toNat).length+(List.replicate cN.toNat false).count true<=(List.replicate cN.toNat (1:Int)).length
  rw[List.count_replicate,ZK,XJ];exact XF _
theorem U0{l:List Bool}{a b:Bool}(h:l[i]?=some a):(l.set i b).count true+(if a=true then 1 else 0)=l.count true+(if b=true then 1 else 0):=by
 obtain⟨c,e⟩:=XC.1 h;rw[List.count_set c,e];have:a=true->1<=l.count true:=λd=>by
  rw[d] at e;exact List.count_pos_iff.2 (e▸XL c)
 cases a with
 |false=>cases b <;> simp
 |true=>have:=this rfl;cases b <;> simp <;> omega
theorem TbM.Ok.tbE_ok(h:t.Ok cN cS){k:Int}(he:X1 t k=0):0<=Z5 k/\Z5 k<cN/\(Z5 k).toNat<t.gen.length/\1<=Yl k/\Yl k<=cS/\t.gen[(Z5 k).toNat]?=some (Yl k)/\t.dB[(Z5 k).toNat]?=some true:=by
 unfold X1 at he;have f:=h.n;split at he
 .omega
 rename_i b
 split at he
 .omega
 rename_i g
 split at he
 .omega
 rename_i i
 split at he
 .omega
 rename_i j
 split at he
 .omega
 rename_i d
 simp only[Ec,Bool.not_eq_false,XI,decide_eq_true_eq] at b;have a:(Z5 k).toNat<t.gen.length:=X
 have e1:t.gen[(Z5 k).toNat]?=some (Yl k):=by
  have e:Co t (Z5 k)=Yl k:=X
  rw[<-e];unfold Co;rw[XD a];rfl
 have e2:t.dB[(Z5 k).toNat]?=some true:=by
  have c:(Z5 k).toNat<t.dB.length:=by rw[h.nl];exact a
  have:N0 t (Z5 k)=true:=xU d
  unfold N0 at this;rw[XD c] at this⊢;exact congrArg some this
 exact⟨b.1.1.1,X,a,b.1.2,h.lv _ _ e1 e2,e1,e2⟩
theorem TbM.Ok.take(h:t.Ok cN cS):(Ez t).Ok cN cS:=by
 unfold Ez;split
 .exact h
 .rename_i n r e
  have a:=h.nd;rw[e] at a;obtain⟨o,d,f,j⟩:=h.fr n (by rw[e];exact ZO);have c:∀i∈r,i≠n:=λi hi e2=>(XV.1 a).1 (e2▸hi);refine⟨h.n,?_,h.mg,h.sl,h.gs,h.gen,?_,?_,(XV.1 a).2,?_⟩
  .show(t.dB.set n true).length=_
   rw[XG];exact h.nl
  .intro i g e1 e2;by_cases hi:i=n
   .subst hi;rw[d] at e1;cases e1
    exact f
   .replace e2:(t.dB.set n true)[i]?=some true:=e2;rw[XK (Ne.symm hi)] at e2;exact h.lv i g e1 e2
  .intro i hi;obtain⟨g,k,l,m⟩:=h.fr i (by rw[e];exact YA _ hi);refine⟨g,k,l,?_⟩;show(t.dB.set n true)[i]?=_
   rw[XK (Ne.symm (c i hi))];exact m
  .have hm:=h.many;have:=U0 (b:=true) j;rw[e] at hm;simp only[XN,ZP,if_false,if_true] at hm this;show r.length+(t.dB.set n true).count true<=t.gen.length
   omega
theorem TbM.Ok.give(h:t.Ok cN cS)(k:Int):(Dj t k).Ok cN cS:=by
 unfold Dj;split
 .rename_i m
  obtain⟨p,q,d,r,s,n,f⟩:=h.tbE_ok m;have eg:Co t (Z5 k)=Yl k:=by unfold Co;rw[n];rfl
  have j:(Z5 k).toNat<t.dB.length:=by rw[h.nl];exact d
  have o:=h.mg;have a:(Z5 k).toNat∉t.fl:=λhm=>by
   obtain⟨g,_,_,l⟩:=h.fr _ hm;rw[f] at l;cases l
  refine⟨?_,?_,h.mg,h.sl,h.gs,?_,?_,?_,?_,?_⟩
  .show((t.gen.set _ _).length:Int)=_
   rw[XG];exact h.n
  .show(t.dB.set _ _).length=(t.gen.set _ _).length
   rw[XG,XG];exact h.nl
  .intro i g e1;by_cases hi:i=(Z5 k).toNat
   .subst hi;rw[XH d] at e1;cases e1
    omega
   .rw[XK (Ne.symm hi)] at e1;exact h.gen i g e1
  .intro i g e1 e2;by_cases hi:i=(Z5 k).toNat
   .subst hi;rw[XH j] at e2;cases e2
   .rw[XK (Ne.symm hi)] at e1 e2;exact h.lv i g e1 e2
  .intro i hi;show ∃g,(t.gen.set _ _)[i]?=some g/\g<=cS/\(t.dB.set _ _)[i]?=some false
   by_cases c:i=(Z5 k).toNat
   .subst c;rw[XH d,XH j];split at hi
    .exact⟨_,rfl,X,rfl⟩
    .exact absurd hi a
   .rw[XK (Ne.symm c),XK (Ne.symm c)];refine h.fr i ?_;split at hi
    .exact(ZC.1 hi).resolve_left c
    .exact hi
  .show(if Co t (Z5 k)+1<=t.cH then (Z5 k).toNat::t.fl else t.fl).Nodup
   split
   .exact XV.2 ⟨a,h.nd⟩
   .exact h.nd
  .have hm:=h.many;have:=U0 (b:=false) f;simp only[ZP,if_false,if_true] at this;show(if Co t (Z5 k)+1<=t.cH then (Z5 k).toNat::t.fl else t.fl).length+(t.dB.set (Z5 k).toNat false).count true<=(t.gen.set _ _).length
   rw[XG];split
   .rw[XN];omega
   .omega
 .exact h
end
structure A7 where
 tb:Nat
 sb:Nat
abbrev La(P:A7):dE:=.pointer (some ⟨P.tb,0,none⟩)
def Jp(t:TbM)(i:Nat):Int:=if t.dB.getD i false then 1 else if t.gen.getD i 0<=t.cH then 0 else 2
def Gw(P:A7)(n:Nat)(cH head:Int)(g:Nat->Int):List dE:=[.slice (some ⟨P.sb,0,none⟩) n n,.int .i64 cH,.int .i64 head,.int .i64 (g 0),.int .i64 (g 1),.int .i64 (g 2)]
def Xab(t:TbM)(i:Nat):Int:=if i=0 then t.fl.length else if i=1 then t.dB.count true else t.gen.length-t.fl.length-t.dB.count true
def Nj(f:Nat->Int)(N:Nat):Int->List Nat->Prop
 |h,[]=>h=N
 |h,a::r=>h=a/\Nj f N (f (a*3+2)) r
theorem U7{g:Nat->Int}:∀{l:List Nat} {h:Int},(∀a∈l,f (a*3+2)=g (a*3+2))->Nj f N h l->Nj g N h l
 |[],_,_,hl=>hl
 |a::r,_,hfg,hl=>⟨hl.1,by rw[<-hfg a xS];exact U7 (λb hb=>hfg b (by simp[hb])) hl.2⟩
structure Cf(w:dD)(P:A7)(t:TbM)(cN cS:Int):Prop where
 ok:t.Ok cN cS
 at':∃head f,w.heap[P.tb]?=some (.cells (Gw P t.gen.length t.cH head (Xab t)).toArray 150 (0,0))/\Zq w P.sb 168 (t.gen.length*3) f/\Nj f t.gen.length head t.fl/\
  ∀i,i<t.gen.length->f (i*3)=Jp t i/\f (i*3+1)=t.gen.getD i 0
def Ah(P:A7):Nat->Prop:=λz=>z=P.tb\/z=P.sb
section
variable {w w':dD}{P:A7}{t:TbM}{cN cS:Int}{S:Nat->Prop}
theorem Cf.bR(h:Cf w P t cN cS)(hc:Xc S w w')(h1:¬S P.tb)(h2:¬S P.sb):Cf w' P t cN cS:=by
 obtain⟨head,f,a,b,c⟩:=h.at';exact⟨h.ok,head,f,hc.heap a h1,hc.heap b h2,c⟩
theorem Cf.bQ(h:Cf w P t cN cS)(hc:Xc Xf w w'):Cf w' P t cN cS:=h.bR hc id id
theorem Cf.kd(h:Cf w P t cN cS):kd w P.tb=some (some 150)/\kd w P.sb=some (some 168):=by
 obtain⟨head,f,a,b,c⟩:=h.at';exact⟨X2 a,X2 b⟩
theorem Cf.lt(h:Cf w P t cN cS):P.tb<w.heap.size/\P.sb<w.heap.size:=by
 obtain⟨head,f,a,b,c⟩:=h.at';exact⟨Xg a,Xg b⟩
end
theorem Xe8(slot gen:Int)(w:dD):Xe prog 166 #[W slot,W gen] w (Grow (.bool (Ec slot gen)) w):=by
 refine aR func166 ntmps166 Y (aO Y (aO Y (aO Y (bC Y λb H e1 A r B=>bF A Y λI n s C=>?_))));have i:=r.sn s;refine Xa.unroll Xb rfl (bI Y (aU 0 Y (bB n Y (bC Y λc J e3 u o D=>bF u Y λK g q E=>?_))));have a:=(i.trans o).bU q (λz t e=>xH i.size);refine aU 0 Y (bB g Y (aU 1 Y (bB g Y (aT Y (λj=>?_) λj=>?_))))
 .exact bE func166 Y ⟨Q5 (by unfold Ec;rw[bO (xH (bL j))];rfl),a⟩
 have j:=bM j;refine aU 0 Y (bB g Y (aU 2 Y (bB g Y (aT Y (λk=>?_) λk=>?_))))
 .exact bE func166 Y ⟨Q5 (by unfold Ec;rw[bO (p:=slot<=4095) (xH (bL k)),YD];rfl),a⟩
 have k:=bM k;refine aV Y (Xa.again Xb rfl (bI Y (aU 3 Y (bB (q.heap (o.bP n) (show ¬b=c by have:=i.size;omega)) Y (bC Y λd L e5 v x F=>bF v Y λM h y G=>?_)))));have f:=(a.trans x).bU y (λz t e=>xH a.size);refine aU 0 Y (bB h Y (aU 1 Y (bB h Y (aT Y (λl=>?_) λl=>?_))))
 .exact bE func166 Y ⟨Q5 (by unfold Ec;rw[bO (p:=1<=gen) (xH (bL l)),YD];rfl),f⟩
 have l:=bM l;refine aU 0 Y (bB h Y (aU 2 Y (bB h Y (aT Y (λm=>?_) λm=>?_))))
 .exact bE func166 Y ⟨Q5 (by unfold Ec;rw[bO (p:=gen<=1023) (xH (bL m)),YD]),f⟩
 have m:=bM m;exact aV Y (Xa.again Xb rfl (aS Y (bE func166 Y ⟨Q5 (by unfold Ec;rw[bN (p:=0<=slot) X,bN (p:=slot<=4095) X,bN (p:=1<=gen) X,bN (p:=gen<=1023) X];rfl),f⟩)))
theorem Xks(h:Int)(w:dD)(hh : -9223372036854775808<=h/\h<=9223372036854775807):Xe prog 108 #[W h] w (Grow (if Ec (Z5 h) (Yl h)=true then .tuple #[W (Z5 h),W (Yl h),W 0] else .tuple #[W 0,W 0,W 7]) w):=by
 have b:If true .i64 h 4096=Yl h:=by
  unfold If;rw[bK rfl];apply w64
  have d:=Int.mul_tdiv_add_tmod h 4096;by_cases c:0<=h
  .rw[YY c];omega
  .obtain⟨x,rfl⟩:∃x,h=-x:=⟨-h,X⟩;rw[Int.neg_tdiv,YY X];omega
 have hr:If false .i64 h 4096=Z5 h:=by unfold If;rw[bJ xS];rfl
 refine aR func108 ntmps108 Y (Xa.div Xb rfl X hr rfl (Xa.div Xb rfl X b rfl (bG (Xe8 (Z5 h) (Yl h) w) Y λf a=>?_)));cases hm:Ec (Z5 h) (Yl h) with
 |false=>
  exact bI Y (bD rfl func108 (.tmp rfl (.tmp rfl (.tmp rfl .nil))) ⟨rfl,a⟩)
 |true=>
  exact aS Y (bD rfl func108 (.tmp rfl (.tmp rfl (.tmp rfl .nil))) ⟨rfl,a⟩)
theorem Xkr(slot gen:Int)(w:dD)(hs:0<=slot/\slot<=4095)(hg:1<=gen/\gen<=1023):Xe prog 123 #[W slot,W gen] w (Grow (.tuple #[W (gen*4096+slot),W 0]) w):=by
 have hm:Ec slot gen=true:=by unfold Ec;rw[bN (p:=0<=slot) X,bN (p:=slot<=4095) X,bN (p:=1<=gen) X,bN (p:=gen<=1023) X];rfl
 refine aR func123 ntmps123 Y (bG (Xe8 slot gen w) Y λb a=>?_);rw[hm];exact aS Y (aV Y (aV Y (bE func123 Y ⟨rfl,a⟩)))
theorem Xb8{P:A7}{head:Int}{g:Nat->Int}{w:dD}{a:Nat}(h1:w.heap[P.tb]?=some (.cells (Gw P n cH head g).toArray 150 (0,0)))(h2:Zq w P.sb 168 (n*3) f)(hk:k<n)(hn:n<=4096)(hf:f (k*3)=a)(hg:∀i,-4096<=g i/\g i<=4096)(hab:a=0/\b=1\/a=1/\b=2\/a=1/\b=0):Xe prog 105 #[La P,W k,W b] w
 (λ_ w'=>w'.heap[P.tb]?=some (.cells (Gw P n cH head (X4 (X4 g a (g a-1)) b (g b+1))).toArray 150 (0,0))/\Zq w' P.sb 168 (n*3) (X4 f (k*3) b)/\Xc (Ah P) w w'):=by
 have l:P.sb≠P.tb:=λe=>by
  have:=Fp h1 h2 xD;exact this e.symm
 refine aR func105 ntmps105 Y (bB h1 Y (aU (k*3) Y ?_));have r:w.cell? ⟨P.sb,0+k*3+0,none⟩=some (W (a:Nat)):=by rw[B9 h2 (k:=k*3) X X,hf]
 obtain⟨rfl,rfl⟩|⟨rfl,rfl⟩|⟨rfl,rfl⟩:=hab
 .refine aN Y (aQ 12 Xf xK Y λc=>aD c r Y (aB 0 c Y (aE c h1 Y (Xd.arith Xb c rfl (w64 (xH (hg 0))) rfl (aF c Y λA d=>aU 0 Y ?_)))));refine bF (d.bP h1) Y λB m o x=>aQ 9 Xf xK Y λc=>aB 1 c Y (aE c m Y (Xd.arith Xb c rfl (w64 (xH (hg 1))) rfl (aF c Y λC j=>aU 1 Y ?_)));refine bF (j.bP m) Y λv s p y=>?_;have t:Xc (Ah P) w v:=((d.gr.trans (o.mono λ_ _ h=>.inl h)).trans j.gr).trans (p.mono λ_ _ h=>.inl h);exact Xa.store Xb rfl (p.heap (j.bP (o.heap (d.bP h2) l)) l) (Ga (i:=k*3) (by show 0+k*3+0=_;omega) X) rfl λD u q z=>aN Y (bE func105 Y ⟨q.heap s (λe=>l e.symm),u,t.trans (q.mono λ_ _ h=>.inr h)⟩)
 .refine aN Y (aQ 12 Xf xK Y λc=>aD c r Y (aB 1 c Y (aE c h1 Y (Xd.arith Xb c rfl (w64 (xH (hg 1))) rfl (aF c Y λA d=>aU 1 Y ?_)))));refine bF (d.bP h1) Y λB m o x=>aQ 9 Xf xK Y λc=>aB 2 c Y (aE c m Y (Xd.arith Xb c rfl (w64 (xH (hg 2))) rfl (aF c Y λC j=>aU 2 Y ?_)));refine bF (j.bP m) Y λv s p y=>?_;have t:Xc (Ah P) w v:=((d.gr.trans (o.mono λ_ _ h=>.inl h)).trans j.gr).trans (p.mono λ_ _ h=>.inl h);exact Xa.store Xb rfl (p.heap (j.bP (o.heap (d.bP h2) l)) l) (Ga (i:=k*3) (by show 0+k*3+0=_;omega) X) rfl λD u q z=>aN Y (bE func105 Y ⟨q.heap s (λe=>l e.symm),u,t.trans (q.mono λ_ _ h=>.inr h)⟩)
 .refine aN Y (aQ 12 Xf xK Y λc=>aD c r Y (aB 1 c Y (aE c h1 Y (Xd.arith Xb c rfl (w64 (xH (hg 1))) rfl (aF c Y λA d=>aU 1 Y ?_)))));refine bF (d.bP h1) Y λB m o x=>aQ 9 Xf xK Y λc=>aB 0 c Y (aE c m Y (Xd.arith Xb c rfl (w64 (xH (hg 0))) rfl (aF c Y λC j=>aU 0 Y ?_)));refine bF (j.bP m) Y λv s p y=>?_;have t:Xc (Ah P) w v:=((d.gr.trans (o.mono λ_ _ h=>.inl h)).trans j.gr).trans (p.mono λ_ _ h=>.inl h);exact Xa.store Xb rfl (p.heap (j.bP (o.heap (d.bP h2) l)) l) (Ga (i:=k*3) (by show 0+k*3+0=_;omega) X) rfl λD u q z=>aN Y (bE func105 Y ⟨q.heap s (λe=>l e.symm),u,t.trans (q.mono λ_ _ h=>.inr h)⟩)
variable {P:A7}
theorem XoF(h2:Zq w b ty N f)(hk:k*3+2<N):∀j v,[W (f (k*3)),W (f (k*3+1)),W (f (k*3+2))][j]?=some v->w.cell? ⟨b,0+k*3+j,none⟩=some v
 |0,v,e=>by cases e;exact B9 h2 X X
 |1,v,e=>by cases e;exact B9 h2 X X
 |2,v,e=>by cases e;exact B9 h2 X X
 |j+3,v,e=>by cases e
theorem Xc1{t:TbM}:Jp t i=1↔t.dB.getD i false=true:=by
 unfold Jp;split
 .simp_all
 .split <;> simp_all
theorem Xgd{t:TbM}(h:Cf w P t cN cS)(k:Int)(hk : -9223372036854775808<=k/\k<=9223372036854775807):Xe prog 57 #[La P,W k] w (Grow (.tuple #[W (Zh t k),W (X1 t k)]) w):=by
 obtain⟨head,f,u,v,E,x⟩:=h.at';have F:=h.ok.n;refine aR func57 ntmps57 Y (bG (Xks k w hk) Y λG a=>?_);have n:=a.bP u;cases hm:Ec (Z5 k) (Yl k) with
 |false=>
  have e:X1 t k=7:=by unfold X1;rw[bK hm]
  have en:Zh t k=0:=by unfold Zh;rw[e];rfl
  exact bI Y (bE func57 Y ⟨by rw[e,en];rfl,a⟩)
 |true=>
  have o:=hm;simp only[Ec,XI,decide_eq_true_eq] at o;refine aS Y (bB n Y ?_);by_cases c:(t.gen.length:Int)<=Z5 k
  .have e:X1 t k=7:=by unfold X1;rw[bJ (by rw[hm];decide),bK c]
   have en:Zh t k=0:=by unfold Zh;rw[e];rfl
   exact bI Y (bE func57 Y ⟨by rw[e,en],a⟩)
  .refine aS Y (bB n Y ?_);obtain⟨j,g⟩:=XE o.1.1.1;have q:j<t.gen.length:=X
   obtain⟨y,A⟩:=x j q;have eg:Co t (Z5 k)=f (j*3+1):=by
    rw[A,g];unfold Co;rw[XA,XB]
   have el:N0 t (Z5 k)=decide (f (j*3)=1):=by
    rw[y,g,show decide (Jp t j=1)=decide (t.dB.getD j false=true) from decide_eq_decide.2 Xc1];unfold N0;rw[XA,<-XB,Bool.decide_eq_true]
   rw[g];refine aU (j*3) Y (Xa.loadC Xb ([W (f (j*3)),W (f (j*3+1)),W (f (j*3+2))]) rfl xT (XoF (a.bP v) X) rfl (bC Y λb H e2 B r C=>bF B Y λI d s D=>?_));have i:=(a.trans r).bU s (λz J e=>xH a.size);refine bB d Y ?_;by_cases l:Yl k<f (j*3+1)
   .have e:X1 t k=6:=by unfold X1;rw[bJ (by rw[hm];decide),bJ c,eg,bK l]
    have en:Zh t k=0:=by unfold Zh;rw[e];rfl
    exact bI Y (bE func57 Y ⟨by rw[e,en],i⟩)
   refine aS Y (bB d Y ?_);by_cases p:f (j*3+1)<Yl k
   .have e:X1 t k=7:=by unfold X1;rw[bJ (by rw[hm];decide),bJ c,eg,bJ l,bK p]
    have en:Zh t k=0:=by unfold Zh;rw[e];rfl
    exact bI Y (bE func57 Y ⟨by rw[e,en],i⟩)
   refine aS Y (bB d Y ?_);by_cases m:f (j*3)=1
   .have e:X1 t k=0:=by unfold X1;rw[bJ (by rw[hm];decide),bJ c,eg,bJ l,bJ p,el,bN m];rfl
    have en:Zh t k=j:=by unfold Zh;rw[bK e,g]
    rw[m];exact aS Y (bE func57 Y ⟨by rw[e,en];rfl,i⟩)
   .have e:X1 t k=7:=by unfold X1;rw[bJ (by rw[hm];decide),bJ c,eg,bJ l,bJ p,el,bO m];rfl
    have en:Zh t k=0:=by unfold Zh;rw[e];rfl
    exact aM Y (bne_iff_ne.2 (λe=>m e)) (bE func57 Y ⟨by rw[e,en],i⟩)
theorem XlZ{t:TbM}(h:Cf w P t cN cS):Xe prog 49 #[La P] w (X9 (W (Xc0 t:Nat)) w):=by
 obtain⟨head,f,a,b,c,d⟩:=h.at';exact aR func49 ntmps49 Y (aU 1 Y (bB a Y (bE func49 Y ⟨rfl,rfl⟩)))
theorem XlY{t:TbM}(h:Cf w P t cN cS):Xe prog 68 #[La P] w (X9 (W (t.fl.length:Nat)) w):=by
 obtain⟨head,f,a,b,c,d⟩:=h.at';exact aR func68 ntmps68 Y (aU 0 Y (bB a Y (bE func68 Y ⟨rfl,rfl⟩)))
theorem XhY{t:TbM}(h:t.Ok cN cS)(i:Nat):-4096<=Xab t i/\Xab t i<=4096:=by
 have:=h.many;have:=h.n;have:=h.sl;unfold Xab;split
 .omega
 .split <;> omega
theorem Xac{head:Int}{g g':Nat->Int}(h0:g 0=g' 0)(h1:g 1=g' 1)(h2:g 2=g' 2):Gw P n cH head g=Gw P n cH head g':=by unfold Gw;rw[h0,h1,h2]
theorem El{l:List α}{x d:α}(h:l[i]?=some x):l.getD i d=x:=by rw[XB,h];rfl
theorem Xl1{t:TbM}(h:Cf w P t cN cS)(hne:t.fl≠[]):Xe prog 69 #[La P] w
 (λv w'=>v=.tuple #[W (Ma t),W (C7 t),W 0]/\Cf w' P (Ez t) cN cS/\Xc (Ah P) w w'):=by
 obtain⟨head,f,m,C,D,E⟩:=h.at';have hn:=h.ok.n;have a3:=h.ok.sl;have a4:=h.ok.gs;obtain⟨n,r,e⟩:∃n r,t.fl=n::r:=by
  cases hf:t.fl with
  |nil=>exact absurd hf hne
  |cons n r=>exact⟨n,r,rfl⟩
 rw[e] at D;obtain⟨rfl,N⟩:=D;obtain⟨A,c,O,F⟩:=h.ok.fr n (by rw[e];exact ZO);have d:=(XC.1 c).1;have G:n<t.dB.length:=by rw[h.ok.nl];exact d
 obtain⟨Q,H⟩:=E n d;have a5:=(h.ok.gen n A c).1;have I:f (n*3)=(0:Nat):=by
  rw[Q];unfold Jp;rw[El F,bJ xD,El c,h.ok.mg,bK O];rfl
 rw[El c] at H;have eT:Ez t={t with dB:=t.dB.set n true,fl:=r}:=by unfold Ez;rw[e]
 have J:P.sb≠P.tb:=λe=>by
  have:=Fp m C xD;exact this e.symm
 have R:=(XV.1 (e▸h.ok.nd)).1;refine aR func69 ntmps69 Y (aQ 9 Xf xK Y λB=>aE B m Y (aE B m Y (aF B Y λS g=>?_)));have o:=g.bP m;refine aS Y (bB o Y (aP Y (Xb8 (a:=0) (b:=1) o (show Zq S _ _ _ _ from g.bP C) d X I (XhY h.ok) (.inl ⟨rfl,rfl⟩)) ?_));rintro _ w2 ⟨p,q,K⟩;refine aN Y (bB p Y (aU (n*3) Y (aW Y (B9 q (k:=n*3+2) (by show 0+n*3+2=_;omega) X) Y ?_)));rw[X6 _ _ (show n*3+2≠n*3 by omega)];refine bF p Y λT s u a6=>?_;have x:=u.heap q J;refine bB s Y (aU (n*3) Y (aW Y (B9 x (k:=n*3+1) (by show 0+n*3+1=_;omega) X) Y ?_));rw[X6 _ _ (show n*3+1≠n*3 by omega),H];refine bG (Xkr n A T X X) Y λU j=>?_;have y:=h.ok.take;have L:=U0 (b:=true) F;simp only[ZP,if_false,if_true] at L;have V:Cf U P (Ez t) cN cS:=by
  rw[eT] at y⊢;refine⟨y,f (n*3+2),X4 f (n*3) (1:Nat),?_,j.bP x,?_,λi hi=>?_⟩
  .rw[j.bP s];refine congrArg (λl:List dE=>some (Obj.cells l.toArray 150 (0,0))) ?_;show Gw P t.gen.length t.cH _ _=Gw P t.gen.length t.cH _ _
   refine Xac ?_ ?_ ?_
   .show t.fl.length-(1:Int)=r.length
    rw[e,XN];omega
   .show t.dB.count true+(1:Int)=((t.dB.set n true).count true:Nat)
    omega
   .show(t.gen.length:Int)-t.fl.length-t.dB.count true=t.gen.length-r.length-((t.dB.set n true).count true:Nat)
    rw[e,XN];omega
  .refine U7 (λa ha=>?_) N;rw[X6 _ _ X]
  .obtain⟨b1,M⟩:=E i hi;by_cases z:i=n
   .subst z;refine⟨?_,by rw[X6 _ _ X];exact M⟩;rw[A4];exact(Xc1.2 (El (XH G))).symm
   .refine⟨?_,by rw[X6 _ _ X];exact M⟩;rw[X6 _ _ X,b1];unfold Jp;show _=if (t.dB.set n true).getD i false=true then (1:Int) else _
    simp only[XB];rw[XK (Ne.symm z)]
 have eg:Co t (n:Nat)=A:=by unfold Co;rw[XA,c];rfl
 exact bD rfl func69 (.tmp rfl (.tmp rfl (.tmp rfl .nil))) ⟨by unfold Ma C7;rw[e];simp only[eg];rfl,V,(((g.gr.trans K).trans (u.mono λ_ _ h=>.inl h)).trans j.gr)⟩
theorem XlX{t:TbM}(h:Cf w P t cN cS)(k:Int)(hk : -9223372036854775808<=k/\k<=9223372036854775807):Xe prog 54 #[La P,W k] w
 (λv w'=>v=W (X1 t k)/\Cf w' P (Dj t k) cN cS/\Xc (Ah P) w w'):=by
 have am:=h.ok.sl;have an:=h.ok.n;have ao:=h.ok.gs;have r:P.sb≠P.tb:=λe=>by
  obtain⟨head,f,A,B,Q,C⟩:=h.at';have:=Fp A B xD;exact this e.symm
 refine aR func54 ntmps54 Y (bG (Xgd h k hk) Y λw1 E=>?_);have hg:=h.bQ E;have F:Xc (Ah P) w w1:=E.gr;by_cases q:X1 t k=0
 .obtain⟨b1,b2,d,b4,b5,R,D⟩:=h.ok.tbE_ok q;obtain⟨head,f,A,B,Q,C⟩:=hg.at';obtain⟨n,s⟩:=XE b1;have en:Zh t k=n:=by unfold Zh;rw[bK q,s]
  rw[s,XA] at d R D;have eG:Co t (Z5 k)=Yl k:=by rw[s];unfold Co;rw[XA,R];rfl
  have G:n<t.dB.length:=by rw[h.ok.nl];exact d
  obtain⟨a1,a2⟩:=C n d;rw[El R] at a2;have H:f (n*3)=(1:Nat):=by rw[a1,Xc1.2 (El D)];rfl
  have j:=h.ok.give k;have m:=XhY h.ok;have a7:=U0 (b:=false) D;simp only[ZP,if_false,if_true] at a7;have a8:n∉t.fl:=λhm=>by
   obtain⟨g,_,_,a3⟩:=h.ok.fr _ hm;rw[D] at a3;cases a3
  rw[q,en];refine aS Y (bB A Y (aU (n*3) Y (aW Y (B9 B (k:=n*3+1) (by show 0+n*3+1=_;omega) X) Y ?_)));rw[a2];refine aV Y (aL Y B (Ga (i:=n*3+1) (by show 0+n*3+1=_;omega) X) Y λw2 o I ap=>?_);have J:=I.heap A (λe=>r e.symm);replace o:Zq w2 P.sb 168 (t.gen.length*3) (X4 f (n*3+1) (Yl k+1)):=o;have ab:w2.cell? ⟨P.sb,0+n*3+1,none⟩=some (W (Yl k+1)):=by rw[B9 o (k:=n*3+1) X X,A4]
  refine aQ 8 Xf xK Y λS=>aD S ab Y (aE S J Y (aF S Y λw3 u=>?_));have K:=u.bP J;have L:Zq w3 P.sb 168 (t.gen.length*3) (X4 f (n*3+1) (Yl k+1)):=u.bP o;have M:Xc (Ah P) w w3:=(F.trans (I.mono λ_ _ h=>.inr h)).trans u.gr;by_cases ah:t.cH<Yl k+1
  .have eT:Dj t k={t with gen:=t.gen.set n (Yl k+1),dB:=t.dB.set n false}:=by
    unfold Dj;rw[bK q,eG,bJ X,s,XA]
   refine bI Y (aP Y (Xb8 (a:=1) (b:=2) K L d X (by rw[X6 _ _ X];exact H) m (.inr (.inl ⟨rfl,rfl⟩))) ?_);rintro _ T ⟨p,x,y⟩;refine aN Y ?_;have U:Cf T P (Dj t k) cN cS:=by
    rw[eT] at j⊢;refine⟨j,head,X4 (X4 f (n*3+1) (Yl k+1)) (n*3) (2:Nat),?_,?_,?_,λi hi=>?_⟩
    .rw[p];refine congrArg (λl:List dE=>some (Obj.cells l.toArray 150 (0,0))) ?_;show Gw P t.gen.length t.cH _ _=Gw P (t.gen.set n (Yl k+1)).length t.cH _ _
     rw[XG];refine Xac rfl ?_ ?_
     .show t.dB.count true-(1:Int)=((t.dB.set n false).count true:Nat)
      omega
     .show(t.gen.length:Int)-t.fl.length-t.dB.count true+1=(t.gen.set n (Yl k+1)).length-t.fl.length-((t.dB.set n false).count true:Nat)
      rw[XG];omega
    .show Zq T P.sb _ ((t.gen.set n (Yl k+1)).length*3) _
     rw[XG];exact x
    .show Nj _ (t.gen.set n (Yl k+1)).length _ t.fl
     rw[XG];refine U7 (λa ha=>?_) Q;rw[X6 _ _ X,X6 _ _ X]
    .replace hi:i<t.gen.length:=xU hi
     obtain⟨V,c2⟩:=C i hi;by_cases c:i=n
     .subst c;refine⟨?_,?_⟩
      .rw[A4];unfold Jp;show _=if (t.dB.set i false).getD i false=true then (1:Int) else if (t.gen.set i (Yl k+1)).getD i 0<=t.cH then 0 else 2
       rw[El (XH G),El (XH d),bJ xD,bJ X];rfl
      .rw[X6 _ _ X,A4];exact(El (XH d)).symm
     .refine⟨?_,?_⟩
      .rw[X6 _ _ X,X6 _ _ X,V];unfold Jp;show _=if (t.dB.set n false).getD i false=true then (1:Int) else if (t.gen.set n (Yl k+1)).getD i 0<=t.cH then 0 else 2
       simp only[XB];rw[XK (Ne.symm c),XK (Ne.symm c)]
      .rw[X6 _ _ X,X6 _ _ X,c2];show _=(t.gen.set n (Yl k+1)).getD i 0
       simp only[XB];rw[XK (Ne.symm c)]
   exact bE func54 Y ⟨rfl,U,M.trans y⟩
  .have eT:Dj t k={t with gen:=t.gen.set n (Yl k+1),dB:=t.dB.set n false,fl:=n::t.fl}:=by
    unfold Dj;rw[bK q,eG,bK X,s,XA]
   refine aS Y (aP Y (Xb8 (a:=1) (b:=0) K L d X (by rw[X6 _ _ X];exact H) m (.inr (.inr ⟨rfl,rfl⟩))) ?_);rintro _ T ⟨p,x,y⟩;refine aN Y (bB p Y (aL Y x (Ga (i:=n*3+2) (by show 0+n*3+2=_;omega) X) Y λw5 z N aq=>?_));have ae:=N.heap p (λe=>r e.symm);refine bF ae Y λw6 af O ar=>?_;replace z:Zq w5 P.sb 168 (t.gen.length*3) (X4 (X4 (X4 f (n*3+1) (Yl k+1)) (n*3) (0:Nat)) (n*3+2) head):=z;have ag:Xc (Ah P) w w6:=((M.trans y).trans (N.mono λ_ _ h=>.inr h)).trans (O.mono λ_ _ h=>.inl h);have U:Cf w6 P (Dj t k) cN cS:=by
    rw[eT] at j⊢;refine⟨j,n,X4 (X4 (X4 f (n*3+1) (Yl k+1)) (n*3) (0:Nat)) (n*3+2) head,?_,?_,?_,λi hi=>?_⟩
    .rw[af];refine congrArg (λl:List dE=>some (Obj.cells l.toArray 150 (0,0))) ?_;show Gw P t.gen.length t.cH _ _=Gw P (t.gen.set n (Yl k+1)).length t.cH _ _
     rw[XG];refine Xac ?_ ?_ ?_
     .show(t.fl.length:Int)+1=((n::t.fl).length:Nat)
      rw[XN];omega
     .show t.dB.count true-(1:Int)=((t.dB.set n false).count true:Nat)
      omega
     .show(t.gen.length:Int)-t.fl.length-t.dB.count true=(t.gen.set n (Yl k+1)).length-(n::t.fl).length-((t.dB.set n false).count true:Nat)
      rw[XG,XN];omega
    .show Zq w6 P.sb _ ((t.gen.set n (Yl k+1)).length*3) _
     rw[XG];exact O.heap z r
    .show Nj _ (t.gen.set n (Yl k+1)).length _ (n::t.fl)
     rw[XG];refine⟨rfl,?_⟩;rw[A4];refine U7 (λa ha=>?_) Q;have:a≠n:=λe=>a8 (e▸ha);rw[X6 _ _ X,X6 _ _ X,X6 _ _ X]
    .replace hi:i<t.gen.length:=xU hi
     obtain⟨V,c2⟩:=C i hi;by_cases c:i=n
     .subst c;refine⟨?_,?_⟩
      .rw[X6 _ _ X,A4];unfold Jp;show _=if (t.dB.set i false).getD i false=true then (1:Int) else if (t.gen.set i (Yl k+1)).getD i 0<=t.cH then 0 else 2
       rw[El (XH G),El (XH d),bJ xD,bK X];rfl
      .rw[X6 _ _ X,X6 _ _ X,A4];exact(El (XH d)).symm
     .refine⟨?_,?_⟩
      .rw[X6 _ _ X,X6 _ _ X,X6 _ _ X,V];unfold Jp;show _=if (t.dB.set n false).getD i false=true then (1:Int) else if (t.gen.set n (Yl k+1)).getD i 0<=t.cH then 0 else 2
       simp only[XB];rw[XK (Ne.symm c),XK (Ne.symm c)]
      .rw[X6 _ _ X,X6 _ _ X,X6 _ _ X,c2];show _=(t.gen.set n (Yl k+1)).getD i 0
       simp only[XB];rw[XK (Ne.symm c)]
   exact bE func54 Y ⟨rfl,U,ag⟩
 .exact bI Y (bE func54 Y ⟨rfl,by unfold Dj;rw[bJ q];exact hg,F⟩)
theorem Xit(t:Nat->Int)(ht:∀i,t i=0):∀n,Qa [W 0,W 0,W 0] n=Be (n*3) t
 |0=>rfl
 |n+1=>by
  have e:∀m,Be m t=List.replicate m (W 0):=λm=>by
   unfold Be;rw[ZU (g:=λ_=>W 0) (λi _=>by rw[ht]),List.map_const',ZK]
  rw[Qa,Xit t ht n,e,e];show List.replicate 3 _++_=_
  rw[List.replicate_append_replicate]
  congr 1
  omega
def Je:Nat->Nat->Int
 |0=>λ_=>0
 |k+1=>X4 (X4 (X4 (Je k) (k*3) 0) (k*3+1) 1) (k*3+2) (k+1)
theorem XbK:∀(k n:Nat),n<k->Je k (n*3)=0/\Je k (n*3+1)=1/\Je k (n*3+2)=n+1
 |k+1,n,h=>by
  have e:Je (k+1)=X4 (X4 (X4 (Je k) (k*3) 0) (k*3+1) 1) (k*3+2) (k+1):=rfl;rw[e];by_cases a:n=k
  .subst a;exact⟨by rw[X6 _ _ X,X6 _ _ X,A4],by rw[X6 _ _ X,A4],A4 ..⟩
  .rw[X6 _ _ X,X6 _ _ X,X6 _ _ X,X6 _ _ X,X6 _ _ X,X6 _ _ X,X6 _ _ X,X6 _ _ X,X6 _ _ X];exact XbK k n X
theorem Xfq{f:Nat->Int}{N:Nat}(h:∀n,n<N->f (n*3+2)=n+1):∀(m k:Nat),k+m=N->Nj f N k (List.range' k m)
 |0,k,e=>by show(k:Int)=N;omega
 |m+1,k,e=>by
  rw[List.range'_succ];refine⟨rfl,?_⟩;rw[h k X];exact Xfq h m (k+1) X
theorem Xl0(N:Nat)(cS:Int)(w:dD)(hN:1<=N/\N<=4096)(hg:1<=cS/\cS<=1023):Xe prog 65 #[W N,W cS] w
 (λv w'=>∃P,v=.tuple #[La P,W 0]/\(w.heap.size<=P.tb/\w.heap.size<=P.sb)/\Cf w' P (Cu N cS) N cS/\Xc Xf w w'):=by
 refine aR func65 ntmps65 Y (aS Y (aS Y (aS Y (aS Y (Xa.make Xb (m:=N) (k:=N) rfl rfl rfl (XF _) (by first|omega|(show 24*N<=_;omega)) X λsb D e1 c d M=>aN Y (aO Y (bC Y λtb s e2 a j O=>?_)))))));obtain⟨P,eP⟩:∃P:A7,P=⟨tb,sb⟩:=⟨_,rfl⟩;replace c:Zq D P.sb 168 (N*3) (Je 0):=by
  unfold Zq;rw[eP,c];exact congrArg (λx:List dE=>some (Obj.cells x.toArray 168 (0,0))) (Xit (Je 0) (λ_=>rfl) N)
 replace a:s.heap[P.tb]?=some (.cells (Gw P N cS 0 (λ_=>0)).toArray 150 (0,0)):=by rw[eP];exact a
 have o:¬P.tb=P.sb:=by rw[eP];show ¬tb=sb;omega
 rw[show tb=P.tb by rw[eP]];refine bB a Y ?_;rw[show sb=P.sb by rw[eP]];refine Xa.loop (α:=Nat) (λk=>[(0,false,W N),(6,false,La P),(31,false,W N),(32,false,W k)])
  (λk w'=>k<=N/\Zq w' P.sb 168 (N*3) (Je k)/\Xc (λz=>z=P.sb) s w') (λk=>N-k) 0 ⟨rfl,rfl,rfl,rfl,trivial⟩ ⟨XQ _,j.bP c,Xc.refl _ _⟩ ?_
 rintro k E ⟨Q,t,f⟩ ih;have g:=f.heap a o;refine aN Y (aT Y (λp=>?_) λp=>?_)
 .have u:k<N:=xH (bL p)
  refine bB g Y (aV Y (aO Y (aU (k*3) Y ?_)));refine Xa.store Xb rfl (show E.heap[P.sb]?=some (.cells (Be (N*3) (Je k)).toArray 168 (0,0)) from t) (Xhb (i:=k*3) (by show 0+k*3=_;omega) X) rfl ?_;intro y F b A;exact aN Y (aV Y (ih (k+1) _ _ ⟨u,F,f.trans b⟩ X ⟨rfl,rfl,rfl,rfl,trivial⟩))
 .have B:k=N:=xH (bM p)
  subst B;refine aU 0 Y (bF g Y λy q b A=>?_);have h:(Cu k cS).gen.length=k:=by show(List.replicate ((k:Nat):Int).toNat (1:Int)).length=k;rw[XJ,XA]
  have r:(Cu k cS).fl=List.range k:=by show List.range ((k:Nat):Int).toNat=_;rw[XA]
  have e1:(Cu k cS).dB.count true=0:=by show(List.replicate ((k:Nat):Int).toNat false).count true=0;rw[List.count_replicate];rfl
  have G:Cf y P (Cu k cS) k cS:=by
   refine⟨XfK X hg,0,Je k,?_,?_,?_,λi hi=>?_⟩
   .rw[q,h];refine congrArg (λl:List dE=>some (Obj.cells l.toArray 150 (0,0))) ?_;show Gw P k cS 0 (λi=>if i=0 then (k:Int) else 0)=Gw P k cS 0 _
    refine Xac ?_ ?_ ?_
    .show(k:Int)=((Cu k cS).fl.length:Nat)
     rw[r,ZK]
    .show(0:Int)=((Cu k cS).dB.count true:Nat)
     rw[e1];rfl
    .show(0:Int)=((Cu k cS).gen.length:Nat)-(Cu k cS).fl.length-((Cu k cS).dB.count true:Nat)
     rw[h,r,e1,ZK];omega
   .rw[h];exact b.heap t (λe=>o e.symm)
   .rw[h,r,List.range_eq_range'];exact Xfq (λn H=>(XbK k n H).2.2) k 0 X
   .rw[h] at hi;obtain⟨I,J,_⟩:=XbK k i hi;have K:(Cu k cS).dB[i]?=some false:=by show(List.replicate ((k:Nat):Int).toNat false)[i]?=_;rw[ZD,bK X]
    have C:(Cu k cS).gen[i]?=some 1:=by show(List.replicate ((k:Nat):Int).toNat (1:Int))[i]?=_;rw[ZD,bK X]
    rw[I,J,El C];refine⟨?_,rfl⟩;unfold Jp;rw[El K,El C,bJ xD,bK (show(1:Int)<=(Cu (k:Nat) cS).cH from hg.1)]
  exact bE func65 Y ⟨P,rfl,⟨by rw[eP];show _<=tb;have:=d.size;omega,by rw[eP];show _<=sb;omega⟩,G,(((d.trans j).bU f (λz L e=>by rw[eP] at e;have:z=sb:=e;omega)).bU b (λz L e=>by rw[eP] at e;have:z=tb:=e;have:=d.size;omega))⟩
def Z3(s:StM):List Int:=s.th.map Bd
section
variable {c:Conf}{s:StM}{pd:Option (Nat×PlcM)}
theorem Xap{l:List (Option ThM)}{y:Option ThM}:(l.set o y).map Bd=(l.map Bd).set o (Bd y):=ZW
theorem XnB{l:List α}{x:α}(h:l[o]?=some x):l.set o x=l:=by
 obtain⟨a,e⟩:=XC.1 h;rw[<-e,List.set_getElem_self]
theorem Xdx{x:Option ThM}(h:s.th[o]?=some x):(Z3 s)[o]?=some (Bd x):=by unfold Z3;rw[XO,h];rfl
theorem Xdz(h:s.Ok c)(k:Nat)(n:Int):Z3 (Yg s k n)=Z3 s:=by
 unfold Yg;cases hm:Xx s (k:Nat) with
 |none=>rfl
 |some m=>
  obtain⟨j,ej,d,a⟩:=Ao hm;obtain⟨⟨o,t,e1,e2,e3⟩,_⟩:=h.mv j m a;simp only
  split
  .rfl
  .have b:Q2 s m.who=t.size:=by rw[e1];exact C6 e2
   show(s.th.set m.who.toNat _).map Bd=_
   rw[show m.who.toNat=o by omega,Xap,b];show(Z3 s).set o t.size=Z3 s
   exact XnB (Xdx e2)
theorem Xdy(c:Conf)(s:StM)(k:Nat):Z3 (Yj c s k)=Z3 s:=by unfold Z3;rw[(Ol c s k).1]
theorem Xiw(h:s.Ok c)(κ:Int):Z3 (X8 s κ)=Z3 s:=by
 unfold X8;split
 .rfl
 .exact Xdz h _ _
theorem Xiv{q:PlcM}(h:s.OkP c (some (o,q))):Z3 (Ax c s q)=Z3 s:=by
 unfold Ax;split
 .rfl
 .rw[Xdz (StM.OkP.begin h.dropped _),Xdy];rfl
theorem Xix(c:Conf)(s:StM)(o:Nat)(size:Int):Z3 (Qs c s (o:Nat) size)=(Z3 s).set o size:=by
 show(s.th.set (o:Int).toNat _).map Bd=_
 rw[XA,Xap];rfl
theorem XiA(s:StM)(o:Int)(i n:Nat):Z3 (Af s o i n)=Z3 s:=by unfold Z3;rw[Xim]
theorem Xpa(h:s.Ok c)(o size:Int):Z3 (Q1 c s o size)=if Cm c s o size=0 then (Z3 s).set o.toNat size else Z3 s:=by
 unfold Q1;split
 .rename_i a
  obtain⟨j,rfl,_⟩:=XaA a;rw[Xix,XA]
 .rfl
theorem Xpb(h:s.Ok c)(o:Int):Z3 (Aq c s o)=if Z9 s o=0 then (Z3 s).set o.toNat 0 else Z3 s:=by
 unfold Aq;by_cases a:Z9 s o=0
 .rw[bJ (λh=>h a),bK a];obtain⟨j,t,rfl,ht⟩:=J4 a;rw[Y5 ht,XA];obtain⟨t',b,_,_,_,d⟩:=My h ht;rw[Y5 b,Xiv ((h.finish t.q.cL).away b d)];show((X8 s t.q.cL).th.set j none).map Bd=_
  rw[Xap];show(Z3 (X8 s t.q.cL)).set j 0=_
  rw[Xiw h]
 .rw[bK a,bJ a]
theorem Xpc(h:s.Ok c){t:ThM}(ht:s.th[o]?=some (some t))(hs:Ay c t.size size=false)(hf:Ys c s size=0):Z3 (Jn c s o size)=(Z3 s).set o size:=by
 obtain⟨t',M⟩:=Pf h ht hs hf;unfold Jn;simp only
 rw[Y5 ht,Y5 M.th1,C6 ht,Xiv (M.ok2.put _ _ (N4 M.ok1.bi _ _))];show Z3 (Qs c (Y3 (X8 s t.q.cL) _) (o:Nat) size)=_
 rw[Xix];show(Z3 (X8 s t.q.cL)).set o size=_
 rw[Xiw h]
theorem Xpe(h:s.Ok c)(o size:Int):Z3 (Q7 c s o size)=if A2 c s o size=0 then (Z3 s).set o.toNat size else Z3 s:=by
 unfold Q7;by_cases b:A2 c s o size=0
 .rw[bJ (λh=>h b),bK b];obtain⟨j,t,rfl,ht,hr,d⟩:=Px b;rw[C6 ht,XA];have e1:∀(s':StM) q,Z3 (D3 s' (j:Nat) ⟨size,q⟩)=(Z3 s').set j size:=λs' q=>by
   show(s'.th.set (j:Int).toNat _).map Bd=_
   rw[XA,Xap];rfl
  split
  .split
   .rw[XiA,e1];rfl
   .rw[e1]
  .rename_i a
   have a:Ay c t.size size=false:=xU a
   exact Xpc h ht a (d.resolve_left (by rw[a];decide)).2
 .rw[bK b,bJ b]
theorem Xpd(c:Conf)(s:StM)(o i n:Int):Z3 (Cc c s o i n)=Z3 s:=by unfold Cc;split <;> rfl
theorem Xpi(c:Conf)(s:StM)(o i:Int)(l:List Int):Z3 (Cx c s o i l)=Z3 s:=by
 unfold Cx;split
 .rw[XiA];rfl
 .rfl
theorem Xph(h:s.Ok c)(n:Int)(k:Nat):Z3 (tickK c (s,n) k).1=Z3 s:=by
 unfold tickK;split
 .rfl
 .split
  .exact Xdy ..
  .rw[Xdz (StM.OkP.begin h k),Xdy]
theorem Xiz(h:s.Ok c):∀n,Z3 (tickTo c s n).1=Z3 s
 |0=>rfl
 |n+1=>by rw[N2];exact(Xph (h.tickTo n) _ _).trans (Xiz h n)
theorem Xpg(h:s.Ok c):Z3 (D4 c s)=Z3 s:=Xiz h _
theorem Xpf(s:StM)(k bV:Int):Z3 (Cw s k bV)=Z3 s:=by unfold Cw;split <;> rfl
theorem XdA(h:s.OkP c pd)(o:Nat):(∃t,s.th[o]?=some (some t))↔1<=(Z3 s).getD o 0:=by
 constructor
 .rintro⟨t,ht⟩;rw[XB,Xdx ht];exact(h.size o t ht).1
 .intro a;cases ht:s.th[o]? with
  |none=>
   rw[XB,show(Z3 s)[o]?=none by unfold Z3;rw[XO,ht];rfl] at a;exact absurd a xD
  |some x=>
   cases x with
   |none=>
    rw[XB,Xdx ht] at a;exact absurd a xD
   |some t=>exact⟨t,rfl⟩
theorem Xiy:(Z3 s).length=s.th.length:=XU _
end
theorem Xs.ones{F:Nat->Prop}{w w':dD}{S:Sto}{s:StM}(h:Xs F Fr w S s by' mo)(he:∀b,xX b->Xar F w S b)(hc:Xc xX w w'):Xs F Fr w' S s by' mo:=by
 refine h.other hc he ?_;intro al d k sz q c;obtain⟨v,i,x,j,l,_⟩:=h.th;have:=i.uniq d;subst this;by_cases a:∀(o:Nat) t,s.th[o]?=some (some t)->(o:Int)≠k
 .rw[l k a] at c;cases c
 .simp only[Classical.not_forall,YP] at a;obtain⟨o,m,n,p⟩:=a;obtain⟨y,_,f,_,_,g⟩:=j o m n;rw[p,c] at f;rw[(Xc2 (Option.some.inj f))];intro b' off s' e' r;obtain⟨t,u,ht⟩:=(he b' r).kd;have:=g.i b' off s' e';rw[u] at this;exact g.g b' off s' e' (ht.2.2 (Option.some.inj (Option.some.inj this)))
structure HpM where
 st:StM
 tb:TbM
abbrev Dc(H:Nat):dE:=.pointer (some ⟨H,0,none⟩)
def Xcr(e g:Int)(b:dE)(s:Int):dE:=.agg #[.int .i64 e,.int .i64 g,b,.int .i64 s]
abbrev XfM:dE:=.slice none 0 0
structure Hm(c:Conf)(n0:Nat)(w0 w:dD)(F:Nat->Prop)(S:Sto)(H:Nat)(P:A7)(s:StM)(t:TbM):Prop where
 lv:Lv c n0 w0 w F S s
 obj:w.heap[H]?=some (.cells [Y6 S,La P,.int .i64 c.size].toArray 104 (0,0))
 tb:Cf w P t c.cN c.cS
 low:(n0<=P.tb/\n0<=P.sb)/\w0.heap.size<=P.tb/\w0.heap.size<=P.sb
 out:¬F H/\¬F P.tb/\¬F P.sb
def Ye(F:Nat->Prop)(P:A7):Nat->Prop:=λz=>F z\/Ah P z
def Js(c:Conf)(n0:Nat)(w0 w:dD)(F:Nat->Prop)(S:Sto)(H:Nat)(P:A7)(s:StM)(t:TbM)(w':dD):Prop:=
 ∃F',Hm c n0 w0 w' F' S H P s t/\(∀z,F' z->F z\/w.heap.size<=z)/\Xc (Ye F P) w w'
section
variable {c:Conf}{n0:Nat}{w0 w w':dD}{F:Nat->Prop}{S:Sto}{H:Nat}{P:A7}{s s':StM}{t t':TbM}
theorem Lv.ones(h:Lv c n0 w0 w F S s){xX:Nat->Prop}(hX:∀b,xX b->n0<=b/\w0.heap.size<=b/\¬F b/\∃t,kd w b=some (some t)/\t≠352/\t≠348/\(t=3->S.G b))(hc:Xc xX w w'):Lv c n0 w0 w' F S s:=by
 obtain⟨Fr,mo,a⟩:=h.ok;obtain⟨f1,f2,f3,f4,f5,f6,f7,f8⟩:=h.fx;refine {h with ok:=⟨Fr,mo,a.ones (λb d=>?_) hc⟩,bR:=h.bR.bU hc (λz i e=>xH (hX z e).2.1)};obtain⟨j,k,f,t,g,ht⟩:=hX b d;exact⟨f,⟨X,X,X,X,X,X⟩,λoff s e=>xH (f7 _ _ _ e),λoff s e=>xH (f8 _ _ _ e),t,g,ht⟩
theorem Hm.bQ(h:Hm c n0 w0 w F S H P s t)(hc:Xc Xf w w'):Hm c n0 w0 w' F S H P s t:={h with lv:=h.lv.bQ hc,obj:=hc.bP h.obj,tb:=h.tb.bQ hc}
theorem Hm.ne(h:Hm c n0 w0 w F S H P s t):¬Ah P H:=λe=>by
 obtain⟨a,b⟩:=h.tb.kd;have:=X2 h.obj;exact e.elim (λe=>by rw[<-e,this] at a;cases a) (λe=>by rw[<-e,this] at b;cases b)
theorem Hm.store(h:Hm c n0 w0 w F S H P s t)(hl:Kg c n0 w0 w F S s' w'):Js c n0 w0 w F S H P s' t w':=by
 obtain⟨F',j,a,b⟩:=hl;obtain⟨d,f,i⟩:=h.out;obtain⟨k,l⟩:=h.tb.lt;exact⟨F',⟨j,b.heap h.obj d,h.tb.bR b f i,h.low,λz=>(a _ z).elim d (λg=>xH (Xg h.obj)),λz=>(a _ z).elim f (λg=>X),λz=>(a _ z).elim i (λg=>X)⟩,a,b.mono λ_ _ e=>.inl e⟩
theorem Hm.table(h:Hm c n0 w0 w F S H P s t)(hT:Cf w' P t' c.cN c.cS)(hc:Xc (Ah P) w w'):Js c n0 w0 w F S H P s t' w':=by
 obtain⟨k,a,d⟩:=h.out;obtain⟨f,g⟩:=h.tb.kd;refine⟨F,⟨h.lv.ones (λb i=>?_) hc,hc.heap h.obj h.ne,hT,h.low,h.out⟩,λz j=>.inl j,hc.mono λ_ _ e=>.inr e⟩;rcases i with rfl|rfl
 .exact⟨h.low.1.1,h.low.2.1,a,_,f,xD,xD,λe=>absurd e xD⟩
 .exact⟨h.low.1.2,h.low.2.2,d,_,g,xD,xD,λe=>absurd e xD⟩
theorem Js.up(h:Js c n0 w0 w1 F S H P s t w')(hc:Xc Xf w w1):Js c n0 w0 w F S H P s t w':=by
 obtain⟨F',a,b,d⟩:=h;have:=hc.size;exact⟨F',a,λz f=>(b z f).imp id X,hc.gr.trans d⟩
end
theorem XlJ{r:Nat}(h:L0 (FloatKind.nearest .f64 0) (FloatKind.nearest .f64 0) r):R1 .eql r r=some false/\R1 .neq r r=some true:=by
 unfold L0 at h;rw[show(FloatKind.format .f64).div (FloatKind.nearest .f64 0) (FloatKind.nearest .f64 0)=none from rfl] at h;obtain⟨t,rfl⟩:=h;have:(FloatKind.format .f64).order (t%2*2^63+9218868437227405312+1+t/2%(2^52-1)) (t%2*2^63+9218868437227405312+1+t/2%(2^52-1))=none:=by
  have a:t/2%(2^52-1)<2^52-1:=YW _ xD;generalize t/2%(2^52-1)=u at *
  have b:t%2<2:=YW _ xD;generalize t%2=z at *
  have:∃sg fr,Ieee.double.read (z*2^63+9218868437227405312+1+u)=.nan sg fr:=by
   unfold Ieee.Format.read;rw[show Ieee.double.signWeight=2^63 from rfl,show Ieee.double.binade=2^52 from rfl,show Ieee.double.infRung=2047*2^52 from rfl];have e2:(z*2^63+9218868437227405312+1+u)%2^63=9218868437227405312+1+u:=X
   simp only[e2];rw[bJ X,bJ X,bJ X];exact⟨_,_,rfl⟩
  obtain⟨sg,fr,e⟩:=this;show Ieee.Format.order _ _ _=_
  unfold Ieee.Format.order;rw[show FloatKind.format .f64=Ieee.double from rfl,e];rfl
 unfold R1;rw[show(FloatKind.format .f64).order=(FloatKind.format .f64).order from rfl,this];exact⟨rfl,rfl⟩
theorem Xl5(a b:Int)(w:dD):Xe prog 72 #[W a,W b] w (λv w'=>∃r,v=.float .f64 r/\L0 (FloatKind.nearest .f64 a) (FloatKind.nearest .f64 b) r/\Xc Xf w w'):=by
 exact aR func72 ntmps72 Y (Xa.fconv Xb rfl rfl (Xa.fconv Xb rfl rfl (Xa.fquo Xb rfl (λ_=>rfl) λr f d c=>bE func72 Y ⟨r,rfl,d,c⟩)))
section
variable {c:Conf}{n0:Nat}{w0 w:dD}{F:Nat->Prop}{S:Sto}{H:Nat}{P:A7}{s:StM}{t:TbM}
theorem Xkg(h:Hm c n0 w0 w F S H P s t):Xe prog 16 #[Dc H] w (X9 (W (Xc0 t:Nat)) w):=by
 exact aR func16 ntmps16 Y (bB h.obj Y (bH (XlZ h.tb) Y (bE func16 Y ⟨rfl,rfl⟩)))
theorem Xkf(h:Hm c n0 w0 w F S H P s t):Xe prog 17 #[Dc H] w (Grow (W (Zd s.rm.pl:Nat)) w):=by
 exact aR func17 ntmps17 Y (bB h.obj Y (bG (XkW h.lv) Y λb a=>bE func17 Y ⟨rfl,a⟩))
theorem Xe1(h:Hm c n0 w0 w F S H P s t):Xe prog 27 #[Dc H] w (λv w'=>∃r,v=.float .f64 r/\L0 (FloatKind.nearest .f64 (Zy s)) (FloatKind.nearest .f64 ((Zd s.rm.pl:Nat)*c.size)) r/\Xc Xf w w'):=by
 have a:=Zr h.lv.inv.may;have f:((Zd s.rm.pl:Nat):Int)<=1024:=by
  have:=Pp s.rm.pl.own;have:=h.lv.inv.rm.ok.own;have:=a.bS;unfold Zd;omega
 have j:0<=((Zd s.rm.pl:Nat):Int)*c.size/\((Zd s.rm.pl:Nat):Int)*c.size<=1024*4096:=⟨ZG X (xH a.size),ZH f (xH a.size) (xH a.size) xD⟩;refine aR func27 ntmps27 Y (aQ 11 Xf xK Y λb=>aE b h.obj Y (aG b (λw' d=>XkT (h.lv.bQ d)) Y (aG b (λw' d=>Xkf (h.bQ d)) Y (aE b h.obj Y (aF b Y λk g=>aV Y (aP Y (Xl5 _ _ k) ?_))))));rintro _ m ⟨r,rfl,l,i⟩;exact aN Y (bE func27 Y ⟨r,rfl,l,g.trans i⟩)
end
def Yi(n:Nat)(F:Nat->Prop)(l:List Int)(b:dE)(w:dD):Prop:=∃a cap,b=.slice a l.length cap/\Rd .u8 w a l/\∀b' off s',a=some ⟨b',off,s'⟩->(n<=b'/\b'<w.heap.size)/\¬F b'
theorem Yi.none(n:Nat)(F:Nat->Prop)(w:dD):Yi n F [] XfM w:=⟨_,_,rfl,Rd.nil _ _ _,by intro b' off s' e;cases e⟩
theorem Yi.bR{F:Nat->Prop}{b:dE}{w w':dD}(h:Yi n F l b w)(hc:Xc xX w w')(hX:∀z,xX z->(z<n\/w.heap.size<=z)\/F z):Yi n F l b w':=by
 obtain⟨a,cap,e,hr,c⟩:=h;refine⟨a,cap,e,λi hi=>?_,λb' off s' e=>⟨⟨(c b' off s' e).1.1,xI (c b' off s' e).1.2 hc.size⟩,(c b' off s' e).2⟩⟩;obtain⟨b',off,e',d⟩:=hr i hi;exact⟨b',off,e',hc.cell d (λf=>(hX _ f).elim (λg=>xH (c _ _ _ e').1) (c _ _ _ e').2)⟩
theorem Yi.low{F:Nat->Prop}{b:dE}{w:dD}(h:Yi n F l b w)(hm:m<=n)(hF:∀z,n<=z->z<w.heap.size -> ¬F z -> ¬F' z):Yi m F' l b w:=by
 obtain⟨a,cap,e,hr,c⟩:=h;exact⟨a,cap,e,hr,λb' off s' e=>⟨⟨YB hm (c b' off s' e).1.1,(c b' off s' e).1.2⟩,hF _ (c b' off s' e).1.1 (c b' off s' e).1.2 (c b' off s' e).2⟩⟩
def Oi(c:Conf)(n0:Nat)(w0 w:dD)(F:Nat->Prop)(S:Sto)(H:Nat)(P:A7)(s:StM)(t:TbM)(e g k:Int)(l:List Int)(v:dE)(w':dD):Prop:=
 ∃b F',v=Xcr e g b k/\Yi w.heap.size F' l b w'/\Hm c n0 w0 w' F' S H P s t/\(∀z,F' z->F z\/w.heap.size<=z)/\Xc (Ye F P) w w'
def XdI(c:Conf)(n0:Nat)(w0 w:dD)(F:Nat->Prop)(S:Sto)(H:Nat)(P:A7)(s:StM)(t:TbM)(e g k:Int)(l:List Int)(v:dE)(w':dD):Prop:=
 ∃b F',v=Xcr e g b k/\Yi w.heap.size F' l b w'/\Hm c n0 w0 w' F' (S.relap s.rm.tot) H P s t/\(∀z,F' z->F z\/w.heap.size<=z)/\Xc (Ye F P) w w'
section
variable {c:Conf}{n0:Nat}{w0 w w':dD}{F:Nat->Prop}{S:Sto}{H:Nat}{P:A7}{s:StM}{t:TbM}{x:HpM}
theorem Hm.low'(h:Hm c n0 w0 w F S H P s t):∀z,F z->z<w.heap.size:=h.lv.low
theorem Hm.since0(h:Hm c n0 w0 w F S H P s t):n0<=w.heap.size/\w0.heap.size<=w.heap.size:=by
 have:=h.tb.lt;have:=h.low;omega
theorem Hm.cM(h:Hm c n0 w0 w F S H P s t){w':dD}(hl:Lv c n0 w0 w' F (S.relap s.rm.tot) s)(hc:Xc (λz=>z=S.mb) w w')(hF:F S.mb):Hm c n0 w0 w' F (S.relap s.rm.tot) H P s t:=by
 obtain⟨a,b,d⟩:=h.out;exact⟨hl,hc.heap h.obj (λe=>a (e▸hF)),h.tb.bR hc (λe=>b (e▸hF)) (λe=>d (e▸hF)),h.low,h.out⟩
theorem Lv.mb(h:Lv c n0 w0 w F S s):F S.mb:=by obtain⟨Fr,mo,a⟩:=h.ok;exact a.mb.1
theorem Hm.ones(h:Hm c n0 w0 w F S H P s t){xX:Nat->Prop}(hX:∀q,xX q->n0<=q/\w0.heap.size<=q/\¬F q/\¬Ah P q/\H≠q)(hk:∀q,xX q -> ∃ty,kd w q=some (some ty)/\ty≠352/\ty≠348/\(ty=3->S.G q))(hc:Xc xX w w'):Hm c n0 w0 w' F S H P s t:=
 ⟨h.lv.ones (λq a=>⟨(hX q a).1,(hX q a).2.1,(hX q a).2.2.1,hk q a⟩) hc,hc.heap h.obj (λe=>(hX _ e).2.2.2.2 rfl),h.tb.bR hc (λe=>(hX _ e).2.2.2.1 (.inl rfl)) (λe=>(hX _ e).2.2.2.1 (.inr rfl)),h.low,h.out⟩
theorem Hm.stepsD(h:Hm c n0 w0 w F S H P s t):∀w',Xc Xf w w'->Xe prog 71 #[Y6 S] w' (λv w2=>Xc F w' w2/\v=W (s.rm.tot-S.R.dA)/\Lv c n0 w0 w2 F (S.relap s.rm.tot) s/\Xc (λz=>z=S.mb) w w2/\F S.mb):=λw' a=>
 (Vb (h.lv.bQ a)).mono λv w2 ⟨e,f,b,d⟩=>⟨b.mono λz _ e=>e▸d,e,f,a.gr.trans b,d⟩
theorem Ur(h:Hm c n0 w0 w F S H P x.st x.tb)(hlap:S.R.dA=x.st.rm.tot)(n:Int)(hn : -9223372036854775808<=n/\n<=9223372036854775807){k:FuncId}{cap:List dE}{st':StM}{tb':TbM}{e g:Int}(hz:0<=z/\z<=2)(hd:X1 x.tb n=0 -> ∀w1,Xc Xf w w1->Xe prog k (W (Zh x.tb n)::cap).toArray w1 (Oi c n0 w0 w1 F S H P st' tb' e g z l)):Xe prog 51 #[Dc H,W n,.func (.func k) #[] cap.toArray] w
  (λv w'=>if X1 x.tb n=0 then XdI c n0 w0 w F S H P st' tb' e g (z+(1+(st'.rm.tot-x.st.rm.tot))) l v w' else XdI c n0 w0 w F S H P x.st x.tb (X1 x.tb n) 0 1 [] v w'):=by
 have O:=h.low';have b8:=h.since0;refine aR func51 ntmps51 Y (bC Y λb w1 e1 hb Q b9=>bB (Q.bP h.obj) Y (bG (Xgd (h.tb.bQ Q) n hn) Y λw2 R=>aO Y (bC Y λd w3 e3 al a8 ba=>bF al Y λw4 t a9 aa=>?_)));have bb:=R.size;have o:=((Q.trans R).trans a8).sn a9;have u:=a9.heap (a8.bP (R.bP hb)) (show ¬b=d by omega);have h4:=h.bQ o;by_cases he:X1 x.tb n=0
 .simp only[bK he];refine bI Y (aP Y (hd he w4 o) ?_);rintro _ w5 ⟨bv,D,rfl,an,ao,ab,T⟩;refine aN Y ?_;obtain⟨a5,E,rfl,ap,aq⟩:=an;have aa:=o.size;have L:∀q,q=b\/q=d -> ¬Ye F P q:=λq a e=>by
   have ac:=h.tb.lt;rcases e with e|e|e
   .have:=O q e;omega
   .omega
   .omega
  have U:∀q,q=b\/q=d -> ¬D q:=λq a e=>by
   rcases ab q e with e|e
   .have:=O q e;omega
   .have:=Xg u;have:=Xg t;omega
  have y:=U b (.inl rfl);have s:=U d (.inr rfl);have ad:=T.heap t (L d (.inr rfl));have ar:=T.heap u (L b (.inl rfl));refine bF ad Y λw6 ae M bc=>?_;have ac:=h.tb.lt;have au:∀q,q=d->n0<=q/\w0.heap.size<=q/\¬D q/\¬Ah P q/\H≠q:=λq a=>⟨X,X,a▸s,λe=>by rcases e with e|e <;> omega,xH (Xg h.obj)⟩;have V:=ao.ones au (λq a=>⟨_,a▸X2 ad,xD,xD,λe=>absurd e xD⟩) M;have af:=M.heap ar (show ¬b=d by omega);have bd:=V.lv.inv.rm.ok.tot;have b3:=h.lv.inv.rm.ok.tot;have av:=V.out.1;refine aQ 8 D xK Y λj=>aE j ae Y (aE j V.obj Y (Xd.callQ j rfl rfl (V.stepsD) ?_));rintro _ w7 aw ⟨rfl,a0,f,m⟩;refine Xd.adv Xb j rfl (Xd.arith Xb j rfl (w64 (by rw[hlap];omega)) rfl (aF j Y λw8 i=>aJ Y (by rw[hlap];omega) ?_));have G:¬d=S.mb:=λe=>s (e▸m);have A:=i.bP (f.heap ae G);refine bF A Y λw9 a2 B ax=>bB a2 Y ?_;have p:¬b=S.mb:=λe=>y (e▸m);have a3:=B.heap (i.bP (f.heap af p)) (show ¬b=d by omega);refine bF a3 Y λC r I ai=>?_;have a4:=(V.cM a0 f m).bQ i;have ay:=f.size;have az:=i.size;have hX:∀q,q=b\/q=d->n0<=q/\w0.heap.size<=q/\¬D q/\¬Ah P q/\H≠q:=λq a=>⟨X,X,a.elim (λe=>e▸y) (λe=>e▸s),λe=>by
   rcases e with e|e <;> omega,xH (Xg h.obj)⟩
  have a6:∀q,q=b\/q=d->kd w8 q=some (some 55):=λq a=>a.elim (λe=>e▸X2 (i.bP (f.heap af p))) (λe=>e▸X2 A);have N:Xc (λq=>q=b\/q=d) w8 C:=(B.mono λq _ e=>.inr e).trans (I.mono λq _ e=>.inl e);have J:=a4.ones hX (λq a=>⟨_,a6 q a,xD,xD,λe=>absurd e xD⟩) N;rw[hlap] at r;have be:=O _ h.lv.mb;have hc:=(((((o.gr.trans T).sn M).bU f (λq a e=>.inl (e▸h.lv.mb))).trans i.gr)).sn N;have b6:=Xg u;have b7:=Xg t;have b0:Yi w4.heap.size D l (.slice a5 l.length E) w5:=⟨a5,E,rfl,ap,aq⟩;have j:Yi w.heap.size D l (.slice a5 l.length E) C:=((((b0.bR M (λq e=>.inl (.inl X))).bR f (λq e=>.inl (.inl X))).bR i (λq e=>e.elim)).bR N (λq e=>.inl (.inl X))).low aa (λ_ _ _ h=>h);exact bD rfl func51 (Xi.cell rfl rfl rfl r rfl .nil) ⟨_,D,rfl,j,J,λq a=>(ab q a).imp id X,hc⟩
 .simp only[bJ he];refine aS Y ?_;have y:¬F b:=λe=>xH (O b e)
  have s:¬F d:=λe=>xH (O d e)
  have K:=hlap;have av:=h4.out.1;refine aQ 8 F xK Y λj=>aE j t Y (aE j h4.obj Y (Xd.callQ j rfl rfl (h4.stepsD) ?_));rintro _ w7 aw ⟨rfl,a0,f,m⟩;refine Xd.adv Xb j rfl (Xd.arith Xb j rfl (w64 (by rw[K];omega)) rfl (aF j Y λw8 i=>aJ Y (by rw[K];omega) ?_));have G:¬d=S.mb:=λe=>s (e▸m);have A:=i.bP (f.heap t G);refine bF A Y λw9 a2 B ax=>bB a2 Y ?_;have p:¬b=S.mb:=λe=>y (e▸m);have a3:=B.heap (i.bP (f.heap u p)) (show ¬b=d by omega);refine bF a3 Y λC r I ai=>?_;have a4:=(h4.cM a0 f m).bQ i;have ay:=f.size;have az:=i.size;have hX:∀q,q=b\/q=d->n0<=q/\w0.heap.size<=q/\¬F q/\¬Ah P q/\H≠q:=λq a=>⟨X,X,a.elim (λe=>e▸y) (λe=>e▸s),λe=>by
   have ac:=h.tb.lt;rcases e with e|e <;> omega,xH (Xg h.obj)⟩
  have a6:∀q,q=b\/q=d->kd w8 q=some (some 55):=λq a=>a.elim (λe=>e▸X2 (i.bP (f.heap u p))) (λe=>e▸X2 A);have N:Xc (λq=>q=b\/q=d) w8 C:=(B.mono λq _ e=>.inr e).trans (I.mono λq _ e=>.inl e);have J:=a4.ones hX (λq a=>⟨_,a6 q a,xD,xD,λe=>absurd e xD⟩) N;rw[K,YL] at r;have hc:Xc (Ye F P) w C:=((o.gr.trans (f.mono λq _ e=>.inl (e▸m))).trans i.gr).sn N;exact aK func51 r Y ⟨XfM,F,rfl,.none _ _ _,J,λq a=>.inl a,hc⟩
end
section
variable {c:Conf}{n0:Nat}{w0 w w' w1 w2:dD}{F F1:Nat->Prop}{S:Sto}{H:Nat}{P:A7}{s:StM}{t:TbM}{x:HpM}
theorem Js.seq(hF1:∀z,F1 z->F z\/w.heap.size<=z)(hc1:Xc (Ye F P) w w1)(h2:Js c n0 w0 w1 F1 S H P s t w2):Js c n0 w0 w F S H P s t w2:=by
 obtain⟨F',a,b,d⟩:=h2;have:=hc1.size;exact⟨F',a,λz f=>(b z f).elim (hF1 z) (λe=>.inr X),hc1.bU d (λq h e=>e.elim (λe=>(hF1 q e).elim .inl (λg=>X)) .inr)⟩
theorem Hm.stores(h:Hm c n0 w0 w F S H P s t)(hl:Lv c n0 w0 w' F S s')(hc:Xc F w w'):Hm c n0 w0 w' F S H P s' t:=⟨hl,hc.heap h.obj h.out.1,h.tb.bR hc h.out.2.1 h.out.2.2,h.low,h.out⟩
theorem Hm.boxed(h:Hm c n0 w0 w F S H P s t)(hb:¬F b)(hn:n0<=b/\w0.heap.size<=b)(hP:¬Ah P b/\H≠b)(hk:kd w b=some (some ty))(ht:ty≠352/\ty≠348/\ty≠3)(hc:Xc (λq=>q=b) w w'):Hm c n0 w0 w' F S H P s t:=
 h.ones (xX:=λq=>q=b) (λq e=>e▸⟨hn.1,hn.2,hb,hP.1,hP.2⟩) (λq e=>e▸⟨ty,hk,ht.1,ht.2.1,λe=>absurd e ht.2.2⟩) hc
theorem Xke(h:Hm c n0 w0 w F S H P s t)(slot n:Int)(hn : -9223372036854775808<=n/\n<=9223372036854775807){a:Nat}(ha:w.cell? ⟨a,0,none⟩=some (Dc H))(hd:w.cell? ⟨d,0,none⟩=some (W n))(hFa:¬Ye F P a)(hFd:¬Ye F P d):Xe prog 52 #[W slot,xV a,xV d] w (Oi c n0 w0 w F S H P (Aq c s slot) (Dj t n) (X1 t n) 0 2 []):=by
 have z:=h.low';have N:=h.since0;have O:=h.tb.lt;have Q:=Xg h.obj;refine aR func52 ntmps52 Y (bC Y λb w1 e1 A g R=>?_);have l:=g.cell ha id;have v:=h.bQ g;refine aW Y l Y (bB v.obj Y ?_);refine aP rfl (XkV v.lv slot) ?_;rintro _ w2 ⟨rfl,B⟩;refine aN Y ?_;obtain⟨F2,C,m,f⟩:=v.store B;have D:=f.heap A (show ¬Ye F P b from λe=>by
  rcases e with e|e|e
  .have:=z b e;omega
  .omega
  .omega)
 refine aQ 5 Xf xK Y λk=>aD k (f.cell l hFa) Y (aE k C.obj Y (aD k (f.cell (g.cell hd id) hFd) Y (aF k Y λw3 i=>?_)));have E:=C.bQ i;refine aP Y (XlX E.tb n hn) ?_;rintro _ w4 ⟨rfl,G,j⟩;refine aN Y ?_;obtain⟨x,L,o,M⟩:=E.table G j;have T:=f.size;have U:=i.size;have y:∀q,x q->F q\/w.heap.size<=q:=λq I=>(o q I).elim (λe=>(m q e).imp id X) (λe=>.inr X);have p:¬Ah P b:=λe=>by rcases e with e|e <;> omega
 have r:=j.heap (i.bP D) p;have J:¬x b:=λe=>by
  rcases o b e with e|e
  .rcases m b e with e|e
   .have:=z b e;omega
   .have:=Xg A;omega
  .omega
 refine aO Y (bF r Y λw5 K u V=>?_);exact aK func52 K Y ⟨_,x,rfl,.none _ _ _,(L.boxed J X ⟨p,X⟩ (X2 r) xD u),y,(((g.gr.trans f).trans i.gr).trans (j.mono λ_ _ e=>.inr e)).sn u⟩
theorem Xkh(h:Hm c n0 w0 w F S H P s t)(slot i m:Int)(hi : -9223372036854775808<=i/\i<=9223372036854775807)(hm : -9223372036854775808<=m/\m<=9223372036854775807){a d':Nat}(ha:w.cell? ⟨a,0,none⟩=some (Dc H))(hd:w.cell? ⟨d,0,none⟩=some (W i))(hd':w.cell? ⟨d',0,none⟩=some (W m))(hFa:¬Ye F P a)(hFd:¬Ye F P d)(hFd':¬Ye F P d'):Xe prog 55 #[W slot,xV a,xV d,xV d'] w (Oi c n0 w0 w F S H P (Cc c s slot i m) t (Qt s slot i m) 0 0 (Cn c s slot i m)):=by
 have D:=h.low';have a3:=h.since0;have a4:=h.tb.lt;have a5:=Xg h.obj;refine aR func55 ntmps55 Y (bC Y λb l e1 U g a6=>?_);have J:=g.cell ha id;have K:=g.cell hd id;have E:=g.cell hd' id;have G:=h.bQ g;refine aQ 12 F xK Y λj=>?_;have a7:¬F a:=λe=>hFa (.inl e);have a8:¬F d:=λe=>hFd (.inl e);have V:¬F d':=λe=>hFd' (.inl e);have a9:=h.out.1;refine aD j J Y (aE j G.obj Y (aD j K Y (aD j E Y ?_)));have L:∀w',Xc Xf l w'->Xe prog 56 #[Y6 S,W slot,W i,W m] w' (λv f=>Xc F w' f/\∃a cap,v=.tuple #[.slice a (Cn c s slot i m).length cap,W (Qt s slot i m)]/\Rd .u8 f a (Cn c s slot i m)/\(∀b off s',a=some ⟨b,off,s'⟩->l.heap.size<=b/\b<f.heap.size)/\Lv c n0 w0 f F S (Cc c s slot i m)/\Xc F l f):=λw' o=>
  (XkY (G.lv.bQ o) slot i m hi hm).mono λv f ⟨a,cap,e1,e2,e3,e4,e5⟩=>
   ⟨e5,a,cap,e1,e2,λb off s' e=>⟨xI (e3 b off s' e).1 o.size,(e3 b off s' e).2⟩,e4,o.gr.trans e5⟩
 refine Xd.callQ j rfl rfl (L) ?_;rintro _ f aa ⟨ra,rcap,rfl,M,x,N,y⟩;refine Xd.adv Xb j rfl (aF j Y λw3 k=>?_);have O:=G.stores N y;have z:Xc (Ye F P) l f:=y.mono λ_ _ e=>.inl e;obtain⟨n,p⟩:∃n,n=F:=⟨_,rfl⟩;rw[<-p] at O;have A:∀q,n q->F q\/l.heap.size<=q:=λq u=>.inl (p▸u);have Q:Yi l.heap.size n (Cn c s slot i m) (.slice ra (Cn c s slot i m).length rcap) f:=⟨ra,rcap,rfl,M,λb' off s' e=>⟨x b' off s' e,λe2=>xI (x b' off s' e).1 (D b' (p▸e2))⟩⟩;have h3:=O.bQ k;have B:¬Ah P b:=λe=>by rcases e with e|e <;> omega
 have C:=k.bP (z.heap U (show ¬Ye F P b from λe=>by
  rcases e with e|e
  .have:=D b e;omega
  .exact B e))
 have R:¬n b:=λe=>by
  rcases A b e with e|e
  .have:=D b e;omega
  .omega
 refine aO Y (bF C Y λw5 T r ab=>?_);have h5:=h3.boxed R X ⟨B,X⟩ (X2 C) xD r;have I:Xc (Ye F P) w w5:=((g.gr.trans z).trans k.gr).sn r;exact aK func55 T Y ⟨_,n,rfl,((Q.bR k (λq e=>e.elim)).bR r (λq e=>.inl (.inl X))).low X (λ_ _ _ h=>h),h5,λq u=>(A q u).imp id X,I⟩
theorem Xkm(h:Hm c n0 w0 w F S H P s t)(slot i:Int)(ba:Option dF)(bc:Nat)(l:List Int)(hi : -9223372036854775808<=i/\i<=9223372036854775807)(hr:Rd .u8 w ba l)(hlc:l.length<=bc)(hl:l.length<=9223372036854775807)(hin:Qo l)(hout:0<l.length->Xj F ba){a d':Nat}(ha:w.cell? ⟨a,0,none⟩=some (Dc H))(hd:w.cell? ⟨d,0,none⟩=some (W i))(hd':w.cell? ⟨d',0,none⟩=some (.slice ba l.length bc)):Xe prog 60 #[W slot,xV a,xV d,xV d'] w (Oi c n0 w0 w F S H P (Cx c s slot i l) t (Qt s slot i l.length) 0 0 []):=by
 have E:=h.low';have U:=h.since0;have V:=h.tb.lt;have a0:=Xg h.obj;refine aR func60 ntmps60 Y (bC Y λb G e1 N f a1=>?_);have I:=f.cell ha id;have J:=f.cell hd id;have v:=f.cell hd' id;have x:=h.bQ f;refine aQ 7 Xf xK Y λk=>aD k I Y (aE k x.obj Y (aD k J Y (aD k v Y (aF k Y λwd j=>?_))));refine aP rfl (Xk2 (x.lv.bQ j) slot i ba bc l hi ((hr.bR f).bR j) hlc hl hin hout) ?_;rintro _ y ⟨rfl,K⟩;refine aN Y ?_;obtain⟨z,O,A,B⟩:=(x.bQ j).store K;have a2:=j.size;have n:∀q,z q->F q\/G.heap.size<=q:=λq m=>(A q m).imp id X;have o:Xc (Ye F P) G y:=j.gr.trans B;obtain⟨C,g⟩:∃C,C=y:=⟨_,rfl⟩;rw[<-g];replace g:Xc Xf y C:=g▸Xc.refl _ _;have Q:=O.bQ g;have p:¬Ah P b:=λe=>by rcases e with e|e <;> omega
 have r:=g.bP (o.heap N (show ¬Ye F P b from λe=>by
  rcases e with e|e
  .have:=E b e;omega
  .exact p e))
 have L:¬z b:=λe=>by
  rcases n b e with e|e
  .have:=E b e;omega
  .omega
 refine aO Y (bF r Y λR M u a3=>?_);have T:=Q.boxed L X ⟨p,X⟩ (X2 r) xD u;have D:Xc (Ye F P) w R:=((f.gr.trans o).trans g.gr).sn u;exact aK func60 M Y ⟨_,z,rfl,.none _ _ _,T,λq m=>(n q m).imp id X,D⟩
theorem Xkj(h:Hm c n0 w0 w F S H P s t)(slot size:Int){a:Nat}(ha:w.cell? ⟨a,0,none⟩=some (Dc H))(hd:w.cell? ⟨d,0,none⟩=some (W size)):Xe prog 62 #[W slot,xV a,xV d] w (Oi c n0 w0 w F S H P (Q7 c s slot size) t (A2 c s slot size) 0 0 []):=by
 have B:=h.low';have Q:=h.since0;have R:=h.tb.lt;have T:=Xg h.obj;refine aR func62 ntmps62 Y (bC Y λb C e1 K g U=>?_);have D:=g.cell ha id;have E:=g.cell hd id;have r:=h.bQ g;refine aQ 6 Xf xK Y λj=>aD j D Y (aE j r.obj Y (aD j E Y (aF j Y λwd i=>?_)));refine aP rfl (XkZ (r.lv.bQ i) slot size) ?_;rintro _ u ⟨rfl,G⟩;refine aN Y ?_;obtain⟨v,L,x,y⟩:=(r.bQ i).store G;have V:=i.size;have l:∀q,v q->F q\/C.heap.size<=q:=λq k=>(x q k).imp id X;have m:Xc (Ye F P) C u:=i.gr.trans y;obtain⟨z,f⟩:∃z,z=u:=⟨_,rfl⟩;rw[<-f];replace f:Xc Xf u z:=f▸Xc.refl _ _;have M:=L.bQ f;have n:¬Ah P b:=λe=>by rcases e with e|e <;> omega
 have o:=f.bP (m.heap K (show ¬Ye F P b from λe=>by
  rcases e with e|e
  .have:=B b e;omega
  .exact n e))
 have I:¬v b:=λe=>by
  rcases l b e with e|e
  .have:=B b e;omega
  .omega
 refine aO Y (bF o Y λN J p a0=>?_);have O:=M.boxed I X ⟨n,X⟩ (X2 o) xD p;have A:Xc (Ye F P) w N:=((g.gr.trans m).trans f.gr).sn p;exact aK func62 J Y ⟨_,v,rfl,.none _ _ _,O,λq k=>(l q k).imp id X,A⟩
end
structure HpM.Ok(c:Conf)(x:HpM):Prop where
 st:x.st.Ok c
 tb:x.tb.Ok c.cN c.cS
 link:∀o:Nat,x.tb.dB.getD o false=true↔1<=(Z3 x.st).getD o 0
def Bs(c:Conf)(x:HpM)(n:Int):HpM:=if X1 x.tb n=0 then ⟨Aq c x.st (Zh x.tb n),Dj x.tb n⟩ else x
def E8(c:Conf)(x:HpM)(n i m:Int):HpM:=if X1 x.tb n=0 then ⟨Cc c x.st (Zh x.tb n) i m,x.tb⟩ else x
def B8(x:HpM)(n i m:Int):Int:=if X1 x.tb n=0 then Qt x.st (Zh x.tb n) i m else X1 x.tb n
def J0(c:Conf)(x:HpM)(n i m:Int):List Int:=if X1 x.tb n=0 then Cn c x.st (Zh x.tb n) i m else []
def E9(c:Conf)(x:HpM)(n i:Int)(l:List Int):HpM:=if X1 x.tb n=0 then ⟨Cx c x.st (Zh x.tb n) i l,x.tb⟩ else x
def Gm(c:Conf)(x:HpM)(n size:Int):HpM:=if X1 x.tb n=0 then ⟨Q7 c x.st (Zh x.tb n) size,x.tb⟩ else x
def I8(c:Conf)(x:HpM)(n size:Int):Int:=if X1 x.tb n=0 then A2 c x.st (Zh x.tb n) size else X1 x.tb n
def Lo(c:Conf)(x:HpM):HpM:=⟨D4 c x.st,x.tb⟩
def Ii(x:HpM)(k bV:Int):HpM:=⟨Cw x.st k bV,x.tb⟩
def Gz(c:Conf)(x:HpM)(size:Int):Prop:=Ys c x.st size=0/\x.tb.fl≠[]
instance (c:Conf) (x:HpM) (size:Int):Decidable (Gz c x size):=by unfold Gz;exact inferInstance
def Bb(c:Conf)(x:HpM)(size:Int):HpM:=if Gz c x size then ⟨Q1 c x.st (C7 x.tb) size,Ez x.tb⟩ else x
def Ci(c:Conf)(x:HpM)(size:Int):Int:=if Ys c x.st size=3 then 3 else if x.tb.fl=[] then 4 else Ys c x.st size
def D9(c:Conf)(x:HpM)(size:Int):Int:=if Gz c x size then Ma x.tb else 0
def Ds(c:Conf)(x:HpM)(size:Int):Int:=if Gz c x size then 2+((Bb c x size).st.rm.tot-x.st.rm.tot) else 0
def Ha(c:Conf):HpM:=⟨Es c,Cu c.cN c.cS⟩
theorem XeR(x:List Bool)(i j:Nat)(v:Bool):(x.set i v).getD j false=if i=j/\i<x.length then v else x.getD j false:=by
 rw[XB,YE,XB];by_cases h:i=j
 .subst h;by_cases a:i<x.length
  .simp[a]
  .simp[a]
 .simp[h]
section
variable {c:Conf}{x:HpM}
theorem XfX{t:ThM}(h:s.th[j]?=some (some t)):Z9 s (j:Nat)=0:=by
 unfold Z9;have a:=(XC.1 h).1;rw[bJ X,Hk h]
theorem HpM.Ok.len(h:x.Ok c):(Z3 x.st).length=x.tb.dB.length:=by
 have:=h.st.tl;have:=h.tb.n;have:=h.tb.nl;rw[Xiy];omega
theorem HpM.Ok.slot(h:x.Ok c){n:Int}(hE:X1 x.tb n=0):∃j:Nat,Zh x.tb n=j/\j<x.tb.dB.length/\∃t,x.st.th[j]?=some (some t):=by
 obtain⟨b,d,f,g,i,k,a⟩:=h.tb.tbE_ok hE;refine⟨(Z5 n).toNat,by unfold Zh;rw[bK hE];omega,(XC.1 a).1,(XdA h.st _).2 ((h.link _).1 (El a))⟩
theorem HpM.Ok.free(h:x.Ok c)(n:Int):(Bs c x n).Ok c:=by
 unfold Bs;split
 .rename_i a
  obtain⟨j,ej,b,t,ht⟩:=h.slot a;have d:=h.len;refine⟨h.st.free _,h.tb.give n,λo=>?_⟩;show(Dj x.tb n).dB.getD o false=true↔1<=(Z3 (Aq c x.st (Zh x.tb n))).getD o 0
  rw[Xpb h.st,ej,bK (XfX ht),XA,E6];unfold Dj;have ej':(Z5 n).toNat=j:=by unfold Zh at ej;rw[bK a] at ej;omega
  rw[bK a];show(x.tb.dB.set (Z5 n).toNat false).getD o false=true↔_
  rw[ej',XeR];by_cases e:j=o
  .rw[bK ⟨e,b⟩,bK ⟨e,X⟩]
   simp
  .rw[bJ (λg=>e g.1),bJ (λg=>e g.1)];exact h.link o
 .exact h
theorem HpM.Ok.bV(h:x.Ok c)(hs:s'.Ok c)(hz:Z3 s'=Z3 x.st):HpM.Ok c ⟨s',x.tb⟩:=⟨hs,h.tb,λo=>by rw[show Z3 (HpM.mk s' x.tb).st=Z3 x.st from hz];exact h.link o⟩
theorem HpM.Ok.read(h:x.Ok c)(n i m:Int):(E8 c x n i m).Ok c:=by
 unfold E8;split
 .exact h.bV (h.st.read _ i m) (Xpd ..)
 .exact h
theorem HpM.Ok.write(h:x.Ok c)(n i:Int){l:List Int}(hl:Qo l):(E9 c x n i l).Ok c:=by
 unfold E9;split
 .exact h.bV (h.st.write _ i hl) (Xpi ..)
 .exact h
theorem HpM.Ok.tick(h:x.Ok c):(Lo c x).Ok c:=h.bV h.st.tick (Xpg h.st)
theorem HpM.Ok.set(h:x.Ok c)(k bV:Int):(Ii x k bV).Ok c:=h.bV (h.st.set k bV) (Xpf ..)
theorem HpM.Ok.resize(h:x.Ok c)(n size:Int):(Gm c x n size).Ok c:=by
 unfold Gm;split
 .rename_i a
  obtain⟨j,ej,d,t,ht⟩:=h.slot a;refine⟨h.st.resize _ size,h.tb,λo=>?_⟩;show x.tb.dB.getD o false=true↔1<=(Z3 (Q7 c x.st (Zh x.tb n) size)).getD o 0
  rw[Xpe h.st];split
  .rename_i b
   obtain⟨_,_,_,_,hr,_⟩:=Px b;rw[ej,XA,E6];split
   .rename_i g
    rw[<-g.1];exact⟨λ_=>hr.1,λ_=>(h.link j).2 ((XdA h.st j).1 ⟨t,ht⟩)⟩
   .exact h.link o
  .exact h.link o
 .exact h
theorem HpM.Ok.goes(h:x.Ok c)(hg:Gz c x size):∃j:Nat,C7 x.tb=j/\j<x.tb.dB.length/\x.tb.dB.getD j false=false/\Ez x.tb={x.tb with dB:=x.tb.dB.set j true,fl:=x.tb.fl.tail}/\Cm c x.st j size=0:=by
 cases hf:x.tb.fl with
 |nil=>exact absurd hf hg.2
 |cons j r=>
  obtain⟨g,m,n,a⟩:=h.tb.fr j (by rw[hf];exact ZO);refine⟨j,by unfold C7;rw[hf],(XC.1 a).1,El a,by unfold Ez;rw[hf];rfl,?_⟩;have i:=h.len;have l:=(XC.1 a).1;have b:¬∃t,x.st.th[j]?=some (some t):=λk=>by
   have:=(h.link j).2 ((XdA h.st j).1 k);rw[El a] at this;cases this
  rw[Xiy] at i;have d:x.st.th[j]?=some none:=by
   cases f:x.st.th[j]? with
   |none=>rw[List.getElem?_eq_none_iff] at f;omega
   |some y=>cases y with
    |none=>rfl
    |some t=>exact absurd ⟨t,f⟩ b
  have e:Z9 x.st (j:Nat)=9:=by
   unfold Z9;rw[bJ X,show B3 x.st (j:Nat)=none by unfold B3;rw[bK X,XA,XB,d];rfl]
  unfold Cm;rw[e,bJ xD,bJ xD];exact hg.1
theorem HpM.Ok.alloc(h:x.Ok c)(size:Int):(Bb c x size).Ok c:=by
 unfold Bb;split
 .rename_i a
  obtain⟨j,e1,e2,e3,e4,e5⟩:=h.goes a;have b:=h.len;refine⟨h.st.alloc _ size,h.tb.take,λo=>?_⟩;show(Ez x.tb).dB.getD o false=true↔1<=(Z3 (Q1 c x.st (C7 x.tb) size)).getD o 0
  rw[Xpa h.st,e1,bK e5,e4,XA,E6];show(x.tb.dB.set j true).getD o false=true↔_
  rw[XeR];by_cases e:j=o
  .rw[bK ⟨e,e2⟩,bK ⟨e,X⟩];simp[((Oz a.1).1.1)]
  .rw[bJ (λg=>e g.1),bJ (λg=>e g.1)];exact h.link o
 .exact h
theorem Xlk(hm:Xy c=true)(hA:Y1 c (Io c 0)):(Ha c).Ok c:=by
 have a:(1<=c.cN/\c.cN<=4096)/\1<=c.cS/\c.cS<=1023:=by
  unfold Xy at hm;simp only[XI,decide_eq_true_eq,Qu] at hm;omega
 refine⟨XfJ hm hA,XfK a.1 a.2,λo=>?_⟩;have e1:(Ha c).tb.dB.getD o false=false:=by
  show(List.replicate c.cN.toNat false).getD o false=false
  rw[XB,ZD];split <;> rfl
 have e2:(Z3 (Ha c).st).getD o 0=0:=by
  show((List.replicate c.cN.toNat (none:Option ThM)).map Bd).getD o 0=0
  rw[XB,XO,ZD];split <;> rfl
 rw[e1,e2]
 simp
end
structure Hv(c:Conf)(n0:Nat)(w0 w:dD)(F:Nat->Prop)(S:Sto)(H:Nat)(P:A7)(x:HpM):Prop where
 hm:Hm c n0 w0 w F S H P x.st x.tb
 dA:S.R.dA=x.st.rm.tot
 ok:x.Ok c
def Le(c:Conf)(n0:Nat)(w0 w:dD)(F:Nat->Prop)(S:Sto)(H:Nat)(P:A7)(x:HpM)(e g k:Int)(l:List Int)(v:dE)(w':dD):Prop:=
 ∃b F' S',v=Xcr e g b k/\Yi w.heap.size F' l b w'/\Hv c n0 w0 w' F' S' H P x/\(∀z,F' z->F z\/w.heap.size<=z)/\Xc (Ye F P) w w'/\S'.G=S.G
section
variable {c:Conf}{n0:Nat}{w0 w w':dD}{F:Nat->Prop}{S:Sto}{H:Nat}{P:A7}{s:StM}{t:TbM}{x x':HpM}{e g k:Int}{l:List Int}{v:dE}
theorem Hv.bQ(h:Hv c n0 w0 w F S H P x)(hc:Xc Xf w w'):Hv c n0 w0 w' F S H P x:={h with hm:=h.hm.bQ hc}
theorem Hv.boxed(h:Hv c n0 w0 w F S H P x){b ty:Nat}(hb:¬F b)(hn:n0<=b/\w0.heap.size<=b)(hP:¬Ah P b/\H≠b)(hk:kd w b=some (some ty))(ht:ty≠352/\ty≠348/\ty≠3)(hc:Xc (λq=>q=b) w w'):Hv c n0 w0 w' F S H P x:=
 {h with hm:=h.hm.boxed hb hn hP hk ht hc}
theorem Xbo(h:Hv c n0 w0 w F S H P x)(n:Int)(hn : -9223372036854775808<=n/\n<=9223372036854775807):Xe prog 18 #[Dc H,W n] w
 (Le c n0 w0 w F S H P (Bs c x n) (X1 x.tb n) 0 ((if X1 x.tb n=0 then 2 else 0)+(1+((Bs c x n).st.rm.tot-x.st.rm.tot))) []):=by
 have t:=h.hm.low';have a0:=h.hm.since0;have a1:=h.hm.tb.lt;have a2:=Xg h.hm.obj;have D:=h.ok.free n;refine aR func18 ntmps18 Y (bC Y λa w1 e1 T N a3=>bC Y λd w2 e2 U E a4=>bC Y λb O e3 Q u a5=>?_);have G:=u.bP (E.bP T);have I:=u.bP U;have g:=(N.trans E).trans u;have J:=g.size;have L:=h.bQ g;have K:∀q,w.heap.size<=q -> ¬Ye F P q:=λq s e=>by
  rcases e with e|e|e
  .have:=t q e;omega
  .omega
  .omega
 refine bB G Y (bB I Y (aP Y (Ur L.hm L.dA n hn (k:=52) (cap:=[xV a,xV d]) (z:=2) X (λp w' v=>Xke (L.hm.bQ v) (Zh x.tb n) n hn (v.cell (Cr (off:=0) G rfl) id) (v.cell (Cr (off:=0) I rfl) id) (K a X) (K d X))) ?_));rintro _ w4 i;refine aN Y ?_;by_cases p:X1 x.tb n=0
 .have eX:Bs c x n=⟨Aq c x.st (Zh x.tb n),Dj x.tb n⟩:=by unfold Bs;rw[bK p]
  rw[bK p] at i;rw[eX] at D⊢;rw[bK p];obtain⟨bv,r,rfl,y,M,j,l⟩:=i;obtain⟨ra,rc,rfl,hr,A⟩:=y;have m:¬Ah P b:=λe=>by rcases e with e|e <;> omega
  have o:=l.heap Q (show ¬Ye F P b from λe=>by
   rcases e with e|e
   .have:=t b e;omega
   .exact m e)
  have B:¬r b:=λe=>by
   rcases j b e with e|e
   .have:=t b e;omega
   .omega
  refine bF o Y λV C f R=>?_;exact aK func18 C Y ⟨_,r,_,rfl,(((show Yi O.heap.size r _ (.slice ra _ rc) _ from⟨ra,rc,rfl,hr,A⟩).bR f (λq e=>.inl (.inl X))).low J (λ_ _ _ h=>h)),⟨(M.boxed B X ⟨m,X⟩ (X2 o) xD f),rfl,D⟩,λq s=>(j q s).imp id X,((g.gr.trans l)).sn f,rfl⟩
 .have eX:Bs c x n=x:=by unfold Bs;rw[bJ p]
  rw[bJ p] at i;rw[eX,bJ p,YL];obtain⟨bv,r,rfl,y,M,j,l⟩:=i;obtain⟨ra,rc,rfl,hr,A⟩:=y;have m:¬Ah P b:=λe=>by rcases e with e|e <;> omega
  have o:=l.heap Q (show ¬Ye F P b from λe=>by
   rcases e with e|e
   .have:=t b e;omega
   .exact m e)
  have B:¬r b:=λe=>by
   rcases j b e with e|e
   .have:=t b e;omega
   .omega
  refine bF o Y λV C f R=>?_;exact aK func18 C Y ⟨_,r,_,rfl,(((show Yi O.heap.size r _ (.slice ra _ rc) _ from⟨ra,rc,rfl,hr,A⟩).bR f (λq e=>.inl (.inl X))).low J (λ_ _ _ h=>h)),⟨(M.boxed B X ⟨m,X⟩ (X2 o) xD f),rfl,h.ok⟩,λq s=>(j q s).imp id X,((g.gr.trans l)).sn f,rfl⟩
theorem Xe3(h:Hv c n0 w0 w F S H P x)(n i m:Int)(hn : -9223372036854775808<=n/\n<=9223372036854775807)(hi : -9223372036854775808<=i/\i<=9223372036854775807)(hm : -9223372036854775808<=m/\m<=9223372036854775807):Xe prog 19 #[Dc H,W n,W i,W m] w
 (Le c n0 w0 w F S H P (E8 c x n i m) (B8 x n i m) 0 (0+(1+((E8 c x n i m).st.rm.tot-x.st.rm.tot))) (J0 c x n i m)):=by
 have B:=h.hm.low';have a4:=h.hm.since0;have a5:=h.hm.tb.lt;have a6:=Xg h.hm.obj;have J:=h.ok.read n i m;refine aR func19 ntmps19 Y (bC Y λa w1 e1 ha Q a7=>bC Y λd w2 e2 hd K a8=>bC Y λd' a9 aa R t a2=>bC Y λb T e3 U v ab=>?_);have L:=v.bP (t.bP (K.bP ha));have g:=((Q.trans K).trans t).trans v;have M:=g.size;have N:=h.bQ g;have C:∀q,w.heap.size<=q -> ¬Ye F P q:=λq A e=>by
  rcases e with e|e|e
  .have:=B q e;omega
  .omega
  .omega
 refine bB L Y (aP Y (Ur N.hm N.dA n hn (k:=55) (cap:=[xV a,xV d,xV d']) (z:=0) X (λj w' y=>Xkh (N.hm.bQ y) (Zh x.tb n) i m hi hm (y.cell (Cr (off:=0) L rfl) id) (y.cell (Cr (off:=0) (v.bP (t.bP hd)) rfl) id) (y.cell (Cr (off:=0) (v.bP R) rfl) id) (C a X) (C d X) (C d' X))) ?_);rintro _ w4 l;refine aN Y ?_;by_cases j:X1 x.tb n=0
 .have eX:E8 c x n i m=⟨Cc c x.st (Zh x.tb n) i m,x.tb⟩:=by unfold E8;rw[bK j]
  have eE:B8 x n i m=Qt x.st (Zh x.tb n) i m:=by unfold B8;rw[bK j]
  have eB:J0 c x n i m=Cn c x.st (Zh x.tb n) i m:=by unfold J0;rw[bK j]
  rw[bK j] at l;rw[eX] at J⊢;rw[eE,eB];obtain⟨bv,u,rfl,D,O,o,p⟩:=l;obtain⟨ra,rc,rfl,hr,E⟩:=D;have r:¬Ah P b:=λe=>by rcases e with e|e <;> omega
  have s:=p.heap U (show ¬Ye F P b from λe=>by
   rcases e with e|e
   .have:=B b e;omega
   .exact r e)
  have G:¬u b:=λe=>by
   rcases o b e with e|e
   .have:=B b e;omega
   .omega
  refine bF s Y λw5 I f V=>?_;exact aK func19 I Y ⟨_,u,_,rfl,(((show Yi T.heap.size u _ (.slice ra _ rc) _ from⟨ra,rc,rfl,hr,E⟩).bR f (λq e=>.inl (.inl X))).low M (λ_ _ _ h=>h)),⟨(O.boxed G X ⟨r,X⟩ (X2 s) xD f),rfl,J⟩,λq A=>(o q A).imp id X,((g.gr.trans p)).sn f,rfl⟩
 .have eX:E8 c x n i m=x:=by unfold E8;rw[bJ j]
  have eE:B8 x n i m=X1 x.tb n:=by unfold B8;rw[bJ j]
  have eB:J0 c x n i m=[]:=by unfold J0;rw[bJ j]
  rw[bJ j] at l;rw[eX,eE,eB,YL];obtain⟨bv,u,rfl,D,O,o,p⟩:=l;obtain⟨ra,rc,rfl,hr,E⟩:=D;have r:¬Ah P b:=λe=>by rcases e with e|e <;> omega
  have s:=p.heap U (show ¬Ye F P b from λe=>by
   rcases e with e|e
   .have:=B b e;omega
   .exact r e)
  have G:¬u b:=λe=>by
   rcases o b e with e|e
   .have:=B b e;omega
   .omega
  refine bF s Y λw5 I f V=>?_;exact aK func19 I Y ⟨_,u,_,rfl,(((show Yi T.heap.size u _ (.slice ra _ rc) _ from⟨ra,rc,rfl,hr,E⟩).bR f (λq e=>.inl (.inl X))).low M (λ_ _ _ h=>h)),⟨(O.boxed G X ⟨r,X⟩ (X2 s) xD f),rfl,h.ok⟩,λq A=>(o q A).imp id X,((g.gr.trans p)).sn f,rfl⟩
theorem Xe4(h:Hv c n0 w0 w F S H P x)(n i:Int)(ba:Option dF)(bc:Nat)(l:List Int)(hn : -9223372036854775808<=n/\n<=9223372036854775807)(hi : -9223372036854775808<=i/\i<=9223372036854775807)(hr:Rd .u8 w ba l)(hlc:l.length<=bc)(hl:l.length<=9223372036854775807)(hin:Qo l)(hout:0<l.length->Xj F ba):Xe prog 22 #[Dc H,W n,W i,.slice ba l.length bc] w
 (Le c n0 w0 w F S H P (E9 c x n i l) (B8 x n i l.length) 0 (0+(1+((E9 c x n i l).st.rm.tot-x.st.rm.tot))) []):=by
 have G:=h.hm.low';have a3:=h.hm.since0;have a4:=h.hm.tb.lt;have a5:=Xg h.hm.obj;have I:=h.ok.write n i hin;refine aR func22 ntmps22 Y (bC Y λa w1 e1 V O a6=>bC Y λd w2 e2 hd J a7=>bC Y λd' a8 a9 Q t a1=>bC Y λb R e3 T y aa=>?_);have K:=y.bP (t.bP (J.bP V));have f:=((O.trans J).trans t).trans y;have L:=f.size;have M:=h.bQ f;refine bB K Y (aP Y (Ur M.hm M.dA n hn (k:=60) (cap:=[xV a,xV d,xV d']) (z:=0) X (λu w' m=>Xkm (M.hm.bQ m) (Zh x.tb n) i ba bc l hi ((hr.bR f).bR m) hlc hl hin hout (m.cell (Cr (off:=0) K rfl) id) (m.cell (Cr (off:=0) (y.bP (t.bP hd)) rfl) id) (m.cell (Cr (off:=0) (y.bP Q) rfl) id))) ?_);rintro _ w4 j;refine aN Y ?_;by_cases u:X1 x.tb n=0
 .have eX:E9 c x n i l=⟨Cx c x.st (Zh x.tb n) i l,x.tb⟩:=by unfold E9;rw[bK u]
  have eE:B8 x n i l.length=Qt x.st (Zh x.tb n) i l.length:=by unfold B8;rw[bK u]
  rw[bK u] at j;rw[eX] at I⊢;rw[eE];obtain⟨bv,v,rfl,A,N,o,p⟩:=j;obtain⟨ra,rc,rfl,hr,B⟩:=A;have r:¬Ah P b:=λe=>by rcases e with e|e <;> omega
  have s:=p.heap T (show ¬Ye F P b from λe=>by
   rcases e with e|e
   .have:=G b e;omega
   .exact r e)
  have C:¬v b:=λe=>by
   rcases o b e with e|e
   .have:=G b e;omega
   .omega
  refine bF s Y λw5 D g U=>?_;exact aK func22 D Y ⟨_,v,_,rfl,(((show Yi R.heap.size v _ (.slice ra _ rc) _ from⟨ra,rc,rfl,hr,B⟩).bR g (λq e=>.inl (.inl X))).low L (λ_ _ _ h=>h)),⟨(N.boxed C X ⟨r,X⟩ (X2 s) xD g),rfl,I⟩,λq E=>(o q E).imp id X,((f.gr.trans p)).sn g,rfl⟩
 .have eX:E9 c x n i l=x:=by unfold E9;rw[bJ u]
  have eE:B8 x n i l.length=X1 x.tb n:=by unfold B8;rw[bJ u]
  rw[bJ u] at j;rw[eX,eE,YL];obtain⟨bv,v,rfl,A,N,o,p⟩:=j;obtain⟨ra,rc,rfl,hr,B⟩:=A;have r:¬Ah P b:=λe=>by rcases e with e|e <;> omega
  have s:=p.heap T (show ¬Ye F P b from λe=>by
   rcases e with e|e
   .have:=G b e;omega
   .exact r e)
  have C:¬v b:=λe=>by
   rcases o b e with e|e
   .have:=G b e;omega
   .omega
  refine bF s Y λw5 D g U=>?_;exact aK func22 D Y ⟨_,v,_,rfl,(((show Yi R.heap.size v _ (.slice ra _ rc) _ from⟨ra,rc,rfl,hr,B⟩).bR g (λq e=>.inl (.inl X))).low L (λ_ _ _ h=>h)),⟨(N.boxed C X ⟨r,X⟩ (X2 s) xD g),rfl,h.ok⟩,λq E=>(o q E).imp id X,((f.gr.trans p)).sn g,rfl⟩
theorem Xki(h:Hv c n0 w0 w F S H P x)(n size:Int)(hn : -9223372036854775808<=n/\n<=9223372036854775807):Xe prog 23 #[Dc H,W n,W size] w
 (Le c n0 w0 w F S H P (Gm c x n size) (I8 c x n size) 0 (0+(1+((Gm c x n size).st.rm.tot-x.st.rm.tot))) []):=by
 have C:=h.hm.low';have U:=h.hm.since0;have V:=h.hm.tb.lt;have a0:=Xg h.hm.obj;have D:=h.ok.resize n size;refine aR func23 ntmps23 Y (bC Y λa w1 e1 Q L a1=>bC Y λd w2 e2 R E a2=>bC Y λb M e3 N s a3=>?_);have G:=s.bP (E.bP Q);have g:=(L.trans E).trans s;have I:=g.size;have J:=h.bQ g;refine bB G Y (aP Y (Ur J.hm J.dA n hn (k:=62) (cap:=[xV a,xV d]) (z:=0) X (λp w' t=>Xkj (J.hm.bQ t) (Zh x.tb n) size (t.cell (Cr (off:=0) G rfl) id) (t.cell (Cr (off:=0) (s.bP R) rfl) id))) ?_);rintro _ w4 i;refine aN Y ?_;by_cases p:X1 x.tb n=0
 .have eX:Gm c x n size=⟨Q7 c x.st (Zh x.tb n) size,x.tb⟩:=by unfold Gm;rw[bK p]
  have eE:I8 c x n size=A2 c x.st (Zh x.tb n) size:=by unfold I8;rw[bK p]
  rw[bK p] at i;rw[eX] at D⊢;rw[eE];obtain⟨bv,r,rfl,u,K,j,l⟩:=i;obtain⟨ra,rc,rfl,hr,v⟩:=u;have m:¬Ah P b:=λe=>by rcases e with e|e <;> omega
  have o:=l.heap N (show ¬Ye F P b from λe=>by
   rcases e with e|e
   .have:=C b e;omega
   .exact m e)
  have y:¬r b:=λe=>by
   rcases j b e with e|e
   .have:=C b e;omega
   .omega
  refine bF o Y λT A f O=>?_;exact aK func23 A Y ⟨_,r,_,rfl,(((show Yi M.heap.size r _ (.slice ra _ rc) _ from⟨ra,rc,rfl,hr,v⟩).bR f (λq e=>.inl (.inl X))).low I (λ_ _ _ h=>h)),⟨(K.boxed y X ⟨m,X⟩ (X2 o) xD f),rfl,D⟩,λq B=>(j q B).imp id X,((g.gr.trans l)).sn f,rfl⟩
 .have eX:Gm c x n size=x:=by unfold Gm;rw[bJ p]
  have eE:I8 c x n size=X1 x.tb n:=by unfold I8;rw[bJ p]
  rw[bJ p] at i;rw[eX,eE,YL];obtain⟨bv,r,rfl,u,K,j,l⟩:=i;obtain⟨ra,rc,rfl,hr,v⟩:=u;have m:¬Ah P b:=λe=>by rcases e with e|e <;> omega
  have o:=l.heap N (show ¬Ye F P b from λe=>by
   rcases e with e|e
   .have:=C b e;omega
   .exact m e)
  have y:¬r b:=λe=>by
   rcases j b e with e|e
   .have:=C b e;omega
   .omega
  refine bF o Y λT A f O=>?_;exact aK func23 A Y ⟨_,r,_,rfl,(((show Yi M.heap.size r _ (.slice ra _ rc) _ from⟨ra,rc,rfl,hr,v⟩).bR f (λq e=>.inl (.inl X))).low I (λ_ _ _ h=>h)),⟨(K.boxed y X ⟨m,X⟩ (X2 o) xD f),rfl,h.ok⟩,λq B=>(j q B).imp id X,((g.gr.trans l)).sn f,rfl⟩
theorem Xkl(h:Hv c n0 w0 w F S H P x):Xe prog 30 #[Dc H] w (Le c n0 w0 w F S H P (Lo c x) 0 0 ((Lo c x).st.rm.tot-x.st.rm.tot) []):=by
 have t:=h.hm.low';have E:=h.hm.since0;have G:=h.hm.tb.lt;have I:=Xg h.hm.obj;have u:=h.ok.tick;refine aR func30 ntmps30 Y (bC Y λb L e1 B d J=>?_);have o:=h.hm.bQ d;refine bB o.obj Y ?_;refine aP rfl (Xk1 o.lv) ?_;rintro _ M ⟨rfl,v⟩;refine aN Y ?_;obtain⟨y,p,f,g⟩:=o.store v;have z:=p.obj;refine bB z Y (aP Y (Vb p.lv) ?_);rintro _ N ⟨rfl,A,a,i⟩;refine aN Y ?_;have C:=p.cM A a i;have j:¬Ah P b:=λe=>by rcases e with e|e <;> omega
 have k:¬y b:=λe=>by
  rcases f b e with e|e
  .have:=t b e;omega
  .omega
 have l:=a.heap (g.heap B (show ¬Ye F P b from λe=>by
  rcases e with e|e
  .have:=t b e;omega
  .exact j e)) (λe=>k (e▸i))
 refine aO Y (bF l Y λO m n K=>?_);have D:=C.boxed k X ⟨j,X⟩ (X2 l) xD n;have r:=((d.gr.trans g).bU a (λq s e=>.inl (e▸h.hm.lv.mb))).sn n;rw[h.dA] at m;exact bD rfl func30 (Xi.cell rfl rfl rfl m rfl .nil) ⟨_,y,_,rfl,.none _ _ _,⟨D,rfl,u⟩,λq s=>(f q s).imp id X,r,rfl⟩
theorem Xkk(h:Hv c n0 w0 w F S H P x)(k bV:Int):Xe prog 31 #[Dc H,W k,W bV] w (Le c n0 w0 w F S H P (Ii x k bV) (Cd x.st k bV) 0 ((Ii x k bV).st.rm.tot-x.st.rm.tot) []):=by
 have u:=h.hm.low';have G:=h.hm.since0;have I:=h.hm.tb.lt;have J:=Xg h.hm.obj;have v:=h.ok.set k bV;refine aR func31 ntmps31 Y (bC Y λb M e1 C d K=>?_);have p:=h.hm.bQ d;refine bB p.obj Y ?_;refine aP rfl (Xk0 p.lv k bV) ?_;rintro _ N ⟨rfl,y⟩;refine aN Y ?_;obtain⟨z,r,f,g⟩:=p.store y;have A:=r.obj;refine bB A Y (aP Y (Vb r.lv) ?_);rintro _ O ⟨rfl,B,a,i⟩;refine aN Y ?_;have D:=r.cM B a i;have j:¬Ah P b:=λe=>by rcases e with e|e <;> omega
 have l:¬z b:=λe=>by
  rcases f b e with e|e
  .have:=u b e;omega
  .omega
 have m:=a.heap (g.heap C (show ¬Ye F P b from λe=>by
  rcases e with e|e
  .have:=u b e;omega
  .exact j e)) (λe=>l (e▸i))
 refine aO Y (bF m Y λQ n o L=>?_);have E:=D.boxed l X ⟨j,X⟩ (X2 m) xD o;have s:=((d.gr.trans g).bU a (λq t e=>.inl (e▸h.hm.lv.mb))).sn o;rw[h.dA] at n;exact bD rfl func31 (Xi.cell rfl rfl rfl n rfl .nil) ⟨_,z,_,rfl,.none _ _ _,⟨E,rfl,v⟩,λq t=>(f q t).imp id X,s,rfl⟩
theorem Xbn(h:Hv c n0 w0 w F S H P x)(size:Int):Xe prog 26 #[Dc H,W size] w (Le c n0 w0 w F S H P (Bb c x size) (Ci c x size) (D9 c x size) (Ds c x size) []):=by
 have J:=h.hm.low';have a3:=h.hm.since0;have a4:=h.hm.tb.lt;have a5:=Xg h.hm.obj;have m:=h.ok.alloc size;refine aR func26 ntmps26 Y (bC Y λb w1 e1 r k a6=>?_);have D:=h.hm.bQ k;refine bB D.obj Y (bG (XkU D.lv size) Y λw2 d=>?_);have i:=D.bQ d;by_cases e3:Ys c x.st size=3
 .have a:¬Gz c x size:=λa=>xH a.1
  have eX:Bb c x size=x:=by unfold Bb;rw[bJ a]
  have eE:Ci c x size=3:=by unfold Ci;rw[bK e3]
  have eH:D9 c x size=0:=by unfold D9;rw[bJ a]
  have eK:Ds c x size=0:=by unfold Ds;rw[bJ a]
  rw[eX,eE,eH,eK,e3];refine aS Y (bI Y (aO Y (bF (d.bP r) Y λE f l t=>?_)));have g:=(k.trans d).sn l;exact aK func26 f Y ⟨_,F,S,rfl,.none _ _ _,h.bQ g,λ_ h=>.inl h,g.gr,rfl⟩
 refine bI Y (bB i.obj Y (bH (XlY i.tb) Y ?_));by_cases e4:x.tb.fl=[]
 .have a:¬Gz c x size:=λa=>a.2 e4;have eX:Bb c x size=x:=by unfold Bb;rw[bJ a]
  have eE:Ci c x size=4:=by unfold Ci;rw[bJ e3,bK e4]
  have eH:D9 c x size=0:=by unfold D9;rw[bJ a]
  have eK:Ds c x size=0:=by unfold Ds;rw[bJ a]
  rw[eX,eE,eH,eK,e4];refine bI Y (aO Y (bF (d.bP r) Y λE f l t=>?_));have g:=(k.trans d).sn l;exact aK func26 f Y ⟨_,F,S,rfl,.none _ _ _,h.bQ g,λ_ h=>.inl h,g.gr,rfl⟩
 have a7:=List.length_pos_iff.2 e4;refine aS Y ?_;by_cases s:Ys c x.st size=0
 .have a:Gz c x size:=⟨s,e4⟩;obtain⟨j,K,g2,g3,g4,V⟩:=h.ok.goes a;have eX:Bb c x size=⟨Q1 c x.st (C7 x.tb) size,Ez x.tb⟩:=by unfold Bb;rw[bK a]
  have eE:Ci c x size=0:=by unfold Ci;rw[bJ e3,bJ e4,s]
  have eH:D9 c x size=Ma x.tb:=by unfold D9;rw[bK a]
  have eK:Ds c x size=2+((Bb c x size).st.rm.tot-x.st.rm.tot):=by unfold Ds;rw[bK a]
  rw[eX] at m eK⊢;rw[eE,eH,eK,s];refine aS Y (bB i.obj Y (aP Y (Xl1 i.tb e4) ?_));rintro _ wt ⟨rfl,L,M⟩;refine aN Y ?_;obtain⟨Ft,ht,N,G⟩:=i.table L M;have O:=ht.obj;refine bB O Y ?_;refine aP rfl (XkS ht.lv (C7 x.tb) size) ?_;rintro _ wa ⟨rfl,Q⟩;refine aN Y ?_;rw[K,V];have o:=(Js.seq N G (ht.store Q)).up d;rw[K] at o m;have a8:0<=(Q1 c x.st (j:Nat) size).rm.tot/\(Q1 c x.st (j:Nat) size).rm.tot<=4611686018427387904:=m.st.rm.ok.tot;have a0:=h.hm.lv.inv.rm.ok.tot;obtain⟨R,i,u,v⟩:=o;have T:=i.obj;refine Xa.cJ Xb rfl T rfl rfl ?_;refine aP rfl (Vb i.lv) ?_;rintro _ E ⟨rfl,U,p,y⟩;refine aN rfl ?_;have h3:=i.cM U p y;have z:¬Ah P b:=λe=>by rcases e with e|e <;> omega
  have A:¬R b:=λe=>by
   rcases u b e with e|e
   .have:=J b e;omega
   .omega
  have f:=p.heap (v.heap r (show ¬Ye F P b from λe=>by
   rcases e with e|e
   .have:=J b e;omega
   .exact z e)) (λe=>A (e▸y))
  refine Xa.arith Xb rfl (w64 (by rw[h.dA];omega)) rfl ?_;refine aO Y (bF f Y λw5 B C a9=>?_);have h5:=h3.boxed A X ⟨z,X⟩ (X2 f) xD C;have I:=((k.gr.trans v).bU p (λq n e=>.inl (e▸h.hm.lv.mb))).sn C;rw[h.dA] at B;exact bD rfl func26 (Xi.cell rfl rfl rfl B rfl .nil) ⟨_,R,_,rfl,.none _ _ _,⟨h5,rfl,m⟩,λq n=>(u q n).imp id X,I,rfl⟩
 .have a:¬Gz c x size:=λa=>s a.1;have eX:Bb c x size=x:=by unfold Bb;rw[bJ a]
  have eE:Ci c x size=Ys c x.st size:=by unfold Ci;rw[bJ e3,bJ e4]
  have eH:D9 c x size=0:=by unfold D9;rw[bJ a]
  have eK:Ds c x size=0:=by unfold Ds;rw[bJ a]
  rw[eX,eE,eH,eK];refine bI Y (aO Y (bF (d.bP r) Y λE f l t=>?_));have g:=(k.trans d).sn l;exact aK func26 f Y ⟨_,F,S,rfl,.none _ _ _,h.bQ g,λ_ h=>.inl h,g.gr,rfl⟩
end
theorem Xe2(c:Conf)(p:Yz)(w:dD)(hc:Yd w c p)(ht:Bk w)(hm:Xy c=true):Xe prog 24 #[.agg (X5 c p).toArray] w (λv w'=>∃n0 F S H P,v=.tuple #[Dc H,W 0]/\Hv c n0 w w' F S H P (Ha c)/\Xc Xf w w'/\w.heap.size<=n0/\n0<=w'.heap.size/\S.p=p):=by
 have q:(1<=c.cN/\c.cN<=4096)/\1<=c.cS/\c.cS<=1023:=by
  have hm:=hm;unfold Xy at hm;simp only[XI,decide_eq_true_eq,Qu] at hm;omega
 refine aR func24 ntmps24 Y (bC Y λb x e1 r g C=>?_);refine bB r Y (aP Y (XkX c p x (hc.bR g) (ht.bQ g) hm) ?_);rintro _ m ⟨F,S,rfl,k,n,s,h⟩;have i:=h.bP r;refine aN Y (aS Y (bB i Y (bB i Y ?_)));obtain⟨N,o⟩:=XE (show 0<=c.cN by omega);rw[o];refine aP Y (Xl0 N c.cS m X q.2) ?_;rintro _ I ⟨P,rfl,t,y,j⟩;refine aN Y (bB (j.bP i) Y (aO Y (bC Y λH A e4 B l D=>?_)));have E:=h.size;have G:=j.size;have a:=k.low;have d:=j.trans l;have u:Hm c m.heap.size w A F S H P (Es c) (Cu N c.cS):=
  ⟨{(k.bQ d) with base:=λz f=>xH (k.base z f),bR:=((g.trans h).trans d)},by rw[B];rfl,by rw[o];exact y.bQ l,⟨⟨t.1,t.2⟩,X,X⟩,
   λf=>xH (a _ f),λf=>xH (a _ f),λf=>xH (a _ f)⟩
 have eN:Ha c=⟨Es c,Cu N c.cS⟩:=by unfold Ha;rw[o]
 exact bE func24 Y ⟨m.heap.size,F,S,H,P,rfl,⟨by rw[eN];exact u,by rw[eN];exact n,Xlk hm k.inv.rm⟩,(g.trans h).trans d,X,X,s⟩
def Aw:Conf:=⟨64,4,[32],[0],8,5,3,128⟩
def Us:List Int:=[104,105]
def Ro:HpM:=Ha Aw
def aw23x1:HpM:=Bb Aw Ro 20
def aw23x2:HpM:=E9 Aw aw23x1 4096 0 Us
def aw23x3:HpM:=E8 Aw aw23x2 4096 0 3
def aw23x4:HpM:=Bs Aw aw23x3 4096
def aw23x5:HpM:=Bs Aw aw23x4 4096
def aw23x6:HpM:=Bb Aw aw23x5 0
theorem Xi3:Xy Aw=true:=xK
theorem XaK:Ci Aw Ro 20=0/\D9 Aw Ro 20=4096/\Ds Aw Ro 20=41:=⟨xK,xK,xK⟩
theorem XdT:B8 aw23x1 4096 0 2=0/\0+(1+(aw23x2.st.rm.tot-aw23x1.st.rm.tot))=3:=⟨xK,xK⟩
theorem XaL:B8 aw23x2 4096 0 3=0/\0+(1+(aw23x3.st.rm.tot-aw23x2.st.rm.tot))=4/\J0 Aw aw23x2 4096 0 3=[104,105,0]:=⟨xK,xK,xK⟩
theorem XdU:Zy aw23x3.st=20/\((Zd aw23x3.st.rm.pl:Nat):Int)*64=64:=⟨xK,xK⟩
theorem XaM:X1 aw23x3.tb 4096=0/\2+(1+(aw23x4.st.rm.tot-aw23x3.st.rm.tot))=10:=⟨xK,xK⟩
theorem XaN:X1 aw23x4.tb 4096=6/\0+(1+(aw23x5.st.rm.tot-aw23x4.st.rm.tot))=1:=⟨xK,xK⟩
theorem Xi2:Ci Aw aw23x5 0=3:=xK
theorem XaO:Zy aw23x6.st=0/\((Zd aw23x6.st.rm.pl:Nat):Int)*64=0/\Xc0 aw23x6.tb=0:=⟨xK,xK,xK⟩
theorem Xi4:(FloatKind.format .f64).div (FloatKind.nearest .f64 20) (FloatKind.nearest .f64 64)=some 4599301119452119040:=xK
theorem Rd.of23{k:IntKind}{w:dD}{c:Array dE}{t:TypeId}(h:w.heap[b]?=some (.cells c t fz))(hc:c=(zs.map (Value.int k)).toArray):Rd k w (some ⟨b,0,none⟩) zs:=λi hi=>
 ⟨b,0,rfl,by rw[Yx h,hc];simp[hi]⟩
section
variable {c:Conf}{n0:Nat}{w0 w w1 w2 w':dD}{F F':Nat->Prop}{S:Sto}{H:Nat}{P:A7}{x:HpM}
theorem Hv.off(h:Hv c n0 w0 w F S H P x)(hb:w.heap.size<=b):¬Ye F P b:=λe=>by
 have a:=h.hm.tb.lt;rcases e with e|e|e
 .have:=h.hm.low' b e;omega
 .omega
 .omega
theorem Hv.fresh(h:Hv c n0 w0 w F S H P x)(hc:Xc Xf w w1)(hb:w.heap.size<=b)(hk:kd w1 b=some (some ty))(ht:ty≠352/\ty≠348/\ty≠3)(hst:Xc (λq=>q=b) w1 w2):Hv c n0 w0 w2 F S H P x:=by
 have f:=h.hm.since0;have d:=Xg h.hm.obj;have a:=h.off hb;exact(h.bQ hc).boxed (λe=>a (.inl e)) X ⟨λe=>a (.inr e),X⟩ hk ht hst
theorem Gn{o:Obj}(h:w.heap[b]?=some o)(hn:¬Ye F P b)(hc:Xc (Ye F P) w w')(hF:∀z,F' z->F z\/w.heap.size<=z):w'.heap[b]?=some o/\¬Ye F' P b:=
 ⟨hc.heap h hn,λe=>e.elim (λe=>(hF b e).elim (λg=>hn (.inl g)) (λg=>xH (Xg h))) (λe=>hn (.inr e))⟩
theorem Yi.op{b:dE}(h:Yi n F l b w)(hP:P.tb<n/\P.sb<n)(hc:Xc (Ye F P) w w')(hF:∀z,F' z->F z\/w.heap.size<=z):Yi n F' l b w':=by
 obtain⟨a,cap,e,hr,f⟩:=h;obtain⟨j,d,e2,i,c⟩:=((show Yi n F l b w from⟨a,cap,e,hr,f⟩).bR hc (λz k=>k.elim .inr (λe=>.inl (.inl (by rcases e with e|e <;> omega)))));have e3:a=j:=by rw[e] at e2;cases e2;rfl
 subst e3;exact⟨a,d,e2,i,λb' off s' e=>⟨(c b' off s' e).1,λg=>(hF b' g).elim (c b' off s' e).2 (λg=>xH (f b' off s' e).1)⟩⟩
end
theorem XkG(w:dD):Xe prog 25 #[] w (λv w'=>∃p,v=.agg (X5 Aw p).toArray/\Yd w' Aw p/\Xc Xf w w'):=by
 refine aR func25 ntmps25 Y (bC Y λb x e1 m f q=>Xa.buildSlice Xb rfl λg y e2 h d r=>aN Y (Xa.buildSlice Xb rfl λi z e3 j a s=>aN Y (aO Y (bF (a.bP (d.bP m)) Y λn l c t=>?_))));have o:Yd n Aw ⟨some ⟨g,0,none⟩,1,some ⟨i,0,none⟩,1⟩:=
  ⟨Rd.of23 (c.heap (a.bP h) X) rfl,Rd.of23 (c.heap j X) rfl,xD,xD,by unfold Oc;decide⟩
 exact aK func25 l Y ⟨⟨some ⟨g,0,none⟩,1,some ⟨i,0,none⟩,1⟩,rfl,o,((f.trans d).trans a).sn c⟩
theorem XkC(w:dD)(ht:Bk w):Xe prog 6 #[] w (Grow (.bool true) w):=by
 refine aR func6 ntmps6 Y (aP Y (XkG w) ?_);rintro _ ws ⟨p,rfl,bf,aa⟩;refine aN Y (aP Y (Xe2 Aw p ws bf (ht.bQ aa) Xi3) ?_);rintro _ w0 ⟨n0,F,S,H,P,rfl,h0,dm,_,_⟩;refine aN Y ?_;have ab:=Xbn h0 20;rw[show Ha Aw=Ro from rfl,XaK.1,XaK.2.1,XaK.2.2] at ab;refine aP Y (ab) ?_;rintro _ dn ⟨dp,F1,S1,rfl,bg,ac,dq,dr,_⟩;refine aN Y ?_;obtain⟨ds,dt,rfl,du,cw⟩:=bg;refine bC Y λN dv dw ad b9 cx=>bF ad Y λbh ae ba cy=>?_;have h1:=ac.fresh b9 X (X2 ad) xD ba;have bi:=ac.off (b:=N) X;replace h1:Hv Aw n0 ws bh F1 S1 H P aw23x1:=h1;refine bB ae Y (Xa.buildSlice Xb rfl λhb w4 e4 bk bm dx=>aN Y (Xa.mark Xb rfl bk λw5 dy bb bn dz=>aN Y ?_));have R:=bm.sn bn;have h5:=h1.bQ R;have af:=Xe4 h5 4096 0 (some ⟨hb,0,none⟩) 2 Us xD xD (Rd.of23 bb rfl) xD xD (by unfold Qo;decide) (λ_ b off s e hz=>by cases e;exact h1.off (b:=hb) X (.inl hz));rw[show B8 aw23x1 4096 0 (Us.length:Nat)=0 from XdT.1,show E9 Aw aw23x1 4096 0 Us=aw23x2 from rfl,XdT.2] at af;have u:=R.bP ae;have T:=bi;refine aP Y (af) ?_;rintro _ e0 ⟨e1,F2,S2,rfl,bp,ag,bq,ah,_⟩;refine aN Y ?_;obtain⟨e2,e3,rfl,e5,d0⟩:=bp;refine bC Y λO e6 e7 ai U d1=>bF ai Y λbr bs V d2=>?_;have h2:=ag.fresh U X (X2 ai) xD V;have bt:=ag.off (b:=O) X;have d3:=ah.size;obtain⟨D,bu⟩:=Gn u T ah bq;replace D:=V.heap (U.bP D) (show ¬N=O by omega);refine bB D Y ?_;have aj:=Xe3 h2 4096 0 3 xD xD xD;rw[XaL.1,show E8 Aw aw23x2 4096 0 3=aw23x3 from rfl,XaL.2.1,XaL.2.2] at aj;refine aP Y (aj) ?_;rintro _ bv ⟨e8,F3,S3,rfl,a,ak,al,a0,_⟩;refine aN Y ?_;obtain⟨am,an,rfl,bw,bd⟩:=a;refine bC Y λA e9 ea ao r d5=>bF ao Y λeb bx t d6=>?_;have h3:=ak.fresh r X (X2 ao) xD t;have c0:=ak.off (b:=A) X;have d7:=a0.size;obtain⟨a1,c1⟩:=Gn D bu a0 al;replace a1:=t.heap (r.bP a1) (show ¬N=A by omega);obtain⟨a2,c2⟩:=Gn bs bt a0 al;replace a2:=t.heap (r.bP a2) (show ¬O=A by omega);have a:Yi br.heap.size F3 [104,105,0] (.slice am 3 an) bv:=⟨am,an,rfl,bw,bd⟩;replace a:=a.bR (xX:=λq=>q=A) (r.gr.trans t) (λq e=>.inl (.inr X));have ap:=Xe1 h3.hm;rw[XdU.1,show((Zd aw23x3.st.rm.pl:Nat):Int)*Aw.size=64 from XdU.2] at ap;refine aP Y (ap) ?_;rintro _ wf ⟨fl,rfl,hq,m⟩;refine aN Y ?_;unfold L0 at hq;rw[Xi4] at hq;subst hq;have hf:=h3.bQ m;have d8:=m.size;have aq:=m.bP a1;have c3:=m.bP a2;have c4:=m.bP bx;have c5:=c1;have c6:=c2;have c7:=c0;replace a:=a.bR m (λq e=>e.elim);refine bB aq Y ?_;have ar:=Xbo hf 4096 xD;rw[show Bs Aw aw23x3 4096=aw23x4 from rfl,bK XaM.1,XaM.1,XaM.2] at ar;refine aP Y (ar) ?_;rintro _ ec ⟨ed,F4,S4,rfl,c8,au,E,x,_⟩;refine aN Y ?_;obtain⟨ee,ef,rfl,eg,d9⟩:=c8;refine bC Y λB eh ei av j da=>bF av Y λej c9 k db=>?_;have h4:=au.fresh j X (X2 av) xD k;have ca:=au.off (b:=B) X;have dd:=x.size;obtain⟨G,cb⟩:=Gn aq c5 x E;replace G:=k.heap (j.bP G) (show ¬N=B by omega);obtain⟨a3,cc⟩:=Gn c3 c6 x E;replace a3:=k.heap (j.bP a3) (show ¬O=B by omega);obtain⟨a4,cd⟩:=Gn c4 c7 x E;replace a4:=k.heap (j.bP a4) (show ¬A=B by omega);replace a:=a.op (by have:=h2.hm.tb.lt;exact this) x E;replace a:=a.bR (xX:=λq=>q=B) (j.gr.trans k) (λq e=>.inl (.inr X));refine bB G Y ?_;have aw:=Xbo h4 4096 xD;rw[show Bs Aw aw23x4 4096=aw23x5 from rfl,bJ (by rw[XaN.1];decide),XaN.1,XaN.2] at aw;refine aP Y (aw) ?_;rintro _ ek ⟨el,F5,S5,rfl,ce,ax,y,n,_⟩;refine aN Y ?_;obtain⟨em,en,rfl,eo,de⟩:=ce;refine bC Y λC ep er ay g df=>bF ay Y λes cf i dg=>?_;have h5:=ax.fresh g X (X2 ay) xD i;have cg:=ax.off (b:=C) X;have dh:=n.size;obtain⟨u,T⟩:=Gn G cb n y;replace u:=i.heap (g.bP u) (show ¬N=C by omega);obtain⟨a5,ch⟩:=Gn a3 cc n y;replace a5:=i.heap (g.bP a5) (show ¬O=C by omega);obtain⟨a6,ci⟩:=Gn a4 cd n y;replace a6:=i.heap (g.bP a6) (show ¬A=C by omega);obtain⟨a7,cj⟩:=Gn c9 ca n y;replace a7:=i.heap (g.bP a7) (show ¬B=C by omega);replace a:=a.op (by have:=h2.hm.tb.lt;exact this) n y;replace a:=a.bR (xX:=λq=>q=C) (g.gr.trans i) (λq e=>.inl (.inr X));have az:=Xbn h5 0;rw[show Bb Aw aw23x5 0=aw23x6 from rfl,Xi2] at az;refine aP Y (az) ?_;rintro _ et ⟨eu,F6,S6,rfl,ck,cl,o,l,_⟩;refine aN Y ?_;obtain⟨ew,ex,rfl,ey,di⟩:=ck;refine bC Y λQ f0 f1 b0 d dj=>bF b0 Y λf2 cm f dk=>?_;have h6:=cl.fresh d X (X2 b0) xD f;have dl:=l.size;obtain⟨I,f3⟩:=Gn u T l o;replace I:=f.heap (d.bP I) (show ¬N=Q by omega);obtain⟨J,f4⟩:=Gn a5 ch l o;replace J:=f.heap (d.bP J) (show ¬O=Q by omega);obtain⟨K,f5⟩:=Gn a6 ci l o;replace K:=f.heap (d.bP K) (show ¬A=Q by omega);obtain⟨L,f6⟩:=Gn a7 cj l o;replace L:=f.heap (d.bP L) (show ¬B=Q by omega);obtain⟨M,f7⟩:=Gn cf cg l o;replace M:=f.heap (d.bP M) (show ¬C=Q by omega);replace a:=a.op (by have:=h2.hm.tb.lt;exact this) l o;replace a:=a.bR (xX:=λq=>q=Q) (d.gr.trans f) (λq e=>.inl (.inr X));have b7:=Xe1 h6.hm;rw[XaO.1,show((Zd aw23x6.st.rm.pl:Nat):Int)*Aw.size=0 from XaO.2.1] at b7;refine aP Y (b7) ?_;rintro _ wg ⟨fg,rfl,co,c⟩;refine aN Y ?_;have cp:=(XlJ co).2;have hg:=h6.bQ c;refine bI Y (bB (c.bP I) Y (bI Y (bB (c.bP I) Y (bI Y (bB (c.bP J) Y (bI Y (bB (c.bP J) Y (bI Y (bB (c.bP K) Y ?_)))))))));obtain⟨rz,cz,ez,cr,_⟩:=a;cases ez
 refine Xa.bstrN Xb ([104,105,0]) rfl rfl ((cr.bR c)) rfl (Xa.streq Xb rfl (rfl) rfl (bI Y (bB (c.bP K) Y (bI Y (Xa.fcmp Xb rfl (v:=true) rfl rfl (bI Y (bB (c.bP L) Y (bI Y (bB (c.bP L) Y (bI Y (bB (c.bP M) Y (bI Y (bB (c.bP M) Y (bI Y (bB (c.bP cm) Y (bI Y (Xa.fcmp Xb rfl cp rfl (bI Y ?_))))))))))))))))));have b8:=Xkg hg.hm;rw[XaO.2.2] at b8;exact bH b8 Y (bE func6 Y ⟨rfl,aa.trans hg.hm.lv.bR⟩)
structure Eg where
 kind:Int
 h:Int
 a:Int
 b:Int
 bs:List Int
 ba:Option dF
 bc:Nat
def Et(u:Eg):List dE:=[.int .i64 u.kind,.int .i64 u.h,.int .i64 u.a,.int .i64 u.b,.slice u.ba u.bs.length u.bc]
structure I2(w:dD)(u:Eg):Prop where
 kind : -9223372036854775808<=u.kind/\u.kind<=9223372036854775807
 h : -9223372036854775808<=u.h/\u.h<=9223372036854775807
 a : -9223372036854775808<=u.a/\u.a<=9223372036854775807
 b : -9223372036854775808<=u.b/\u.b<=9223372036854775807
 rd:Rd .u8 w u.ba u.bs
 rng:Qo u.bs
 lc:u.bs.length<=u.bc
 len:u.bc<=9223372036854775807
theorem I2.bQ{u:Eg}(h:I2 w u)(hc:Xc Xf w w'):I2 w' u:=⟨h.kind,h.h,h.a,h.b,h.rd.bR hc,h.rng,h.lc,h.len⟩
def Zg(c:Conf)(x:HpM)(u:Eg):HpM:=
 if u.kind=1 then Bb c x u.a else if u.kind=2 then Bs c x u.h else if u.kind=3 then E8 c x u.h u.a u.b else if u.kind=4 then E9 c x u.h u.a u.bs
 else if u.kind=5 then Gm c x u.h u.a else if u.kind=6 then Lo c x else Ii x u.a u.b
def Qj(c:Conf)(x:HpM)(u:Eg):Int:=
 if u.kind=1 then Ci c x u.a else if u.kind=2 then X1 x.tb u.h else if u.kind=3 then B8 x u.h u.a u.b else if u.kind=4 then B8 x u.h u.a u.bs.length
 else if u.kind=5 then I8 c x u.h u.a else if u.kind=6 then 0 else Cd x.st u.a u.b
def Qp(c:Conf)(x:HpM)(u:Eg):Int:=if u.kind=1 then D9 c x u.a else 0
def Z8(c:Conf)(x:HpM)(u:Eg):List Int:=if u.kind=3 then J0 c x u.h u.a u.b else []
def Yt(c:Conf)(x:HpM)(u:Eg):Int:=
 if u.kind=1 then Ds c x u.a else if u.kind=2 then (if X1 x.tb u.h=0 then 2 else 0)+(1+((Zg c x u).st.rm.tot-x.st.rm.tot))
 else if u.kind=3\/u.kind=4\/u.kind=5 then 0+(1+((Zg c x u).st.rm.tot-x.st.rm.tot)) else (Zg c x u).st.rm.tot-x.st.rm.tot
section
variable {c:Conf}{s s':StM}{pd:Option (Nat×PlcM)}
end
section
variable {c:Conf}{s:StM}{pd:Option (Nat×PlcM)}
end
section
variable {c:Conf}{s:StM}{pd:Option (Nat×PlcM)}
variable {own:List (List Int)}
end
section
variable {c:Conf}{s:StM}{pd:Option (Nat×PlcM)}
end
section
variable {base t size m:Nat}{w:dD}{v v' u u':dE}{xs ys:List dE}
theorem apR(h0:∀b,some b=v.ownBlock->some b≠u.ownBlock)(h:u'.ownBlock=u.ownBlock\/u'.ownBlock=some w.heap.size)(ho:Xm base t size w v m xs):∀b,some b=v.ownBlock->some b≠u'.ownBlock:=λb a e=>by
 rcases h with h|h
 .exact h0 b a (e.trans h)
 .rw[h] at e;have e1:=Option.some.inj e;have:=(World.ownsRow.lt ho b a.symm).2;omega
theorem apL(h0:∀b,some b=v.ownBlock->some b≠u.ownBlock)(h:v'.ownBlock=v.ownBlock\/v'.ownBlock=some w.heap.size)(ho:Xm base t size w u m ys):∀b,some b=v'.ownBlock->some b≠u.ownBlock:=λb a e=>by
 rcases h with h|h
 .exact h0 b (a.trans h) e
 .rw[h] at a;have e1:=Option.some.inj a;have:=(World.ownsRow.lt ho b e.symm).2;omega
end
theorem XbQ{base t size m m':Nat}{w:dD}{v:dE}{xs ys:List dE}(h:Xm base t size w v m xs)(e1:m=m')(e2:xs=ys):Xm base t size w v m' ys:=by rw[<-e1,<-e2];exact h
structure Xav(base:Nat)(w:dD)(i:Nat)(vg vl vf:dE):Prop where
 g:Xm base 3 1 w vg i (List.replicate i (.int .i64 1))
 l:Xm base 4 1 w vl i (List.replicate i (.bool false))
 f:Xm base 3 1 w vf i ((List.range i).map λn:Nat=>.int .i64 (n:Int))
 gl:∀b,some b=vg.ownBlock->some b≠vl.ownBlock
 gf:∀b,some b=vg.ownBlock->some b≠vf.ownBlock
 lf:∀b,some b=vl.ownBlock->some b≠vf.ownBlock
theorem Xmp(N:Nat)(cH:Int)(w:dD)(hN:1<=N/\N<=4096)(hg:1<=cH/\cH<=1023):Xe prog 77 #[W N,W cH] w
 (λv w'=>∃vg vl vf,v=.tuple #[.agg #[vg,vl,vf,W cH],W 0]/\Xav w.heap.size w' N vg vl vf/\(∃a n c,vg=.slice a n c)/\(∃a n c,vl=.slice a n c)/\(∃a n c,vf=.slice a n c)/\Xc Xf w w'):=by
 have au:maxLen=9223372036854775807:=rfl;refine aR func77 ntmps77 Y (bC Y λqb w1 e1 ac B av=>aO Y (bC Y λtb r e2 ad J aw=>bF ad Y λax a7 ae ay=>?_));have a8:=B.trans J;refine aS Y (aS Y (aS Y (aS Y ?_)));refine Xa.loop (α:=Nat×dE×dE×dE) (λp=>[(0,false,W N),(4,false,xV qb),(6,false,xV tb),(7,false,W p.1)])
  (λp w'=>p.1<=N/\w'.heap[tb]?=some (.cells ([p.2.1,p.2.2.1,p.2.2.2,W cH]:List dE).toArray 45 (0,0))/\Xav r.heap.size w' p.1 p.2.1 p.2.2.1 p.2.2.2/\Xc (λz=>z=tb) r w')
  (λp=>N-p.1) (0,.slice none 0 0,.slice none 0 0,.slice none 0 0) ⟨rfl,rfl,rfl,rfl,trivial⟩ ⟨XQ _,a7,⟨World.ownsRow_nil _ _ _ _,World.ownsRow_nil _ _ _ _,World.ownsRow_nil _ _ _ _,(λb h=>by cases h),(λb h=>by cases h),(λb h=>by cases h)⟩,ae⟩ ?_
 rintro⟨i,vg,vl,vf⟩ w3 ⟨hi,f,⟨og,ol,of',gl,gf,lf⟩,s⟩ ih;simp only at hi f og ol of' gl gf lf
 have ao:=s.size;refine aN Y (aT Y (λhc=>?_) λhc=>?_)
 .have af:i<N:=xH (bL hc)
  refine bB f Y (Xa.buildSlice Xb rfl λb4 w4 e4 ah j ai=>aN Y ?_);have C:=og.bR j (λ_ _ h=>h);have K:=ol.bR j (λ_ _ h=>h);have L:=of'.bR j (λ_ _ h=>h);refine Xa.append (base:=r.heap.size) (xs:=List.replicate i (W 1)) (news:=[W 1]) Xb rfl C X xS (Hs ah) (by simp[Value.oneCell']) xP ?_;intro vg' w5 D k M;obtain⟨ga,gn,gc,rfl⟩:=Xm.isSlice D;have az:=k.size;have O:=K.bR k (λb d e=>gl b e d);have P:=L.bR k (λb d e=>gf b e d);have Q:=apL gl M.2 K;have R:=apL gf M.2 L;refine aN Y (bF (k.heap (j.bP f) (λe=>xH (World.ownsRow.lt C tb (Eq.symm e)).1)) Y λw6 E u b0=>?_);refine bB E Y (Xa.buildSlice Xb rfl λb7 w7 e7 aj l b1=>aN Y ?_);have S:=(D.bR u (λb d e=>xH (World.ownsRow.lt D b d.symm).1)).bR l (λ_ _ h=>h);have F:=(O.bR u (λb d e=>xH (World.ownsRow.lt O b d.symm).1)).bR l (λ_ _ h=>h);have T:=(P.bR u (λb d e=>xH (World.ownsRow.lt P b d.symm).1)).bR l (λ_ _ h=>h);refine Xa.append (base:=r.heap.size) (xs:=List.replicate i (.bool false)) (news:=[.bool false]) Xb rfl F X xS (Hs aj) (by simp[Value.oneCell']) xP ?_;intro vl' w8 G o U;obtain⟨la,ln,lc,rfl⟩:=Xm.isSlice G;have b2:=o.size;have V:=S.bR o (λb d e=>Q b d e);have a0:=T.bR o (λb d e=>lf b e d);have a4:=apL lf U.2 T;refine aN Y (bF (o.heap (l.bP E) (λe=>xH (World.ownsRow.lt F tb (Eq.symm e)).1)) Y λw9 H x b3=>?_);refine bB H Y (Xa.buildSlice Xb rfl λba wa ea ak q b5=>aN Y ?_);have oga:=(V.bR x (λb d e=>xH (World.ownsRow.lt V b d.symm).1)).bR q (λ_ _ h=>h);have ola:=(G.bR x (λb d e=>xH (World.ownsRow.lt G b d.symm).1)).bR q (λ_ _ h=>h);have ofa:=(a0.bR x (λb d e=>xH (World.ownsRow.lt a0 b d.symm).1)).bR q (λ_ _ h=>h);refine Xa.append (base:=r.heap.size) (xs:=(List.range i).map λn:Nat=>W (n:Int)) (news:=[W (i:Int)]) Xb rfl ofa X xS (Hs ak) (by simp[Value.oneCell']) xP ?_;intro vf' wb ofb y a5;obtain⟨fa,fn,fc,rfl⟩:=Xm.isSlice ofb;have ogb:=oga.bR y (λb d e=>R b d e);have olb:=ola.bR y (λb d e=>a4 b d e);refine aN Y (bF (y.heap (q.bP H) (λe=>xH (World.ownsRow.lt ofa tb (Eq.symm e)).1)) Y λwc aa A b6=>?_);have hS:Xc (λz=>z=tb) r wc:=by
   exact((((((((s.trans j.gr).bU k (λz I e=>xH (World.ownsRow.lt C z (Eq.symm e)).1)).trans u).trans l.gr).bU o (λz I e=>xH (World.ownsRow.lt F z (Eq.symm e)).1)).trans x).trans q.gr).bU y (λz I e=>xH (World.ownsRow.lt ofa z (Eq.symm e)).1)).trans A
  exact aV Y (ih (i+1,.slice ga gn gc,.slice la ln lc,.slice fa fn fc) _ _ ⟨af,aa,⟨XbQ (ogb.bR A (λb d e=>xH (World.ownsRow.lt ogb b d.symm).1)) rfl (List.replicate_succ' ..).symm,XbQ (olb.bR A (λb d e=>xH (World.ownsRow.lt olb b d.symm).1)) rfl (List.replicate_succ' ..).symm,XbQ (ofb.bR A (λb d e=>xH (World.ownsRow.lt ofb b d.symm).1)) rfl (by rw[YQ,XM];rfl),(apR Q U.2 S),(apR R a5.2 oga),(apR a4 a5.2 ola)⟩,hS⟩ xP ⟨rfl,rfl,rfl,rfl,trivial⟩)
 .have al:i=N:=xH (bM hc)
  subst al;obtain⟨ga,gn,gc,rfl⟩:=Xm.isSlice og;obtain⟨la,ln,lc,rfl⟩:=Xm.isSlice ol;obtain⟨fa,fn,fc,rfl⟩:=Xm.isSlice of';refine bB f Y ?_;refine bF (s.heap (J.bP ac) (show ¬qb=tb by omega)) Y λw4 ab a6 ai=>?_;have fr:∀{t size m:Nat} {v:dE} {xs:List dE},Xm r.heap.size t size w3 v m xs->Xm w.heap.size t size w4 v m xs:=λ{t size m v xs} h=>by
   have h4:=h.bR a6 (λb d e=>xH (World.ownsRow.lt h b d.symm).1);exact⟨h4.1,h4.2.imp id λ⟨g,cap,cur,a1,a2,a3⟩=>⟨g,cap,cur,a1,X,a3⟩⟩
  exact aK func77 ab Y ⟨_,_,_,rfl,⟨fr og,fr ol,fr of',gl,gf,lf⟩,⟨_,_,_,rfl⟩,⟨_,_,_,rfl⟩,⟨_,_,_,rfl⟩,(a8.bU s (λz I e=>xH B.size)).bU a6 (λz I e=>xH B.size)⟩
theorem Xdu:∀n,Qa [W 0,W 0,W 0,W 0,.slice none 0 0] n=fl D5 (List.replicate n N5)
 |0=>rfl
 |n+1=>by rw[Qa,Xdu n,YF];rfl
theorem Xdv:∀n,Qa (Cy Lc) n=fl Cy (List.replicate n Lc)
 |0=>rfl
 |n+1=>by rw[Qa,Xdv n,YF];rfl
theorem XmY(c:Conf)(p:Yz)(w:dD)(hc:Yd w c p)(hm:Xy c=true)(hp:c.bS<=512):Xe prog 76 #[.agg (X5 c p).toArray] w
 (λv w'=>∃r,v=.tuple #[.agg (Yc r).toArray,W 0]/\r.c=c/\r.cp=p/\Zf w' r (Es c)/\(∀S:Nat->Prop,(∀z,S z->z<w.heap.size)->Xj S p.ka->Bp S r)/\Xc Xf w w'):=by
 have a1:=Zr hm;have an:Oj c.bS c.size=true:=by
  obtain⟨m1,m2,m3⟩:=Ea hm;exact T3.2 X
 have b7:0<c.bS*c.size:=Int.mul_pos (xH a1.bS) (xH a1.size);have em:Bw c=0:=by unfold Bw;rw[bK hm]
 have hf:=Zr hm;have b8:=hf.n;obtain⟨N,hN⟩:=XE (show 0<=c.cN by
  have:=hm;unfold Xy at this;simp only[XI,decide_eq_true_eq,Qu] at this;omega)
 have b9:c.cN<=4096:=by
  have:=hm;unfold Xy at this;simp only[XI,decide_eq_true_eq,Qu] at this;omega
 refine aR func76 ntmps76 Y (bC Y λb w1 e1 hb a2 ba=>bC Y λqb w2 e2 ao F bb=>?_);have a3:=F.bP hb;refine bB a3 Y (bG (Xcb c p w2 (hc.bR (a2.trans F))) Y λw3 A=>?_);rw[em];have G:=A.bP a3;have H:=A.bP ao;have I:=(a2.trans F).trans A;refine aS Y (bB G Y (bB G Y (aP Y (Xmh c.bS c.size w3 an) ?_)));rintro _ w4 ⟨ab,rfl,bc,K,a4⟩;refine aN Y ?_;obtain⟨D,k⟩:∃D:RA,D=⟨some ⟨ab,0,none⟩,(c.bS*c.size).toNat,X7 (c.bS*c.size).toNat,0⟩:=⟨_,rfl⟩;rw[<-k] at K⊢;refine bC Y λt4 w5 e5 ap a5 bd=>bF ap Y λw6 ac a6 be=>?_;have ad:=ac;have f:=(a4.trans a5).bU a6 (λz d e=>xH a4.size);have a7:=f.bP G;have L:=f.bP H;refine bB a7 Y (aP Y (XmQ c p w6 (hc.bR (I.trans f)) hm hp) ?_);rintro _ w7 ⟨r2,rfl,k1,k2,k3,k4,M⟩;refine aN Y (bC Y λt6 w8 e8 ar a8 bf=>bF ar Y λw9 ag a9 bg=>?_);have g:=(M.trans a8).bU a9 (λz d e=>xH M.size);have B:=g.bP a7;have ah:=g.bP ad;apply Xa.cut (α:=Nat×Nat) (λx=>[(2,false,xV qb),(25,false,.agg (X5 {c with cN:=(N:Int)} p).toArray),(27,false,.slice p.ka c.bV.length p.kc),(28,false,.agg (Hf D).toArray),(29,false,.agg (Ba r2).toArray),(32,false,.slice (some ⟨x.1,0,none⟩) N N),(36,false,.slice (some ⟨x.2,0,none⟩) c.bT.length c.bT.length)]) (λx w'=>w'.heap[x.1]?=some (.cells (fl D5 (List.replicate N N5)).toArray 85 (0,0))/\w'.heap[x.2]?=some (.cells (fl Cy (List.replicate c.bT.length Lc)).toArray 142 (0,0))/\Xc Xf w9 w'/\w9.heap.size<=x.1/\w9.heap.size<=x.2)
 .intro J;refine aQ 12 Xf xK Y λa=>aE a B Y (aE a B Y (aE a ah Y (aE a ag Y (aE a B Y (aE a B Y ?_)))));rw[hN];refine Xd.turn2 a rfl ?_ ?_
  .intro wa ka;refine Xo.make Xb a rfl rfl rfl (XF _) (show 56*N<=140737488355328 by omega) X (λ_=>rfl) λtb wb etb O P au=>Xd.cK a rfl λwc h=>Xo.make Xb a rfl rfl rfl (XF _) (show 112*c.bT.length<=140737488355328 by omega) X (λ_=>rfl) λvb wd evb Q q av=>aF a Y λwe i=>?_;have za:=ka.size;have zc:=h.size;exact J (tb,vb) _ _ ⟨by rw[<-Xdu];exact((h.trans q).trans i).bP O,by rw[<-Xdv];exact i.bP Q,(((ka.trans P).trans h).trans q).trans i,X,X⟩ ⟨rfl,rfl,rfl,rfl,rfl,rfl,rfl,trivial⟩
  .intro wa ka;refine Xo.make Xb a rfl rfl rfl (XF _) (show 112*c.bT.length<=140737488355328 by omega) X (λ_=>rfl) λvb wb evb Q P au=>Xd.cK a rfl λwc h=>Xo.make Xb a rfl rfl rfl (XF _) (show 56*N<=140737488355328 by omega) X (λ_=>rfl) λtb wd etb O q av=>aF a Y λwe i=>?_;have za:=ka.size;have zc:=h.size;exact J (tb,vb) _ _ ⟨by rw[<-Xdu];exact i.bP O,by rw[<-Xdv];exact((h.trans q).trans i).bP Q,(((ka.trans P).trans h).trans q).trans i,X,X⟩ ⟨rfl,rfl,rfl,rfl,rfl,rfl,rfl,trivial⟩
 .rintro⟨tb,vb⟩ we ⟨R,T,l,ztb,zvb⟩;simp only at R T ztb zvb
  have bh:=f.size;have bi:=A.size;obtain⟨E,u⟩:∃E:SR,E=⟨c,p,c.bV,p.ka,p.kc,D,r2,List.replicate N N5,some ⟨tb,0,none⟩,N,List.replicate c.bT.length Lc,some ⟨vb,0,none⟩,c.bT.length⟩:=⟨_,rfl⟩;have ai:=((I.trans f).trans g).trans l;have aj:=(g.trans l).bP L;refine aO Y (bF aj Y λwz C j bj=>?_);replace C:Zo wz qb E:=by
   have e1:(List.replicate N N5).length=N:=XJ;have e2:(List.replicate c.bT.length Lc).length=c.bT.length:=XJ;rw[u];unfold Zo Yc;simp only[e1,e2];rw[<-hN] at C;exact C
  have m:=ai.sn j;have bk:=M.size;have aw:Qi wz r2 (Io c 0):=by
   have U:=(k3.bQ ((a8.sn a9).trans l));exact U.bW (k4 _ (λz e=>xH (Xg L))) j
  have n:=((K.bQ (a5.sn a6)).bQ g).bQ l;have ax:Xj (λz=>z=qb) D.a:=by rw[k];intro b' off s e d;cases e;have:=Xg H;omega
  have V:Yp wz D:=⟨n.rd.bW ax j,n.len,n.lc,n.rng⟩;have bm:=hf.bV;have ak:Yw w p.ka:=λb' off s e=>hc.bV.block X e;have ay:Zf wz E (Es c):=by
   rw[u];exact {
    cO:=hc.bR m
    kr:=(hc.bR m).bV
    ke:=rfl
    ra:=V
    rb:=by rw[k];show X7 _=X7 _;rw[YK]
    rs:=by rw[k];rfl
    la:=λb' off s e=>V.rd.block (by rw[k];show 0<(X7 _).length;rw[Fj];omega) e
    lk:=ak.bQ m.size
    rr:=aw
    rc:=k1
    rp:=k2
    tr:=P7 (rest:=[]) (by rw[QR];exact j.heap R X) Tn
    tl:=by intro b' off s e;cases e;exact Xg (j.heap R X)
    tc:=by rw[XJ];exact XF _
    tn:=by show(List.replicate N N5).length=(List.replicate c.cN.toNat none).length;rw[XJ,XJ,hN];rfl
    te:=λo x t U h2=>by
     have e1:=(ZD ..).symm.trans U;have e2:=(ZD ..).symm.trans h2;split at e1 <;> split at e2 <;> first|(cases e1;done)|(cases e2;done)|(cases e1;cases e2;exact⟨rfl,λy e=>by cases e⟩)
    tq:=λt ht=>by rw[ZX ht];exact⟨J6 _ _ _,λ_ _ _ e=>by cases e⟩
    mr:=P7 (rest:=[]) (by rw[QR];exact j.heap T X) To
    ml:=by intro b' off s e;cases e;exact Xg (j.heap T X)
    mc:=by rw[XJ];exact XF _
    mn:=by show(List.replicate _ Lc).length=(List.replicate _ none).length;rw[XJ,XJ]
    me:=λo x t U h2=>by
     have e1:=(ZD ..).symm.trans U;have e2:=(ZD ..).symm.trans h2;split at e1 <;> split at e2 <;> first|(cases e1;done)|(cases e2;done)|(cases e1;cases e2;exact⟨rfl,λy e=>by cases e⟩)}
  have am:∀S:Nat->Prop,(∀z,S z->z<w.heap.size)->Xj S p.ka->Bp S E:=λS hS hk=>by
   rw[u];refine⟨hk,?_,k4 S (λz d=>xH (hS z d)),?_,λt ht=>?_,?_⟩
   .rw[k];intro b' off s e d;cases e;have:=hS _ d;omega
   .intro b' off s e d;cases e;have:=hS _ d;omega
   .rw[ZX ht];intro b' off s e;cases e
   .intro b' off s e d;cases e;have:=hS _ d;omega
  exact aK func76 C Y ⟨E,rfl,by rw[u],by rw[u],ay,am,m⟩
theorem Xm6(a:Option dF)(cap:Nat)(xs:List Eg)(w:dD)(hr:Rows Et 5 w a xs)(hl:xs.length<=9223372036854775807):Xe prog 8 #[.slice a xs.length cap] w (λv w'=>∃b,v=.bool b/\(b=true->xs.length<=20/\∀x∈xs,x.bs.length<=100/\1<=x.kind/\x.kind<=7)/\w=w'):=by
 refine aR func8 ntmps8 Y ?_;refine Xa.loop (α:=Nat) (λk=>[(0,false,.slice a xs.length cap),(3,false,W k)])
  (λk w'=>w'=w/\k<=xs.length/\k<=21/\∀j (h:j<xs.length),j<k->xs[j].bs.length<=100/\1<=xs[j].kind/\xs[j].kind<=7) (λk=>21-k) 0 ⟨rfl,rfl,trivial⟩ ⟨rfl,XQ _,X,λ_ _ h=>X⟩ ?_
 rintro k y ⟨q,z,r,d⟩ ih;subst q;have f:¬(k<xs.length/\k<21)->xs.length<=20 -> ∀x∈xs,x.bs.length<=100/\1<=x.kind/\x.kind<=7:=λg i x s=>by
  obtain⟨j,l,rfl⟩:=QV s;exact d j l X
 refine aN Y (aT Y (λg=>?_) λg=>?_)
 .refine aT Y (λi=>?_) λi=>?_
  .have m:k<xs.length:=xH (bL g)
   have t:k<21:=xH (bL i)
   obtain⟨b,off,rfl,c⟩:=hr.at m;refine aU (k*5) Y (aW Y (c 4 _ rfl) Y (aT Y (λn=>?_) λn=>?_))
   .exact bE func8 Y ⟨false,rfl,(λh=>Bool.noConfusion h),rfl⟩
   .have A:=bM n;refine aU (k*5) Y (aW Y (c 0 _ rfl) Y (aT Y (λo=>?_) λo=>?_))
    .exact bE func8 Y ⟨false,rfl,(λh=>Bool.noConfusion h),rfl⟩
    have B:=bM o;refine aU (k*5) Y (aW Y (c 0 _ rfl) Y (aT Y (λp=>?_) λp=>?_))
    .exact bE func8 Y ⟨false,rfl,(λh=>Bool.noConfusion h),rfl⟩
    have C:=bM p;refine aV Y ?_;exact ih (k+1) _ _ ⟨rfl,X,X,λj l u=>by
     by_cases e:j=k
     .subst e;omega
     .exact d j l X⟩ X ⟨rfl,rfl,trivial⟩
  .have t:=bM i;exact bE func8 Y ⟨_,rfl,λh=>by have:=bL h;exact⟨X,f X X⟩,rfl⟩
 .have m:=bM g;exact bE func8 Y ⟨_,rfl,λh=>by have:=bL h;exact⟨X,f X X⟩,rfl⟩
theorem XkE{n0:Nat}{S:Sto}{H:Nat}{x:HpM}(h:Hv c n0 w0 w F S H P x)(u:Eg)(hu:I2 w u)(hk:1<=u.kind/\u.kind<=7)(hout:0<u.bs.length->Xj F u.ba):Xe prog 11 #[Dc H,.agg (Et u).toArray] w
 (Le c n0 w0 w F S H P (Zg c x u) (Qj c x u) (Qp c x u) (Yt c x u) (Z8 c x u)):=by
 refine aR func11 ntmps11 Y (bC Y λub w1 e1 U V a0=>?_);refine bC Y λrb L e2 i T a1=>?_;have s:=V.trans T;have M:=h.bQ s;have m:=T.bP U;have E:=s.size;have a:=h.off (b:=rb) X;refine bB m Y ?_;by_cases l:u.kind=1
 .have eX:Zg c x u=Bb c x u.a:=by unfold Zg;rw[bK l]
  have eE:Qj c x u=Ci c x u.a:=by unfold Qj;rw[bK l]
  have eG:Qp c x u=D9 c x u.a:=by unfold Qp;rw[bK l]
  have eK:Yt c x u=Ds c x u.a:=by unfold Yt;rw[bK l]
  have eB:Z8 c x u=[]:=by unfold Z8;rw[bJ X]
  refine bI Y (bB m Y ?_);rw[eE,eG,eK,eX,eB];refine aP Y (Xbn M u.a) ?_;rintro _ O ⟨bv,g,B,rfl,t,C,j,k,v⟩;refine aN Y ?_;obtain⟨ra,rc,rfl,y,n⟩:=t;have d:=k.heap i a;have o:∀q,g q->F q\/w.heap.size<=q:=λq z=>(j q z).imp id X;have p:¬g rb:=λe=>by
   rcases j rb e with e|e
   .exact a (.inl e)
   .have:=Xg i;omega
  have G:=h.hm.since0;have I:=Xg h.hm.obj;exact bF d Y λQ r f J=>aK func11 r Y ⟨_,g,B,rfl,(((show Yi L.heap.size g _ (.slice ra _ rc) _ from⟨ra,rc,rfl,y,n⟩).bR f (λq e=>.inl (.inl (xH (Xg i))))).low E (λ_ _ _ h=>h)),(C.boxed p X ⟨λe=>a (.inr e),X⟩ (X2 d) xD f),o,(s.gr.trans k).sn f,v⟩
 by_cases A:u.kind=2
 .have eX:Zg c x u=Bs c x u.h:=by unfold Zg;rw[bJ l,bK A]
  have eE:Qj c x u=X1 x.tb u.h:=by unfold Qj;rw[bJ l,bK A]
  have eG:Qp c x u=0:=by unfold Qp;rw[bJ l]
  have eK:Yt c x u=(if X1 x.tb u.h=0 then 2 else 0)+(1+((Bs c x u.h).st.rm.tot-x.st.rm.tot)):=by unfold Yt;rw[bJ l,bK A,eX]
  have eB:Z8 c x u=[]:=by unfold Z8;rw[bJ X]
  refine aS Y (bI Y (bB m Y ?_));rw[eE,eG,eK,eX,eB];refine aP Y (Xbo M u.h hu.h) ?_;rintro _ O ⟨bv,g,B,rfl,t,C,j,k,v⟩;refine aN Y ?_;obtain⟨ra,rc,rfl,y,n⟩:=t;have d:=k.heap i a;have o:∀q,g q->F q\/w.heap.size<=q:=λq z=>(j q z).imp id X;have p:¬g rb:=λe=>by
   rcases j rb e with e|e
   .exact a (.inl e)
   .have:=Xg i;omega
  have G:=h.hm.since0;have I:=Xg h.hm.obj;exact bF d Y λQ r f J=>aK func11 r Y ⟨_,g,B,rfl,(((show Yi L.heap.size g _ (.slice ra _ rc) _ from⟨ra,rc,rfl,y,n⟩).bR f (λq e=>.inl (.inl (xH (Xg i))))).low E (λ_ _ _ h=>h)),(C.boxed p X ⟨λe=>a (.inr e),X⟩ (X2 d) xD f),o,(s.gr.trans k).sn f,v⟩
 by_cases D:u.kind=3
 .have eX:Zg c x u=E8 c x u.h u.a u.b:=by unfold Zg;rw[bJ l,bJ A,bK D]
  have eE:Qj c x u=B8 x u.h u.a u.b:=by unfold Qj;rw[bJ l,bJ A,bK D]
  have eG:Qp c x u=0:=by unfold Qp;rw[bJ l]
  have eK:Yt c x u=0+(1+((E8 c x u.h u.a u.b).st.rm.tot-x.st.rm.tot)):=by unfold Yt;rw[bJ l,bJ A,bK (.inl D),eX]
  have eB:Z8 c x u=J0 c x u.h u.a u.b:=by unfold Z8;rw[bK D]
  refine aS Y (aS Y (bI Y (bB m Y (bB m Y (bB m Y ?_)))));rw[eE,eG,eK,eX,eB];refine aP Y (Xe3 M u.h u.a u.b hu.h hu.a hu.b) ?_;rintro _ O ⟨bv,g,B,rfl,t,C,j,k,v⟩;refine aN Y ?_;obtain⟨ra,rc,rfl,y,n⟩:=t;have d:=k.heap i a;have o:∀q,g q->F q\/w.heap.size<=q:=λq z=>(j q z).imp id X;have p:¬g rb:=λe=>by
   rcases j rb e with e|e
   .exact a (.inl e)
   .have:=Xg i;omega
  have G:=h.hm.since0;have I:=Xg h.hm.obj;exact bF d Y λQ r f J=>aK func11 r Y ⟨_,g,B,rfl,(((show Yi L.heap.size g _ (.slice ra _ rc) _ from⟨ra,rc,rfl,y,n⟩).bR f (λq e=>.inl (.inl (xH (Xg i))))).low E (λ_ _ _ h=>h)),(C.boxed p X ⟨λe=>a (.inr e),X⟩ (X2 d) xD f),o,(s.gr.trans k).sn f,v⟩
 by_cases K:u.kind=4
 .have eX:Zg c x u=E9 c x u.h u.a u.bs:=by unfold Zg;rw[bJ l,bJ A,bJ D,bK K]
  have eE:Qj c x u=B8 x u.h u.a u.bs.length:=by unfold Qj;rw[bJ l,bJ A,bJ D,bK K]
  have eG:Qp c x u=0:=by unfold Qp;rw[bJ l]
  have eK:Yt c x u=0+(1+((E9 c x u.h u.a u.bs).st.rm.tot-x.st.rm.tot)):=by unfold Yt;rw[bJ l,bJ A,bK (.inr (.inl K)),eX]
  have eB:Z8 c x u=[]:=by unfold Z8;rw[bJ X]
  refine aS Y (aS Y (aS Y (bI Y (bB m Y (bB m Y (bB m Y ?_))))));rw[eE,eG,eK,eX,eB];refine aP Y (Xe4 M u.h u.a u.ba u.bc u.bs hu.h hu.a (hu.rd.bR s) hu.lc (xI hu.lc hu.len) hu.rng hout) ?_;rintro _ O ⟨bv,g,B,rfl,t,C,j,k,v⟩;refine aN Y ?_;obtain⟨ra,rc,rfl,y,n⟩:=t;have d:=k.heap i a;have o:∀q,g q->F q\/w.heap.size<=q:=λq z=>(j q z).imp id X;have p:¬g rb:=λe=>by
   rcases j rb e with e|e
   .exact a (.inl e)
   .have:=Xg i;omega
  have G:=h.hm.since0;have I:=Xg h.hm.obj;exact bF d Y λQ r f J=>aK func11 r Y ⟨_,g,B,rfl,(((show Yi L.heap.size g _ (.slice ra _ rc) _ from⟨ra,rc,rfl,y,n⟩).bR f (λq e=>.inl (.inl (xH (Xg i))))).low E (λ_ _ _ h=>h)),(C.boxed p X ⟨λe=>a (.inr e),X⟩ (X2 d) xD f),o,(s.gr.trans k).sn f,v⟩
 by_cases N:u.kind=5
 .have eX:Zg c x u=Gm c x u.h u.a:=by unfold Zg;rw[bJ l,bJ A,bJ D,bJ K,bK N]
  have eE:Qj c x u=I8 c x u.h u.a:=by unfold Qj;rw[bJ l,bJ A,bJ D,bJ K,bK N]
  have eG:Qp c x u=0:=by unfold Qp;rw[bJ l]
  have eK:Yt c x u=0+(1+((Gm c x u.h u.a).st.rm.tot-x.st.rm.tot)):=by unfold Yt;rw[bJ l,bJ A,bK (.inr (.inr N)),eX]
  have eB:Z8 c x u=[]:=by unfold Z8;rw[bJ X]
  refine aS Y (aS Y (aS Y (aS Y (bI Y (bB m Y (bB m Y ?_))))));rw[eE,eG,eK,eX,eB];refine aP Y (Xki M u.h u.a hu.h) ?_;rintro _ O ⟨bv,g,B,rfl,t,C,j,k,v⟩;refine aN Y ?_;obtain⟨ra,rc,rfl,y,n⟩:=t;have d:=k.heap i a;have o:∀q,g q->F q\/w.heap.size<=q:=λq z=>(j q z).imp id X;have p:¬g rb:=λe=>by
   rcases j rb e with e|e
   .exact a (.inl e)
   .have:=Xg i;omega
  have G:=h.hm.since0;have I:=Xg h.hm.obj;exact bF d Y λQ r f J=>aK func11 r Y ⟨_,g,B,rfl,(((show Yi L.heap.size g _ (.slice ra _ rc) _ from⟨ra,rc,rfl,y,n⟩).bR f (λq e=>.inl (.inl (xH (Xg i))))).low E (λ_ _ _ h=>h)),(C.boxed p X ⟨λe=>a (.inr e),X⟩ (X2 d) xD f),o,(s.gr.trans k).sn f,v⟩
 by_cases R:u.kind=6
 .have eX:Zg c x u=Lo c x:=by unfold Zg;rw[bJ l,bJ A,bJ D,bJ K,bJ N,bK R]
  have eE:Qj c x u=0:=by unfold Qj;rw[bJ l,bJ A,bJ D,bJ K,bJ N,bK R]
  have eG:Qp c x u=0:=by unfold Qp;rw[bJ l]
  have eK:Yt c x u=(Lo c x).st.rm.tot-x.st.rm.tot:=by unfold Yt;rw[bJ l,bJ A,bJ X,eX]
  have eB:Z8 c x u=[]:=by unfold Z8;rw[bJ X]
  refine aS Y (aS Y (aS Y (aS Y (aS Y (bI Y ?_)))));rw[eE,eG,eK,eX,eB];refine aP Y (Xkl M) ?_;rintro _ O ⟨bv,g,B,rfl,t,C,j,k,v⟩;refine aN Y ?_;obtain⟨ra,rc,rfl,y,n⟩:=t;have d:=k.heap i a;have o:∀q,g q->F q\/w.heap.size<=q:=λq z=>(j q z).imp id X;have p:¬g rb:=λe=>by
   rcases j rb e with e|e
   .exact a (.inl e)
   .have:=Xg i;omega
  have G:=h.hm.since0;have I:=Xg h.hm.obj;exact bF d Y λQ r f J=>aK func11 r Y ⟨_,g,B,rfl,(((show Yi L.heap.size g _ (.slice ra _ rc) _ from⟨ra,rc,rfl,y,n⟩).bR f (λq e=>.inl (.inl (xH (Xg i))))).low E (λ_ _ _ h=>h)),(C.boxed p X ⟨λe=>a (.inr e),X⟩ (X2 d) xD f),o,(s.gr.trans k).sn f,v⟩
 .have eX:Zg c x u=Ii x u.a u.b:=by unfold Zg;rw[bJ l,bJ A,bJ D,bJ K,bJ N,bJ R]
  have eE:Qj c x u=Cd x.st u.a u.b:=by unfold Qj;rw[bJ l,bJ A,bJ D,bJ K,bJ N,bJ R]
  have eG:Qp c x u=0:=by unfold Qp;rw[bJ l]
  have eK:Yt c x u=(Ii x u.a u.b).st.rm.tot-x.st.rm.tot:=by unfold Yt;rw[bJ l,bJ A,bJ X,eX]
  have eB:Z8 c x u=[]:=by unfold Z8;rw[bJ X]
  refine aS Y (aS Y (aS Y (aS Y (aS Y (aS Y (bB m Y (bB m Y ?_)))))));rw[eE,eG,eK,eX,eB];refine aP Y (Xkk M u.a u.b) ?_;rintro _ O ⟨bv,g,B,rfl,t,C,j,k,v⟩;refine aN Y ?_;obtain⟨ra,rc,rfl,y,n⟩:=t;have d:=k.heap i a;have o:∀q,g q->F q\/w.heap.size<=q:=λq z=>(j q z).imp id X;have p:¬g rb:=λe=>by
   rcases j rb e with e|e
   .exact a (.inl e)
   .have:=Xg i;omega
  have G:=h.hm.since0;have I:=Xg h.hm.obj;exact bF d Y λQ r f J=>aK func11 r Y ⟨_,g,B,rfl,(((show Yi L.heap.size g _ (.slice ra _ rc) _ from⟨ra,rc,rfl,y,n⟩).bR f (λq e=>.inl (.inl (xH (Xg i))))).low E (λ_ _ _ h=>h)),(C.boxed p X ⟨λe=>a (.inr e),X⟩ (X2 d) xD f),o,(s.gr.trans k).sn f,v⟩
structure BL where
 a:Option dF
 cap:Nat
 x:List Bool
abbrev T8(l:BL):dE:=.slice l.a l.x.length l.cap
structure Hn(w:dD)(l:BL):Prop where
 rd:C9 w l.a l.x
 len:l.x.length<=512
 cap:l.x.length<=l.cap
 lt:Yw w l.a
theorem C9.bW{x:List Bool}(h:C9 w a x)(hs:Xj S a)(hc:Xc S w w'):C9 w' a x:=λi hi=>by
 obtain⟨b,off,e,c⟩:=h i hi;exact⟨b,off,e,hc.cell c (hs _ _ _ e)⟩
theorem C9.atD{x:List Bool}(h:C9 w a x)(hi:i<x.length):∃b off,a=some ⟨b,off,none⟩/\w.cell? ⟨b,off+i,none⟩=some (.bool (x.getD i false)):=by
 obtain⟨b,off,e,c⟩:=h i hi;exact⟨b,off,e,by rw[c,XB,XD hi];rfl⟩
theorem Hn.bW{w w':dD}{l:BL}{S:Nat->Prop}(h:Hn w l)(hs:Xj S l.a)(hc:Xc S w w'):Hn w' l:=⟨h.rd.bW hs hc,h.len,h.cap,h.lt.bQ hc.size⟩
theorem Hn.bQ{l:BL}(h:Hn w l)(hc:Xc Xf w w'):Hn w' l:=h.bW (λ_ _ _ _ h=>h) hc
theorem C9.cellsA{x:List Bool}(h:C9 w a x):∀i u,(x.map Value.bool)[i]?=some u -> ∃a',a=some a'/\w.cell? (a'.add i)=some u:=λi u c=>by
 have hi:i<x.length:=by have:=(XC.1 c).1;simpa using this
 obtain⟨b,off,rfl,d⟩:=h i hi;refine⟨_,rfl,?_⟩;rw[C0,d];rw[XO,XD hi] at c;exact c
theorem XlO{x:List Bool}:∀u∈x.map Value.bool,u.oneCell'=true:=by
 intro u a;obtain⟨z,_,rfl⟩:=XP.1 a;rfl
structure Cz where
 g:IL
 l:BL
 f:IL
 cH:Int
def Dk(r:Cz):List dE:=[Xq r.g,T8 r.l,Xq r.f,.int .i64 r.cH]
structure Dn(w:dD)(r:Cz)(t:TbM):Prop where
 g:Q9 w r.g
 l:Hn w r.l
 f:Q9 w r.f
 eg:r.g.x=t.gen
 el:r.l.x=t.dB
 ef:r.f.x=t.fl.map (λn:Nat=>(n:Int))
 em:r.cH=t.cH
theorem Dn.bQ{w w':dD}{r:Cz}{t:TbM}(h:Dn w r t)(hc:Xc Xf w w'):Dn w' r t:=⟨h.g.bQ hc,h.l.bQ hc,h.f.bQ hc,h.eg,h.el,h.ef,h.em⟩
def I3(S:Nat->Prop)(r:Cz):Prop:=Xj S r.g.a/\Xj S r.l.a/\Xj S r.f.a
theorem Dn.bW{w w':dD}{r:Cz}{t:TbM}{S:Nat->Prop}(h:Dn w r t)(hs:I3 S r)(hc:Xc S w w'):Dn w' r t:=⟨h.g.bW hs.1 hc,h.l.bW hs.2.1 hc,h.f.bW hs.2.2 hc,h.eg,h.el,h.ef,h.em⟩
theorem Dn.out{w:dD}{r:Cz}{t:TbM}{S:Nat->Prop}(h:Dn w r t)(hs:∀z,S z->w.heap.size<=z):I3 S r:=⟨h.g.lt.out hs,h.l.lt.out hs,h.f.lt.out hs⟩
def Mj(w:dD)(r r':Cz):Prop:=∀S:Nat->Prop,(∀z,S z->z<w.heap.size)->I3 S r->I3 S r'
theorem XbE{h:Int}:Ec (Z5 h) (Yl h)=true↔4096<=h/\h<4194304:=by
 simp only[Ec,XI,decide_eq_true_eq];unfold Z5 Yl;by_cases a:0<=h
 .rw[YY a,Int.tmod_eq_emod_of_nonneg a];omega
 .obtain⟨y,rfl⟩:∃y,h=-y:=⟨-h,X⟩;rw[Int.neg_tdiv,YY X];omega
theorem Xn2{h:Int}(h1:4096<=h/\h<4194304):Z5 h=h%4096/\Yl h=h/4096:=by
 unfold Z5 Yl;exact⟨Int.tmod_eq_emod_of_nonneg X,YY X⟩
theorem XfW{f:α->dE}{x:List α}(h:Xm base t 1 w v m ([]++x.map f))(hm:0<m)(hx:x.length=m):∃g cap rest,v=.slice (some ⟨g,0,none⟩) m cap/\base<=g/\w.heap[g]?=some (.cells (x.map f++rest).toArray t (0,0))/\m<=cap:=by
 obtain⟨g,cap,cur,rfl,b,c,d,i,a⟩:=h.form hm;refine⟨g,cap,cur.toList.drop m,rfl,b,?_,d⟩;have e:=XY m cur.toList;rw[ZS,ZQ] at a;rw[a] at e;rw[e];exact c
theorem Xha{f:α->dE}{x:List α}{y:α}(hi:i<x.length):Ya (x.map f++rest) (0+i) [f y]=some ((x.set i y).map f++rest):=by
 rw[XT,Kc _ _ _ xQ,YO _ _ (xU hi),ZW]
theorem Xmn(h:Int)(w:dD)(hh : -9223372036854775808<=h/\h<=9223372036854775807):Xe prog 59 #[W h] w (X9 (if Ec (Z5 h) (Yl h)=true then .tuple #[W (Z5 h),W (Yl h),W 0] else .tuple #[W 0,W 0,W 7]) w):=by
 refine aR func59 ntmps59 Y ?_;by_cases a:h<4096
 .exact bI Y (bD rfl func59 (.tmp rfl (.tmp rfl (.tmp rfl .nil))) ⟨by rw[bJ (λe=>xH (XbE.1 e))];rfl,rfl⟩)
 .refine aS Y ?_;by_cases b:4194304<=h
  .exact bI Y (bD rfl func59 (.tmp rfl (.tmp rfl (.tmp rfl .nil))) ⟨by rw[bJ (λe=>xH (XbE.1 e))];rfl,rfl⟩)
  .refine aS Y (Xa.div Xb rfl X (Hg X) rfl (Xa.div Xb rfl X (Gr X X) rfl ?_));have hm:=Xn2 (h:=h) X;exact bD rfl func59 (.tmp rfl (.tmp rfl (.tmp rfl .nil))) ⟨by rw[bK (XbE.2 X),hm.1,hm.2];rfl,rfl⟩
theorem Xmm(slot gen:Int)(w:dD)(hs:0<=slot/\slot<=4095)(hg:1<=gen/\gen<=1023):Xe prog 134 #[W slot,W gen] w (X9 (.tuple #[W (4096*gen+slot),W 0]) w):=by
 exact aR func134 ntmps134 Y (aS Y (aS Y (aS Y (aS Y (aV Y (aV Y (bE func134 Y ⟨rfl,rfl⟩)))))))
theorem Vy{r:Cz}{t:TbM}(h:Dn w r t)(ht:t.Ok cN cS)(k:Int)(hk : -9223372036854775808<=k/\k<=9223372036854775807):Xe prog 21 #[.agg (Dk r).toArray,W k] w (Grow (.tuple #[W (Zh t k),W (X1 t k)]) w):=by
 have v:=ht.n;have s:=ht.nl;refine aR func21 ntmps21 Y (bC Y λb o e1 p a u=>?_);refine bH (Xmn k o hk) Y ?_;cases hm:Ec (Z5 k) (Yl k) with
 |false=>
  have e:X1 t k=7:=by unfold X1;rw[bK hm]
  have en:Zh t k=0:=by unfold Zh;rw[e];rfl
  exact bI Y (bE func21 Y ⟨by rw[e,en];rfl,a⟩)
 |true=>
  have l:=hm;simp only[Ec,XI,decide_eq_true_eq] at l;refine aS Y (bB p Y ?_);have egl:r.g.x.length=t.gen.length:=by rw[h.eg]
  have ell:r.l.x.length=t.dB.length:=by rw[h.el]
  by_cases x:(r.g.x.length:Int)<=Z5 k
  .have e:X1 t k=7:=by unfold X1;rw[bJ (by rw[hm];decide),bK X]
   have en:Zh t k=0:=by unfold Zh;rw[e];rfl
   exact bI Y (bE func21 Y ⟨by rw[e,en],a⟩)
  .refine aS Y ?_;obtain⟨j,f⟩:=XE l.1.1.1;obtain⟨gb,go,ega,c⟩:=(h.g.bQ a).ok.rd j X;obtain⟨lb,lo,ela,m⟩:=(h.l.bQ a).rd.atD (i:=j) X;have eg:Co t (Z5 k)=r.g.x.getD j 0:=by rw[f,h.eg];unfold Co;rw[XA,XB]
   have el:N0 t (Z5 k)=r.l.x.getD j false:=by rw[f,h.el];unfold N0;rw[XA,XB]
   obtain⟨G,eG⟩:∃G,G=r.g.x.getD j 0:=⟨_,rfl⟩;obtain⟨L,eL⟩:∃L,L=r.l.x.getD j false:=⟨_,rfl⟩;rw[<-eG] at c eg;rw[<-eL] at m el;have g:X1 t k=if Yl k<G then 6 else if G<Yl k then 7 else if L=false then 7 else 0:=by
    unfold X1;rw[bJ (by rw[hm];decide),bJ X,eg,el]
   have q:Zh t k=if X1 t k=0 then (j:Int) else 0:=by unfold Zh;rw[f]
   have d:o.heap[b]?=some (.cells ([.slice (some ⟨gb,go,none⟩) r.g.x.length r.g.cap,.slice (some ⟨lb,lo,none⟩) r.l.x.length r.l.cap,Xq r.f,W r.cH]:List dE).toArray 45 (0,0)):=by rw[<-ega,<-ela];exact p
   rw[q,f];refine bB d Y (aU j Y (aW Y c Y ?_));by_cases n:G<Yl k
   .exact bI Y (bE func21 Y ⟨by rw[show X1 t k=7 by rw[g,bJ X,bK n]];rfl,a⟩)
   .refine aS Y (bB d Y (aU j Y (aW Y c Y ?_)));by_cases y:G=Yl k
    .refine bI Y (bB d Y (aU j Y (aW Y m Y ?_)));cases L with
     |false=>
      exact bI Y (bE func21 Y ⟨by rw[show X1 t k=7 by rw[g,bJ X,bJ n,bK rfl]];rfl,a⟩)
     |true=>
      exact aS Y (bB d Y (aU j Y (aW Y c Y (aS Y (bE func21 Y ⟨by rw[show X1 t k=0 by rw[g,bJ X,bJ n,bJ xD]];rfl,a⟩)))))
    .exact aS Y (bB d Y (aU j Y (aW Y c Y (bI Y (bE func21 Y ⟨by rw[show X1 t k=6 by rw[g,bK X]];rfl,a⟩)))))
theorem Xmr(r:Cz)(i:Nat)(g:Int)(b:Bool)(w:dD)(h:Q9 w r.g)(hl:Hn w r.l)(hi:i<r.g.x.length)(hi2:i<r.l.x.length):Xe prog 135 #[.agg (Dk r).toArray,W i,W g,.bool b] w
 (λu w'=>∃g' l',u=.agg (Dk ⟨g',l',r.f,r.cH⟩).toArray/\g'.x=r.g.x.set i g/\l'.x=r.l.x.set i b/\Q9 w' g'/\Hn w' l'/\Bg w g'.a/\Bg w l'.a/\Xc Xf w w'):=by
 have ak:maxLen=9223372036854775807:=rfl;have al:=h.ok.len;have am:=hl.len;refine aR func135 ntmps135 Y (bC Y λpb w1 e1 c B an=>bC Y λqb R e2 S m ao=>?_);replace c:w1.heap[pb]?=some (.cells (Dk r).toArray 45 (0,0)):=c;refine Xa.buildSlice Xb rfl λb3 w3 e3 T n ap=>aN Y ?_;have o:=m.trans n;have G:=B.trans o;refine bB (o.bP c) Y ?_;have U:Xm R.heap.size 3 1 w3 (.slice (some ⟨b3,0,none⟩) 0 0) 0 []:=Xm.empty X T;refine Xa.appendA (base:=R.heap.size) (xs:=[]) (news:=r.g.x.map W) Xb rfl U n.size h.ok.rd.noneA xS (h.ok.rd.bR G).cellsA Jh xP λv4 w4 V a0 aq=>aN Y ?_;have d:=U.bU n (XF _) a0;obtain⟨gb,H,rest,rfl,ar,a1,au⟩:=XfW V X xS;refine aU i Y (aL Y a1 (Xha (f:=Value.int .i64) (y:=g) hi) Y λx C p av=>?_);have ag:=d.size;have q:Xc Xf w x:=((B.trans m).trans d).sn p;have t:=p.heap (d.bP (m.bP c)) (show ¬pb=gb by omega);have I:=p.heap (d.bP S) (show ¬qb=gb by omega);refine Xa.buildSlice Xb rfl λb6 w6 e6 a2 j aw=>aN Y (bB (j.bP t) Y ?_);have D:Xm x.heap.size 4 1 w6 (.slice (some ⟨b6,0,none⟩) 0 0) 0 []:=Xm.empty X a2;refine Xa.appendA (base:=x.heap.size) (xs:=[]) (news:=r.l.x.map Value.bool) Xb rfl D j.size (λe=>by have:=hl.rd 0 X;obtain⟨_,_,e',_⟩:=this;rw[e] at e';cases e') xS (hl.rd.bR (q.trans j)).cellsA XlO xP λv7 w7 a3 a4 ax=>aN Y ?_;have a5:=D.bU j (XF _) a4;obtain⟨lb,J,ac,rfl,ay,a6,az⟩:=XfW a3 X xS;refine aU i Y (aL Y a6 (Xha (f:=Value.bool) (y:=b) hi2) Y λw8 a7 a8 b0=>?_);have b1:=Xg C;have a:Xc Xf x w8:=a5.sn a8;have K:=a.bP t;have L:=a.bP I;have a9:=a.bP C;refine bF K Y λw9 M k b2=>bF M Y λwa N l b4=>?_;have O:=l.heap (k.heap L X) X;have aa:=l.heap (k.heap a9 X) X;have ab:=l.heap (k.heap a7 X) X;refine bB N Y (bF O Y λwb P v b5=>?_);have E:=v.heap aa X;have F:=v.heap ab X;have Q:Xc Xf w wb:=(((q.trans a).sn k).sn l).sn v;have e1:(r.g.x.set i g).length=0+r.g.x.length:=by rw[XG];omega
 have e2:(r.l.x.set i b).length=0+r.l.x.length:=by rw[XG];omega
 exact aK func135 P Y ⟨⟨some ⟨gb,0,none⟩,H,r.g.x.set i g⟩,⟨some ⟨lb,0,none⟩,J,r.l.x.set i b⟩,by show _=Value.agg [Value.slice _ (r.g.x.set i g).length _,Value.slice _ (r.l.x.set i b).length _,_,_].toArray;rw[e1,e2];rfl,rfl,rfl,⟨⟨Rd.of_take E xS,xP⟩,xP,(by intro b off s e;cases e;exact Xg E)⟩,⟨C9.of_take F xS,xP,xP,(by intro b off s e;cases e;exact Xg F)⟩,(by intro b off s e;cases e;omega),(by intro b off s e;cases e;omega),Q⟩
abbrev wtF(x:Cz):dE:=.agg (Dk x).toArray
abbrev Tq(w:dD)(r:Cz)(i:Nat)(g:Int)(b:Bool)(x:Cz)(w2:dD):Prop:=x.g.x=r.g.x.set i g/\x.l.x=r.l.x.set i b/\(x.f=r.f/\x.cH=r.cH)/\Q9 w2 x.g/\Hn w2 x.l/\Bg w x.g.a/\Bg w x.l.a
abbrev wtG(x:Cz)(b:Nat):Prop:=Xj (λz=>z=b) x.g.a/\Xj (λz=>z=b) x.l.a
theorem Xio{r:Cz}{g:Int}{b:Bool}:∀x w2 w3,Tq w r i g b x w2->Xc Xf w2 w3->Tq w r i g b x w3:=λ_ _ _ ⟨a,b,c,d,e,f,g⟩ h=>⟨a,b,c,d.bQ h,e.bQ h,f,g⟩
theorem Xgp(r:Cz)(i:Nat)(g:Int)(b:Bool)(h:Q9 w r.g)(hl:Hn w r.l)(hi:i<r.g.x.length)(hi2:i<r.l.x.length):∀w',Xc Xf w w'->Xe prog 135 #[.agg (Dk r).toArray,W i,W g,.bool b] w'
 (λv w2=>Xc Xf w' w2/\∃x,v=wtF x/\Tq w r i g b x w2/\∀z,w.heap.size<=z->(z<w'.heap.size\/w2.heap.size<=z)->wtG x z):=λw' a=>
 (Xmr r i g b w' (h.bQ a) (hl.bQ a) hi hi2).mono λv w2 ⟨g',l',e,e1,e2,c,d,fg,fl,j⟩=>by
  have l:=a.size;exact⟨j,⟨g',l',r.f,r.cH⟩,e,⟨e1,e2,⟨rfl,rfl⟩,c,d,(λb off s e=>xH (fg b off s e)),(λb off s e=>xH (fl b off s e))⟩,λz m k=>⟨λb off s e f=>xI (fg b off s e) (c.lt b off s e),λb off s e f=>xI (fl b off s e) (d.lt b off s e)⟩⟩
theorem XnA{x:List Int}{g:Int}(h:x[i]?=some g):x.set i g=x:=by
 refine QH λj=>?_;rw[YE];split
 .rename_i e;subst e
  rw[bK (XC.1 h).1,h]
 .rfl
theorem Xmq{r:Cz}{t:TbM}(h:Dn w r t)(ht:t.Ok cN cS)(hne:t.fl≠[]):Xe prog 81 #[.agg (Dk r).toArray] w (λv w'=>∃r',v=.tuple #[.agg (Dk r').toArray,W (Ma t),W (C7 t),W 0]/\Dn w' r' (Ez t)/\Mj w r r'/\Xc Xf w w'):=by
 obtain⟨n,fl,ef⟩:=List.exists_cons_of_ne_nil hne;obtain⟨g,q,q2,q3⟩:=ht.fr n (by rw[ef];exact ZO);have am:=ht.gen n g q;have an:=ht.gs;have ao:=ht.sl;have hn:=ht.n;have ap:=ht.nl;have aq:=(XC.1 q).1;have egl:r.g.x.length=t.gen.length:=by rw[h.eg]
 have ell:r.l.x.length=t.dB.length:=by rw[h.el]
 have efx:r.f.x=(n:Int)::fl.map (λn:Nat=>(n:Int)):=by rw[h.ef,ef];rfl
 have efl:r.f.x.length=fl.length+1:=by rw[efx];simp
 have ar:=h.f.ok.len;have ab:=h.f.cap;refine aR func81 ntmps81 Y (bC Y λb L e1 C D au=>bC Y λqb G e2 M u av=>?_);have a:=D.trans u;obtain⟨fb,fo,efa,E⟩:=h.f.ok.rd 0 X;obtain⟨gb,go,ega,y⟩:=h.g.ok.rd n X;have N:r.g.x.getD n 0=g:=by rw[h.eg,XB,q];rfl
 have O:r.f.x.getD 0 0=n:=by rw[efx];rfl
 rw[N] at y;rw[O] at E;replace C:L.heap[b]?=some (.cells (Dk r).toArray 45 (0,0)):=C;have P:L.heap[b]?=some (.cells ([.slice (some ⟨gb,go,none⟩) r.g.x.length r.g.cap,T8 r.l,.slice (some ⟨fb,fo,none⟩) r.f.x.length r.f.cap,W r.cH]:List dE).toArray 45 (0,0)):=by rw[<-efa,<-ega];exact C
 have Q:=u.bP C;have c:=u.bP P;refine bB c Y (aS Y (bB c Y (aU 0 Y (aW Y (a.cell E id) Y (bB c Y (aU n Y (aW Y (a.cell y id) Y (bH (Xmm (n:Int) g G X X) Y (aQ 9 Xf xK Y λp=>aE p Q Y (aE p c Y (aB n p Y (aD p (a.cell y id) Y (Xd.callAllocG (wtF) (Tq G r n g true) (wtG) Xb p rfl rfl rfl (λ_=>rfl) rfl (λ_=>rfl) (λ_=>rfl) rfl rfl (λ_ _=>rfl) rfl (λ_ _=>rfl) ((Xgp r n g true (h.g.bQ a) (h.l.bQ a) X X)) (Xio) ((λ_ h=>h.elim)) ?_)))))))))))));rintro nb x w3 aw R T ⟨x1,x2,⟨x3,x4⟩,x5,x6,U,V⟩ hG;refine aF p Y λw4 k=>?_;have f:Xc Xf G w4:=T.trans k;refine bF (k.bP R) Y λw5 i m ax=>?_;replace i:w5.heap[nb]?=some (.cells (Dk x).toArray 45 (0,0)):=i;have H:=m.heap (f.bP c) (show ¬b=nb by omega);refine bB H Y (Xa.slice Xb rfl (l:=1) (h:=r.f.x.length) (by first|rfl|omega|simp[Dx]) (by first|rfl|omega|simp[Dr]) X X rfl ?_);obtain⟨f',o⟩:∃f':IL,f'=r.f.sl 1 r.f.x.length:=⟨_,rfl⟩;obtain⟨a2,a3⟩:=h.f.sl (lo:=1) (hi:=r.f.x.length) X (XF _);have a4:Xq f'=.slice (Ae (some ⟨fb,fo,none⟩) r.f.cap 1 1) (r.f.x.length-1) (r.f.cap-1):=by rw[o,<-efa];show Value.slice _ (r.f.sl 1 r.f.x.length).x.length _=_;rw[a3];rfl
 rw[<-a4];refine bF i Y λw6 j A ay=>?_;replace j:w6.heap[nb]?=some (.cells (Dk ⟨x.g,x.l,f',r.cH⟩).toArray 45 (0,0)):=by rw[<-x4];exact j
 refine bB j Y ?_;have I:=A.heap (m.heap (f.bP M) X) X;refine bF I Y λw7 J F az=>?_;have K:Xc Xf w w6:=((a.trans f).bU m (λz d e=>xH a.size)).bU A (λz d e=>xH a.size);have B:Xc Xf w w7:=K.bU F (λz d e=>xH D.size);have eH:Ma t=4096*g+n:=by unfold Ma;rw[ef];show Co t n*4096+n=_;unfold Co;rw[XA,q];show g*4096+n=_;omega
 have eN:C7 t=n:=by unfold C7;rw[ef]
 have eT:Ez t={t with dB:=t.dB.set n true,fl:=fl}:=by unfold Ez;rw[ef]
 rw[eH,eN,eT];have a7:Q9 w f':=o▸a2;have cg:Xc (λz=>z=nb\/z=qb) w4 w7:=((m.mono λ_ _ e=>.inl e).trans (A.mono λ_ _ e=>.inl e)).trans (F.mono λ_ _ e=>.inr e);have a8:Xj (λz=>z=nb\/z=qb) x.g.a:=λb off s e d=>d.elim (hG.1 b off s e) λh=>xH (U b off s e)
 have a9:Xj (λz=>z=nb\/z=qb) x.l.a:=λb off s e d=>d.elim (hG.2 b off s e) λh=>xH (V b off s e)
 have g1:x.g.x=t.gen:=by rw[x1,h.eg,XnA q]
 have g2:x.l.x=t.dB.set n true:=by rw[x2,h.el]
 have g3:f'.x=fl.map (λn:Nat=>(n:Int)):=by
  rw[o];show(r.f.x.drop 1).take (r.f.x.length-1)=_
  rw[YV (by rw[QK];omega),efx];rfl
 exact aK func81 J Y ⟨⟨x.g,x.l,f',r.cH⟩,rfl,⟨(x5.bQ k).bW a8 cg,(x6.bQ k).bW a9 cg,a7.bQ B,g1,g2,g3,h.em⟩,λS hS ho=>⟨λb off s e d=>xI (U b off s e) (hS b d),λb off s e d=>xI (V b off s e) (hS b d),by rw[o];exact IL.sl_out ho.2.2⟩,B⟩
theorem Xmo{r:Cz}{t:TbM}(h:Dn w r t)(ht:t.Ok cN cS)(hs20:cN<=500)(k:Int)(hk : -9223372036854775808<=k/\k<=9223372036854775807)(hE:X1 t k=0):Xe prog 84 #[.agg (Dk r).toArray,W k] w (λv w'=>∃r',v=.tuple #[.agg (Dk r').toArray,W 0]/\Dn w' r' (Dj t k)/\Mj w r r'/\Xc Xf w w'):=by
 have bx:maxLen=9223372036854775807:=rfl;obtain⟨b1,b2,b3,b4,b5,T,b7⟩:=ht.tbE_ok hE;obtain⟨j,U⟩:=XE b1;obtain⟨g,hg⟩:∃g,g=Yl k:=⟨_,rfl⟩;rw[U,XA] at b3 T b7;rw[<-hg] at b4 b5 T;have bz:=ht.gs;have hn:=ht.n;have c0:=ht.nl;have ba:=ht.many;have egl:r.g.x.length=t.gen.length:=by rw[h.eg]
 have ell:r.l.x.length=t.dB.length:=by rw[h.el]
 have efl:r.f.x.length=t.fl.length:=by rw[h.ef];simp
 have eN:Zh t k=(j:Int):=by unfold Zh;rw[bK hE,U]
 have eG:Co t (Z5 k)=g:=by rw[U];unfold Co;rw[XA,T];rfl
 have eT:Dj t k={t with gen:=t.gen.set j (g+1),dB:=t.dB.set j false,fl:=if g+1<=t.cH then j::t.fl else t.fl}:=by unfold Dj;rw[bK hE,eG,U,XA]
 rw[eT];refine aR func84 ntmps84 Y (bC Y λb w1 e1 hb ab c1=>bC Y λqb w2 e2 ac G c2=>?_);have H:=ab.trans G;obtain⟨gb,go,ega,I⟩:=h.g.ok.rd j X;have ad:r.g.x.getD j 0=g:=by rw[h.eg,XB,T];rfl
 rw[ad] at I;have ae:w1.heap[b]?=some (.cells ([.slice (some ⟨gb,go,none⟩) r.g.x.length r.g.cap,T8 r.l,Xq r.f,W r.cH]:List dE).toArray 45 (0,0)):=by rw[<-ega];exact hb
 have a2:=G.bP hb;have a6:=G.bP ae;refine bB a2 Y (bG (Vy (h.bQ H) ht k hk) Y λw3 q=>?_);rw[hE,eN];have o:=H.trans q;have a3:=q.bP a2;have K:=q.bP a6;refine aS Y (aQ 10 Xf xK Y λd=>aE d a3 Y (aE d K Y (aB j d Y (aD d (o.cell I id) Y (aC d Y (Xd.callAllocG (wtF) (Tq w3 r j (g+1) false) (wtG) Xb d rfl rfl rfl (λ_=>rfl) rfl (λ_=>rfl) (λ_=>rfl) rfl rfl (λ_ _=>rfl) rfl (λ_ _=>rfl) ((Xgp r j (g+1) false (h.g.bQ o) (h.l.bQ o) X X)) (Xio) ((λ_ h=>h.elim)) ?_))))));rintro nb x w4 c3 af ag ⟨x1,x2,⟨x3,x4⟩,x5,x6,x7,x8⟩ hG;refine aF d Y λw5 C=>?_;have f:=ag.trans C;have c4:=q.size;have c5:=f.size;refine bF (C.bP af) Y λV y u c6=>?_;have i:=(o.trans f).sn u;have al:=u.heap (f.bP a3) (show ¬b=nb by omega);have L:=u.heap (f.bP K) (show ¬b=nb by omega);have A:=u.heap (f.bP (q.bP ac)) (show ¬qb=nb by omega);have hX:∀w',Xc (λz=>z=nb\/V.heap.size<=z) V w'->Q9 w' x.g/\Hn w' x.l:=λw' hc=>by
  have c:=(u.mono λ_ _ e=>.inl e).trans hc;have k1:=x5.bQ C;have k2:=x6.bQ C;exact⟨k1.bW (λb off s e a=>a.elim (hG.1 b off s e) λh=>xH (k1.lt b off s e)) c,k2.bW (λb off s e a=>a.elim (hG.2 b off s e) λh=>xH (k2.lt b off s e)) c⟩
 have g1:x.g.x=t.gen.set j (g+1):=by rw[x1,h.eg]
 have g2:x.l.x=t.dB.set j false:=by rw[x2,h.el]
 have a4:=h.em;apply Xa.cut (α:=IL) (λ_=>[(4,false,xV qb),(8,false,xV nb)]) (λf' w'=>w'.heap[nb]?=some (.cells (Dk ⟨x.g,x.l,f',r.cH⟩).toArray 45 (0,0))/\Q9 w' f'/\f'.x=(if g+1<=t.cH then j::t.fl else t.fl).map (λn:Nat=>(n:Int))/\(∀S:Nat->Prop,(∀z,S z->z<w.heap.size)->Xj S r.f.a->Xj S f'.a)/\Xc (λz=>z=nb\/V.heap.size<=z) V w'/\Xc Xf w w'/\Xj (λz=>z=qb) f'.a)
 .intro J;refine aQ 8 Xf xK Y λd=>aE d L Y (aB j d Y (aD d (i.cell I id) Y (aC d Y (aE d L Y (aF d Y λE l=>?_)))));have p:=i.trans l;rw[a4];by_cases a5:g+1<=t.cH
  .refine bI Y (Xa.buildSlice Xb rfl λb8 w8 e8 an M ao=>aN Y ?_);have N:=l.trans M;refine bB (N.bP al) Y ?_;have F:Xm E.heap.size 3 1 w8 (.slice (some ⟨b8,0,none⟩) 1 1) 1 [W (j:Int)]:=Xm.one X an;refine Xa.appendA (base:=E.heap.size) (xs:=[W (j:Int)]) (news:=r.f.x.map W) Xb rfl F M.size h.f.ok.rd.noneA xS (h.f.ok.rd.bR (i.trans N)).cellsA Jh xP ?_;intro v9 w9 aq ar c7;have a7:=F.bU M (XF _) ar;obtain⟨f',rfl,au,av,O⟩:=Xm.il (x:=(j:Int)::r.f.x) (v:=v9) (m:=1+r.f.x.length) (show Xm E.heap.size 3 1 w9 v9 (1+r.f.x.length) (((j:Int)::r.f.x).map W) from aq) xQ xQ;have B:=l.trans a7;have z7:=l.size;refine aN Y (bF (B.bP y) Y λwa aw P bv=>?_);have ax:Xj (λz=>z=nb) f'.a:=λb off s e a=>xI (O b off s e) (Xg y)
   exact J f' wa _ ⟨by rw[<-x4];exact aw,av.bW ax P,by rw[bK a5,au,h.ef];rfl,λS Q _ b off s e a=>by have:=O b off s e;have:=Q b a;have:=i.size;omega,B.gr.trans (P.mono λ_ _ e=>.inl e),(i.trans B).sn P,λb off s e a=>xI (O b off s e) (Xg A)⟩ ⟨rfl,rfl,trivial⟩
  .exact aS Y (J r.f E _ ⟨by rw[<-x4,<-x3];exact l.bP y,h.f.bQ p,by rw[bJ a5];exact h.ef,λS _ F=>F,l.gr,p,h.f.lt.out (λz e=>X)⟩ ⟨rfl,rfl,trivial⟩)
 .rintro f' E ⟨ay,az,g3,b0,R,p,b9⟩;obtain⟨k1,k2⟩:=hX E R;have a8:=R.heap A (λh=>xH (Xg A));exact bB ay Y (bF a8 Y λw8 a9 D ao=>aK func84 a9 Y ⟨⟨x.g,x.l,f',r.cH⟩,rfl,⟨k1.bW (λb off s e a=>xH (x7 b off s e)) D,k2.bW (λb off s e a=>xH (x8 b off s e)) D,az.bW b9 D,g1,g2,g3,a4⟩,λS Q F=>⟨λb off s e a=>xI (x7 b off s e) (Q b a),λb off s e a=>xI (x8 b off s e) (Q b a),b0 S Q F.2.2⟩,p.sn D⟩)
section
variable {c:Conf}{s:StM}{pd:Option (Nat×PlcM)}
theorem Xh4{q:PlcM}(h:s.OkP c (some (o,q)))(ht:0<=s.rm.tot/\s.rm.tot<=999999900000):0<=(Ax c s q).rm.tot/\(Ax c s q).rm.tot<=s.rm.tot+40000:=by
 obtain⟨f,j,k⟩:=Xeo h.rm q;have a:0<=(Yo s.rm q).tot/\(Yo s.rm q).tot<=s.rm.tot+10000:=by
  rw[<-f];show 0<=Xu s.rm.tot _/\Xu s.rm.tot _<=_
  rw[Cs X];omega
 have b:=h.dropped;unfold Ax;split
 .show 0<=(Yo s.rm q).tot/\(Yo s.rm q).tot<=_
  omega
 .have d:=Xaf b q.cL.toNat ⟨a.1,by have:=a.2;show(Yo s.rm q).tot<=_;omega⟩;have i:(Yj c {s with rm:=Yo s.rm q} q.cL.toNat).rm.tot<=(Yo s.rm q).tot+10000:=d.2;have g:=Xc8 (b.begin q.cL.toNat) q.cL.toNat c.step ⟨d.1,X⟩;exact⟨g.1,X⟩
theorem Xh5(o:Int)(i n:Nat)(hn:n<=25000000)(ht:0<=s.rm.tot/\s.rm.tot<=1000000000000):0<=(Af s o i n).rm.tot/\(Af s o i n).rm.tot<=s.rm.tot+n:=by
 unfold Af;split
 .rename_i m _
  split
  .have a:Qv i n m.cE<=n:=by unfold Qv;omega
   show 0<=Xu s.rm.tot _/\Xu s.rm.tot _<=_
   rw[Cs X];omega
  .omega
 .omega
theorem Xh3(q:Plc)(i n:Nat)(hm:Xy c=true)(hn:n<=25000000)(ht:0<=s.rm.tot/\s.rm.tot<=1000000000000):0<=(Y3 s (Zb c q i n)).rm.tot/\(Y3 s (Zb c q i n)).rm.tot<=s.rm.tot+(2*n+1):=by
 have:=Lj (q:=q) (at':=i) (n:=n) hm;show 0<=Xu s.rm.tot _/\Xu s.rm.tot _<=_
 rw[Cs X];omega
theorem Tl{u:D7}(h:s.Ok c)(ht:0<=s.rm.tot/\s.rm.tot<=900000000000):0<=(Ab c s u).rm.tot/\(Ab c s u).rm.tot<=s.rm.tot+1000000000:=by
 have y:=(Zr h.may).cH.2;unfold Ab;split
 .unfold Q1;split
  .rename_i d
   obtain⟨j,e,v,w,hf⟩:=XaA d;rw[e];have:=Xc9 h j v u.a (StM.OkP.lay h w hf (by rintro _ _ ⟨⟩)) ⟨ht.1,X⟩;omega
  .omega
 split
 .unfold Aq;split
  .omega
  .rename_i x
   obtain⟨j,t,e,a⟩:=J4 (YP.1 x);rw[e,Y5 a];obtain⟨t',b,_,_,_,f⟩:=My h a;rw[Y5 b,XA];have i:=Xag h t.q.cL ⟨ht.1,X⟩;have o:=Xh4 ((Lm h t.q.cL).ok.away b f) ⟨i.1,by have:=i.2;show(X8 s t.q.cL).rm.tot<=_;omega⟩;refine⟨o.1,Int.le_trans o.2 ?_⟩;show(X8 s t.q.cL).rm.tot+40000<=_
   omega
 split
 .unfold Q7;split
  .omega
  .rename_i d
   obtain⟨j,t,e,a,hr,g⟩:=Px (YP.1 d);have m:=h.size j t a;rw[e,C6 a,Y5 a];split
   .split
    .have n:(X7 (t.size-u.a).toNat).length<=25000000:=by rw[Fj];omega
     have b:=Rh (s:=s) h.may t.q u.a.toNat (X7 (t.size-u.a).toNat) ⟨ht.1,X⟩ n;rw[Fj] at n b;have f:=Xh5 (s:=D3 (Yk c s t.q u.a.toNat (X7 (t.size-u.a).toNat)) (j:Nat) ⟨u.a,t.q⟩) (j:Nat) u.a.toNat (t.size-u.a).toNat n ⟨b.1,by have:=b.2;show(Yk c s t.q u.a.toNat _).rm.tot<=_;omega⟩;exact⟨f.1,by have:=f.2;have:=b.2;have e:(D3 (Yk c s t.q u.a.toNat (X7 (t.size-u.a).toNat)) (j:Nat) ⟨u.a,t.q⟩).rm.tot=(Yk c s t.q u.a.toNat (X7 (t.size-u.a).toNat)).rm.tot:=rfl;omega⟩
    .show 0<=s.rm.tot/\s.rm.tot<=_
     omega
   .rename_i p
    rcases g with g|⟨g,hf⟩
    .exact absurd g p
    .obtain⟨t',M⟩:=Pf h a g hf;have q:=(XC.1 M.th1).1;unfold Jn;simp only
     rw[Y5 a,Y5 M.th1,C6 a];have i:=Xag h t.q.cL ⟨ht.1,X⟩;have b:=Xh3 (s:=X8 s t.q.cL) t'.q.cQ 0 (min t.size u.a).toNat h.may X ⟨i.1,X⟩;have f:=Xc9 (M.ok1.tot (Zb c t'.q.cQ 0 (min t.size u.a).toNat)) j q u.a M.ok2 ⟨b.1,X⟩;have k:(Yh c t'.q.cQ (X8 s t.q.cL).bs 0 (min t.size u.a).toNat).length=(min t.size u.a).toNat:=by unfold Yh;rw[XU,ZK]
     have l:=Rh (s:=Qs c (Y3 (X8 s t.q.cL) (Zb c t'.q.cQ 0 (min t.size u.a).toNat)) (j:Nat) u.a) h.may (Yy (Qs c (Y3 (X8 s t.q.cL) (Zb c t'.q.cQ 0 (min t.size u.a).toNat)) (j:Nat) u.a) (j:Nat)) 0 (Yh c t'.q.cQ (X8 s t.q.cL).bs 0 (min t.size u.a).toNat) ⟨f.1,X⟩ (by rw[k];omega);rw[k] at l;have r:=Xh4 (M.ok2.put _ 0 (N4 M.ok1.bi _ _)) ⟨l.1,X⟩;exact⟨r.1,xH r.2⟩
 split
 .unfold Cc;split
  .rename_i d
   obtain⟨j,t,e,a,_,_,l⟩:=Ri d;have m:=h.size j t a;have:=Xh3 (s:=s) (Yy s u.own).cQ u.a.toNat u.b.toNat h.may X ⟨ht.1,X⟩;omega
  .omega
 split
 .unfold Cx;split
  .rename_i d
   obtain⟨j,t,e,a,_,_,l⟩:=Ri d;have m:=h.size j t a;have b:=Rh (s:=s) h.may (Yy s u.own) u.a.toNat u.bs ⟨ht.1,X⟩ X;have f:=Xh5 (s:=Yk c s (Yy s u.own) u.a.toNat u.bs) u.own u.a.toNat u.bs.length X ⟨b.1,X⟩;omega
  .omega
 split
 .have k:s.mv.length<=16:=xI h.ml (Zr h.may).n
  have:=Xda h ⟨ht.1,X⟩ s.mv.length k;unfold D4;omega
 .unfold Cw;split
  .show 0<=s.rm.tot/\s.rm.tot<=_
   omega
  .omega
end
structure HR where
 s:SR
 t:Cz
def Dt(r:HR):List dE:=Yc r.s++Dk r.t
abbrev Fa(w:dD)(b:Nat)(r:HR):Prop:=w.heap[b]?=some (.cells (Dt r).toArray 47 (0,0))
structure Am(w:dD)(r:HR)(x:HpM):Prop where
 s:Zf w r.s x.st
 t:Dn w r.t x.tb
def Ge(S:Nat->Prop)(r:HR):Prop:=Bp S r.s/\I3 S r.t
def Dm(w:dD)(r r':HR):Prop:=Zz w r.s r'.s/\Mj w r.t r'.t
theorem Am.bQ{w w':dD}{r:HR}{x:HpM}(h:Am w r x)(hc:Xc Xf w w'):Am w' r x:=⟨h.s.bQ hc,h.t.bQ hc⟩
theorem Dm.refl(w:dD)(r:HR):Dm w r r:=⟨Zz.refl _ _,λ_ _ h=>h⟩
theorem Dm.dC{w w1:dD}{r r1:HR}(h:Dm w1 r r1)(hs:w.heap.size<=w1.heap.size):Dm w r r1:=⟨h.1.dC hs,λS a b=>h.2 S (λz c=>xH (a z c)) b⟩
def XiE(w:dD)(r:HR)(x':HpM)(r':HR)(w':dD):Prop:=Am w' r' x'/\Dm w r r'/\Xc Xf w w'
theorem Dn.box{r r':Cz}{t t':TbM}(h:Dn w r t)(hk:Mj w2 r r')(h':Dn w' r' t')(hw:w.heap.size<=qb)(hq:qb<w2.heap.size)(hc:Xc (λz=>z=qb) w' w''):Dn w'' r' t':=
 h'.bW (hk _ (λz e=>X) (h.out λz e=>X)) hc
theorem Am.box{w w2 w' w'':dD}{r r':HR}{x x':HpM}{qb:Nat}(h:Am w r x)(hk:Dm w2 r r')(h':Am w' r' x')(hw:w.heap.size<=qb)(hq:qb<w2.heap.size)(hc:Xc (λz=>z=qb) w' w'')(hcc:Xc Xf w w''):Am w'' r' x':=
 ⟨h.s.box hk.1 h'.s hw hq hc hcc,h.t.box hk.2 h'.t hw hq hc⟩
def Mc(e g:Int)(a:Option dF)(n cap:Nat)(k:Int):List dE:=[.int .i64 e,.int .i64 g,.slice a n cap,.int .i64 k]
def Tt(w:dD)(r:HR)(E G K:Int)(B:List Int)(x':HpM):dE->dD->Prop:=λv w'=>∃r' a cap,v=.tuple #[.agg (Dt r').toArray,.agg (Mc E G a B.length cap K).toArray]/\Rd .u8 w' a B/\(∀b off s',a=some ⟨b,off,s'⟩->w.heap.size<=b/\b<w'.heap.size)/\XiE w r x' r' w'
theorem Mj.dC{r r1:Cz}(h:Mj w1 r r1)(hs:w.heap.size<=w1.heap.size):Mj w r r1:=λS a b=>h S (λz c=>xH (a z c)) b
theorem Xm3{r:HR}{x:HpM}(h:Am w r x)(hx:x.Ok r.s.c)(size:Int)(ht:0<=x.st.rm.tot/\x.st.rm.tot<=900000000000):Xe prog 32 #[.agg (Dt r).toArray,W size] w
 (Tt w r (Ci r.s.c x size) (D9 r.s.c x size) (Ds r.s.c x size) [] (Bb r.s.c x size)):=by
 have hs:=hx.st;refine aR func32 ntmps32 Y (bC Y λb w1 e1 hb ae av=>bC Y λqb w2 e2 af a1 aw=>bC Y λub w3 e3 a2 H ax=>?_);have a3:=(a1.trans H).bP hb;have I:=(ae.trans a1).trans H;refine bB a3 Y (bG (Sz (h.s.bQ I) hs size) Y λw4 v=>?_);have a:=I.trans v;have i:=v.bP a3;have j:=v.bP (H.bP af);have k:=v.bP a2;have lu:=Xg a2;have ay:=v.size;have J:∀{e:Int},¬Gz r.s.c x size->Ci r.s.c x size=e->Ci r.s.c x size=e/\D9 r.s.c x size=0/\Ds r.s.c x size=0/\Bb r.s.c x size=x:=λh1 h2=>⟨h2,by unfold D9;rw[bJ h1],by unfold Ds;rw[bJ h1],by unfold Bb;rw[bJ h1]⟩;have efl:r.t.f.x.length=x.tb.fl.length:=by rw[h.t.ef];simp
 by_cases L:Ys r.s.c x.st size=3
 .obtain⟨M,N,O,P⟩:=J (e:=3) (λg=>xH g.1) (by unfold Ci;rw[bK L]);rw[M,N,O,P,L];refine bI Y ?_;refine bB i Y (aO Y (bF j Y λwe y m a4=>?_));refine bF (m.heap k X) Y λwg n d Q=>?_;have f:=((a).sn m).sn d;exact bD rfl func32 (Xi.cell rfl rfl rfl (d.heap y X) rfl (.cell rfl rfl rfl n rfl .nil)) ⟨r,none,0,rfl,Rd.nil _ _ _,(by intro b off s' e;cases e),h.bQ f,Dm.refl _ _,f⟩
 .refine aS Y (bB i Y ?_);by_cases A:x.tb.fl=[]
  .obtain⟨M,N,O,P⟩:=J (e:=4) (λg=>g.2 A) (by unfold Ci;rw[bJ L,bK A]);rw[M,N,O,P];refine aM Y (by rw[efl,A];rfl) ?_;refine bB i Y (aO Y (bF j Y λwe y m a4=>?_));refine bF (m.heap k X) Y λwg n d Q=>?_;have f:=((a).sn m).sn d;exact bD rfl func32 (Xi.cell rfl rfl rfl (d.heap y X) rfl (.cell rfl rfl rfl n rfl .nil)) ⟨r,none,0,rfl,Rd.nil _ _ _,(by intro b off s' e;cases e),h.bQ f,Dm.refl _ _,f⟩
  .refine aI Y (beq_eq_false_iff_ne.2 (xH (List.length_pos_iff.2 A))) ?_;by_cases V:Ys r.s.c x.st size=0
   .have R:Gz r.s.c x size:=⟨V,A⟩;have eE:Ci r.s.c x size=0:=by unfold Ci;rw[bJ L,bJ A,V]
    have eH:D9 r.s.c x size=Ma x.tb:=by unfold D9;rw[bK R]
    have eX:Bb r.s.c x size=⟨Q1 r.s.c x.st (C7 x.tb) size,Ez x.tb⟩:=by unfold Bb;rw[bK R]
    have eK:Ds r.s.c x size=2+((Q1 r.s.c x.st (C7 x.tb) size).rm.tot-x.st.rm.tot):=by unfold Ds;rw[bK R,eX]
    rw[eE,eH,eX,eK];have ag:=Tl (u:=⟨0,C7 x.tb,size,0,[],none,0⟩) hs ht;rw[show Ab r.s.c x.st ⟨0,C7 x.tb,size,0,[],none,0⟩=Q1 r.s.c x.st (C7 x.tb) size by unfold Ab;rw[bK (show(0:Int)%7=0 by decide)]] at ag;refine aI Y (by rw[V];rfl) (bB i Y (aP Y (Xmq (h.t.bQ a) hx.tb A) ?_));rintro _ w5 ⟨t5,rfl,a5,a6,a7⟩;refine aN Y (bC Y λtb w6 e6 ah ai az=>bF ah Y λw7 S aj b0=>?_);have C:=ai.sn aj;have l:=a7.trans C;have D:=a.trans l;refine bB (l.bP i) Y (aP Y (XgC (h.s.bQ D) hs (C7 x.tb) size ⟨ht.1,X⟩) ?_);rintro _ w8 ⟨T,rfl,o⟩;refine aN Y (bC Y λsb w9 e9 ak al b1=>bF ak Y λwa F am b2=>?_);have t:=al.sn am;have c:=o.2.2.trans t;have b3:=a7.size;have b4:=o.2.2.size;have ab:=a.trans ((l.trans c));have ac:=((o.1.bQ t)).rs;have an:(2:Int)+T.ra.cM-r.s.ra.cM=2+((Q1 r.s.c x.st (C7 x.tb) size).rm.tot-x.st.rm.tot):=by rw[h.s.rs,ac];omega
    refine aQ 15 (λz=>z=qb) xK Y λp=>aE p F Y (aE p (c.bP S) Y (Xd.build Xb p rfl rfl (aE p F Y (aC p Y (aE p (((l.trans c)).bP i) Y (aC p Y (Xd.build Xb p rfl rfl (Xd.cK p rfl λwc B=>Xo.store Xb p rfl (B.bP (((l.trans c)).bP j)) (by first|(intro h;exact rfl)|(intro h;omega)) rfl rfl rfl λwd ao U b5=>aF p Y λwe G=>?_))))))));refine bF (G.bP (U.heap (B.bP (((l.trans c)).bP k)) (show ¬ub=qb by omega))) Y λwg n d Q=>?_;have a8:=(ab.trans B).sn U;have f:=(a8.trans G).sn d;have hK:Dm w3 r ⟨T,t5⟩:=⟨(o.2.1.dC (xH D.size)),a6.dC (xH a.size)⟩;exact bD rfl func32 (Xi.cell rfl rfl rfl (d.heap (G.bP ao) (show ¬qb=ub by omega)) rfl (.cell rfl rfl rfl n rfl .nil)) ⟨⟨T,t5⟩,none,0,by rw[<-an];rfl,Rd.nil _ _ _,(by intro b off s' e;cases e),(h.box hK ((h.box hK (⟨((o.1.bQ t)).bQ B,((a5.bQ (C.trans c))).bQ B⟩:Am wc ⟨T,t5⟩ ⟨Q1 r.s.c x.st (C7 x.tb) size,Ez x.tb⟩) X X U a8).bQ G) (show w.heap.size<=ub by omega) X d f),hK.dC X,f⟩
   .obtain⟨M,N,O,P⟩:=J (e:=Ys r.s.c x.st size) (λg=>V g.1) (by unfold Ci;rw[bJ L,bJ A]);rw[M,N,O,P];refine bI Y ?_;refine bB i Y (aO Y (bF j Y λwe y m a4=>?_));refine bF (m.heap k X) Y λwg n d Q=>?_;have f:=((a).sn m).sn d;exact bD rfl func32 (Xi.cell rfl rfl rfl (d.heap y X) rfl (.cell rfl rfl rfl n rfl .nil)) ⟨r,none,0,rfl,Rd.nil _ _ _,(by intro b off s' e;cases e),h.bQ f,Dm.refl _ _,f⟩
theorem Xm7{r:HR}{x:HpM}(h:Am w r x)(hx:x.Ok r.s.c)(hsl:r.s.c.cN<=500)(k:Int)(hk : -9223372036854775808<=k/\k<=9223372036854775807)(ht:0<=x.st.rm.tot/\x.st.rm.tot<=900000000000):Xe prog 33 #[.agg (Dt r).toArray,W k] w
 (Tt w r (X1 x.tb k) 0 ((if X1 x.tb k=0 then 2 else 0)+(1+((Bs r.s.c x k).st.rm.tot-x.st.rm.tot))) [] (Bs r.s.c x k)):=by
 have hs:=hx.st;refine aR func33 ntmps33 Y (bC Y λb w1 e1 hb a2 ai=>bC Y λqb w2 e2 a3 M aj=>bC Y λub w3 e3 N C ak=>?_);have O:=(M.trans C).bP hb;have D:=(a2.trans M).trans C;refine bB O Y (bG (Vy (h.t.bQ D) hx.tb k hk) Y λw4 l=>?_);have c:=D.trans l;have m:=l.bP O;have p:=l.bP (C.bP a3);have s:=l.bP N;have lu:=Xg N;have al:=l.size;by_cases B:X1 x.tb k=0
 .have eX:Bs r.s.c x k=⟨Aq r.s.c x.st (Zh x.tb k),Dj x.tb k⟩:=by unfold Bs;rw[bK B]
  rw[bK B,eX,B];have a4:=Tl (u:=⟨1,Zh x.tb k,0,0,[],none,0⟩) hs ht;rw[show Ab r.s.c x.st ⟨1,Zh x.tb k,0,0,[],none,0⟩=Aq r.s.c x.st (Zh x.tb k) by unfold Ab;rw[bJ (show ¬(1:Int)%7=0 by decide),bK (show(1:Int)%7=1 by decide)]] at a4;refine aS Y (bB m Y (aP Y (XgF (h.s.bQ c) hs (Zh x.tb k) ⟨ht.1,X⟩) ?_));rintro _ w5 ⟨F,rfl,f⟩;refine aN Y (bC Y λsb w6 e6 a5 a6 am=>bF a5 Y λw7 t a7 an=>?_);have j:=a6.sn a7;have d:=f.2.2.trans j;have v:=c.trans d;refine bB (d.bP m) Y (aP Y (Xmo (h.t.bQ v) hx.tb hsl k hk B) ?_);rintro _ w8 ⟨L,rfl,P,Q,R⟩;refine aN Y (bC Y λtb w9 e9 a8 a9 ao=>bF a8 Y λwa H aa ap=>?_);have y:=a9.sn aa;have a:=R.trans y;have aq:=f.2.2.size;have ar:=R.size;have U:=c.trans ((d.trans a));have V:=((f.1.bQ (j.trans a))).rs;have ab:(3:Int)+F.ra.cM-r.s.ra.cM=2+(1+((Aq r.s.c x.st (Zh x.tb k)).rm.tot-x.st.rm.tot)):=by rw[h.s.rs,V];omega
  refine aQ 14 (λz=>z=qb) xK Y λg=>aE g (a.bP t) Y (aE g H Y (Xd.build Xb g rfl rfl (aE g (a.bP t) Y (aC g Y (aE g (((d.trans a)).bP m) Y (aC g Y (Xd.build Xb g rfl rfl (Xd.cK g rfl λwc n=>Xo.store Xb g rfl (n.bP (((d.trans a)).bP p)) (by first|(intro h;exact rfl)|(intro h;omega)) rfl rfl rfl λwd ac I au=>aF g Y λwe A=>?_))))))));refine bF (A.bP (I.heap (n.bP (((d.trans a)).bP s)) (show ¬ub=qb by omega))) Y λwg J i ad=>?_;have S:=(U.trans n).sn I;have o:=(S.trans A).sn i;have hK:Dm w3 r ⟨F,L⟩:=⟨(f.2.1.dC (xH c.size)),Q.dC (xH v.size)⟩;exact bD rfl func33 (Xi.cell rfl rfl rfl (i.heap (A.bP ac) (show ¬qb=ub by omega)) rfl (.cell rfl rfl rfl J rfl .nil)) ⟨⟨F,L⟩,none,0,by rw[<-ab];rfl,Rd.nil _ _ _,(by intro b off s' e;cases e),(h.box hK ((h.box hK (⟨((f.1.bQ (j.trans a))).bQ n,((P.bQ y)).bQ n⟩:Am wc ⟨F,L⟩ ⟨Aq r.s.c x.st (Zh x.tb k),Dj x.tb k⟩) X X I S).bQ A) (show w.heap.size<=ub by omega) X i o),hK.dC X,o⟩
 .have eX:Bs r.s.c x k=x:=by unfold Bs;rw[bJ B]
  rw[bJ B,eX,YL];refine bI Y ?_;refine bB m Y (aO Y (bF p Y λwe ae T av=>?_));refine bF (T.heap s X) Y λwg J i ad=>?_;have o:=((c).sn T).sn i;exact bD rfl func33 (Xi.cell rfl rfl rfl (i.heap ae X) rfl (.cell rfl rfl rfl J rfl .nil)) ⟨r,none,0,rfl,Rd.nil _ _ _,(by intro b off s' e;cases e),h.bQ o,Dm.refl _ _,o⟩
theorem Xcq{r:HR}{x:HpM}(h:Am w r x)(hx:x.Ok r.s.c)(k:Int)(hk : -9223372036854775808<=k/\k<=9223372036854775807)(u:D7)(hu:Xaq w u)(ht:0<=x.st.rm.tot/\x.st.rm.tot<=900000000000):Xe prog 34 #[.agg (Dt r).toArray,W k,.agg (Rk u).toArray] w
 (Tt w r (if X1 x.tb k=0 then Ct r.s.c x.st {u with own:=Zh x.tb k} else X1 x.tb k) 0 (1+((if X1 x.tb k=0 then (⟨Ab r.s.c x.st {u with own:=Zh x.tb k},x.tb⟩:HpM) else x).st.rm.tot-x.st.rm.tot)) (if X1 x.tb k=0 then B7 r.s.c x.st {u with own:=Zh x.tb k} else []) (if X1 x.tb k=0 then ⟨Ab r.s.c x.st {u with own:=Zh x.tb k},x.tb⟩ else x)):=by
 have hs:=hx.st;refine aR func34 ntmps34 Y (bC Y λb w1 e1 hb a7 ap=>bC Y λab aq ar O D aj=>bC Y λqb w2 e2 a9 F au=>bC Y λub w3 e3 P C av=>?_);have Q:=((D.trans F).trans C).bP hb;have G:=((a7.trans D).trans F).trans C;refine bB Q Y (bG (Vy (h.t.bQ G) hx.tb k hk) Y λw4 f=>?_);have p:=G.trans f;have H:=f.bP Q;have q:=f.bP (C.bP a9);have s:=f.bP P;have lu:=Xg P;have aw:=f.size;by_cases t:X1 x.tb k=0
 .rw[bK t,bK t,bK t];obtain⟨v,ev⟩:∃v,v=({u with own:=Zh x.tb k}:D7):=⟨_,rfl⟩;rw[<-ev,t];have ax:=Tl (u:=v) hs ht;have ay:=Xg hb;have lab:=Xg O;refine aS Y (bF (f.bP ((F.trans C).bP O)) Y λw5 y l az=>?_);replace y:w5.heap[ab]?=some (.cells (Rk v).toArray 90 (0,0)):=by rw[ev];exact y
  have A:=p.sn l;have R:=l.heap H (show ¬b=ab by omega);have V:=l.heap q (show ¬qb=ab by omega);have a0:=l.heap s (show ¬ub=ab by omega);have hv:Xaq w5 v:=by rw[ev];exact⟨hu.kind,hu.a,hu.b,hu.rd.bR A,hu.rng,hu.lc,hu.len⟩
  refine bB R Y (bB y Y (aP Y (XmX v (h.s.bQ A) hs hv ⟨ht.1,X⟩) ?_));rintro _ w6 ⟨N,a8,a1,rfl,ac,I,m⟩;refine aN Y (bC Y λsb w7 e7 ad ae b0=>bF ad Y λw8 J a2 b1=>?_);have i:=ae.sn a2;have j:=m.2.2.trans i;have S:=j.bP R;have L:=A.trans j;have a3:=m.1.rs;have af:(1:Int)+N.ra.cM-r.s.ra.cM=1+((Ab r.s.c x.st v).rm.tot-x.st.rm.tot):=by rw[h.s.rs,a3];omega
  have b2:=m.2.2.size;refine aQ 17 (λz=>z=qb) xK Y λc=>aE c J Y (aE c S Y (Xd.build Xb c rfl rfl (aE c J Y (aC c Y (aE c S Y (aC c Y (Xd.build Xb c rfl rfl (Xd.cK c rfl λwc d=>Xo.store Xb c rfl (d.bP (j.bP V)) (by first|(intro h;exact rfl)|(intro h;omega)) rfl rfl rfl λwd ag n b3=>aF c Y λwe g=>?_))))))));refine bF (g.bP (n.heap (d.bP (j.bP a0)) (show ¬ub=qb by omega))) Y λwg M a ah=>?_;have T:=(L.trans d).sn n;have o:=(T.trans g).sn a;have hK:Dm w3 r ⟨N,r.t⟩:=⟨m.2.1.dC (xH l.size),λ_ _ h=>h⟩;have ao:w6.heap.size<=wg.heap.size:=by have:=i.size;have:=d.size;have:=n.size;have:=g.size;have:=a.size;omega
  exact bD rfl func34 (Xi.cell rfl rfl rfl (a.heap (g.bP ag) (show ¬qb=ub by omega)) rfl (.cell rfl rfl rfl M rfl .nil)) ⟨⟨N,r.t⟩,a8,a1,by rw[<-af];rfl,((((ac.bR (i.trans d)).bW (λb off s' e B=>xH (I b off s' e)) n).bR g).bW (λb off s' e B=>xH (I b off s' e)) a),(λb off s' e=>xH (I b off s' e)),(h.box hK ((h.box hK (⟨m.1.bQ (i.trans d),h.t.bQ (L.trans d)⟩:Am wc ⟨N,r.t⟩ ⟨Ab r.s.c x.st v,x.tb⟩) X X n T).bQ g) (show w.heap.size<=ub by omega) X a o),hK.dC X,o⟩
 .rw[bJ t,bJ t,bJ t,YL];refine bI Y ?_;refine bB H Y (aO Y (bF q Y λwe ai U b4=>?_));refine bF (U.heap s X) Y λwg M a ah=>?_;have o:=((p).sn U).sn a;exact bD rfl func34 (Xi.cell rfl rfl rfl (a.heap ai X) rfl (.cell rfl rfl rfl M rfl .nil)) ⟨r,none,0,rfl,Rd.nil _ _ _,(by intro b off s' e;cases e),h.bQ o,Dm.refl _ _,o⟩
theorem Xm9{r:HR}{x:HpM}(h:Am w r x)(hx:x.Ok r.s.c)(k:Int)(hk : -9223372036854775808<=k/\k<=9223372036854775807):Xe prog 10 #[.agg (Dt r).toArray,W k] w (Grow (W (if X1 x.tb k=0 then Q2 x.st (Zh x.tb k) else 0)) w):=by
 refine aR func10 ntmps10 Y (bC Y λb n e1 g d m=>?_);refine bB g Y (bG (Vy (h.t.bQ d) hx.tb k hk) Y λo f=>?_);have a:=d.trans f;by_cases c:X1 x.tb k=0
 .rw[bK c,c];obtain⟨j,ej,p,t,ht⟩:=hx.slot c;obtain⟨kk,⟨i,_⟩,_,_,q,off,eta,l,_,_⟩:=(h.s.bQ a).trowP ht;rw[ej];refine aS Y (bB (f.bP g) Y ?_);rw[eta];refine aU (j*5) Y (aW Y (l _ rfl) Y ?_);rw[i,C6 ht];exact bE func10 Y ⟨rfl,a⟩
 .rw[bJ c];exact bI Y (bE func10 Y ⟨rfl,a⟩)
theorem Xm4{r:HR}{x:HpM}(h:Am w r x)(hx:x.Ok r.s.c)(hsl:r.s.c.cN<=500)(u:Eg)(hu:I2 w u)(ht:0<=x.st.rm.tot/\x.st.rm.tot<=900000000000):Xe prog 12 #[.agg (Dt r).toArray,.agg (Et u).toArray] w
 (Tt w r (Qj r.s.c x u) (Qp r.s.c x u) (Yt r.s.c x u) (Z8 r.s.c x u) (Zg r.s.c x u)):=by
 have hs:=hx.st;refine aR func12 ntmps12 Y (bC Y λb w1 e1 hb aj ay=>bC Y λub w2 e2 ak ag az=>bC Y λqb w3 e3 al a4 b0=>bC Y λtb w4 e4 n V b1=>?_);have A:=((ag.trans a4).trans V).bP hb;have k:=(a4.trans V).bP ak;have y:=V.bP al;have m:=((aj.trans ag).trans a4).trans V;have S:=h.bQ m;refine bB k Y ?_;by_cases j:u.kind=1
 .have eX:Zg r.s.c x u=Bb r.s.c x u.a:=by unfold Zg;rw[bK j]
  have eE:Qj r.s.c x u=Ci r.s.c x u.a:=by unfold Qj;rw[bK j]
  have eG:Qp r.s.c x u=D9 r.s.c x u.a:=by unfold Qp;rw[bK j]
  have eK:Yt r.s.c x u=Ds r.s.c x u.a:=by unfold Yt;rw[bK j]
  have eB:Z8 r.s.c x u=[]:=by unfold Z8;rw[bJ X]
  refine bI Y (bB A Y (bB k Y ?_));rw[eE,eG,eK,eX,eB];refine aP Y (Xm3 S hx u.a ht) ?_;rintro _ w6 ⟨I,J,o,rfl,B,f,c⟩;have M:=c.2.2.size;refine aN Y (bF (c.2.2.bP y) Y λw7 p d H=>bF (d.heap (c.2.2.bP n) X) Y λw8 q a a0=>?_);have g:=(m.trans c.2.2).sn d;have i:=g.sn a;exact bD rfl func12 (Xi.cell rfl rfl rfl (a.heap p X) rfl (.cell rfl rfl rfl q rfl .nil)) ⟨I,J,o,rfl,((B.bW (λb off s' e l=>xH (f b off s' e)) d).bW (λb off s' e l=>xH (f b off s' e)) a),(λb off s' e=>xH (f b off s' e)),(h.box c.2.1 (h.box c.2.1 c.1 X X d g) X X a i),c.2.1.dC X,i⟩
 by_cases t:u.kind=2
 .have eX:Zg r.s.c x u=Bs r.s.c x u.h:=by unfold Zg;rw[bJ j,bK t]
  have eE:Qj r.s.c x u=X1 x.tb u.h:=by unfold Qj;rw[bJ j,bK t]
  have eG:Qp r.s.c x u=0:=by unfold Qp;rw[bJ j]
  have eK:Yt r.s.c x u=(if X1 x.tb u.h=0 then 2 else 0)+(1+((Bs r.s.c x u.h).st.rm.tot-x.st.rm.tot)):=by unfold Yt;rw[bJ j,bK t,eX]
  have eB:Z8 r.s.c x u=[]:=by unfold Z8;rw[bJ X]
  refine aS Y (bI Y (bB A Y (bB k Y ?_)));rw[eE,eG,eK,eX,eB];refine aP Y (Xm7 S hx hsl u.h hu.h ht) ?_;rintro _ w6 ⟨I,J,o,rfl,B,f,c⟩;have M:=c.2.2.size;refine aN Y (bF (c.2.2.bP y) Y λw7 p d H=>bF (d.heap (c.2.2.bP n) X) Y λw8 q a a0=>?_);have g:=(m.trans c.2.2).sn d;have i:=g.sn a;exact bD rfl func12 (Xi.cell rfl rfl rfl (a.heap p X) rfl (.cell rfl rfl rfl q rfl .nil)) ⟨I,J,o,rfl,((B.bW (λb off s' e l=>xH (f b off s' e)) d).bW (λb off s' e l=>xH (f b off s' e)) a),(λb off s' e=>xH (f b off s' e)),(h.box c.2.1 (h.box c.2.1 c.1 X X d g) X X a i),c.2.1.dC X,i⟩
 by_cases v:u.kind=3
 .have N:=Xcq S hx u.h hu.h ⟨3,0,u.a,u.b,[],none,0⟩ ⟨⟨show(0:Int)<=3 by decide,show(3:Int)<256 by decide⟩,hu.a,hu.b,Rd.nil _ _ _,(λ_ h=>by cases h),XF _,XQ _⟩ ht;have eG:Qp r.s.c x u=0:=by unfold Qp;rw[bJ j]
  have q1:(if X1 x.tb u.h=0 then Ct r.s.c x.st {(⟨3,0,u.a,u.b,[],none,0⟩:D7) with own:=Zh x.tb u.h} else X1 x.tb u.h)=Qj r.s.c x u:=by unfold Qj;rw[bJ j,bJ t,bK v];unfold B8 Ct;simp
  have q2:(if X1 x.tb u.h=0 then B7 r.s.c x.st {(⟨3,0,u.a,u.b,[],none,0⟩:D7) with own:=Zh x.tb u.h} else [])=Z8 r.s.c x u:=by unfold Z8;rw[bK v];unfold J0 B7;simp
  have q3:(if X1 x.tb u.h=0 then (⟨Ab r.s.c x.st {(⟨3,0,u.a,u.b,[],none,0⟩:D7) with own:=Zh x.tb u.h},x.tb⟩:HpM) else x)=Zg r.s.c x u:=by unfold Zg;rw[bJ j,bJ t,bK v];unfold E8 Ab;simp
  have eK:Yt r.s.c x u=1+((Zg r.s.c x u).st.rm.tot-x.st.rm.tot):=by unfold Yt;rw[bJ j,bJ t,bK (.inl v),Int.zero_add]
  rw[q1,q2,q3] at N;rw[eG,eK];refine aS Y (aS Y (bI Y (bB A Y (bB k Y (bB k Y (bB k Y (aO Y (aP Y (N) ?_))))))));rintro _ w6 ⟨I,J,o,rfl,B,f,c⟩;have M:=c.2.2.size;refine aN Y (bF (c.2.2.bP y) Y λw7 p d H=>bF (d.heap (c.2.2.bP n) X) Y λw8 q a a0=>?_);have g:=(m.trans c.2.2).sn d;have i:=g.sn a;exact bD rfl func12 (Xi.cell rfl rfl rfl (a.heap p X) rfl (.cell rfl rfl rfl q rfl .nil)) ⟨I,J,o,rfl,((B.bW (λb off s' e l=>xH (f b off s' e)) d).bW (λb off s' e l=>xH (f b off s' e)) a),(λb off s' e=>xH (f b off s' e)),(h.box c.2.1 (h.box c.2.1 c.1 X X d g) X X a i),c.2.1.dC X,i⟩
 by_cases K:u.kind=4
 .have N:=Xcq S hx u.h hu.h ⟨4,0,u.a,0,u.bs,u.ba,u.bc⟩ ⟨⟨show(0:Int)<=4 by decide,show(4:Int)<256 by decide⟩,hu.a,⟨show(-9223372036854775808:Int)<=0 by decide,show(0:Int)<=9223372036854775807 by decide⟩,hu.rd.bR m,hu.rng,hu.lc,hu.len⟩ ht;have eG:Qp r.s.c x u=0:=by unfold Qp;rw[bJ j]
  have q1:(if X1 x.tb u.h=0 then Ct r.s.c x.st {(⟨4,0,u.a,0,u.bs,u.ba,u.bc⟩:D7) with own:=Zh x.tb u.h} else X1 x.tb u.h)=Qj r.s.c x u:=by unfold Qj;rw[bJ j,bJ t,bJ v,bK K];unfold B8 Ct;simp
  have q2:(if X1 x.tb u.h=0 then B7 r.s.c x.st {(⟨4,0,u.a,0,u.bs,u.ba,u.bc⟩:D7) with own:=Zh x.tb u.h} else [])=Z8 r.s.c x u:=by unfold Z8;rw[bJ v];unfold B7;simp
  have q3:(if X1 x.tb u.h=0 then (⟨Ab r.s.c x.st {(⟨4,0,u.a,0,u.bs,u.ba,u.bc⟩:D7) with own:=Zh x.tb u.h},x.tb⟩:HpM) else x)=Zg r.s.c x u:=by unfold Zg;rw[bJ j,bJ t,bJ v,bK K];unfold E9 Ab;simp
  have eK:Yt r.s.c x u=1+((Zg r.s.c x u).st.rm.tot-x.st.rm.tot):=by unfold Yt;rw[bJ j,bJ t,bK (.inr (.inl K)),Int.zero_add]
  rw[q1,q2,q3] at N;rw[eG,eK];refine aS Y (aS Y (aS Y (bI Y (bB A Y (bB k Y (bB k Y (bB k Y (aO Y (aP Y (N) ?_)))))))));rintro _ w6 ⟨I,J,o,rfl,B,f,c⟩;have M:=c.2.2.size;refine aN Y (bF (c.2.2.bP y) Y λw7 p d H=>bF (d.heap (c.2.2.bP n) X) Y λw8 q a a0=>?_);have g:=(m.trans c.2.2).sn d;have i:=g.sn a;exact bD rfl func12 (Xi.cell rfl rfl rfl (a.heap p X) rfl (.cell rfl rfl rfl q rfl .nil)) ⟨I,J,o,rfl,((B.bW (λb off s' e l=>xH (f b off s' e)) d).bW (λb off s' e l=>xH (f b off s' e)) a),(λb off s' e=>xH (f b off s' e)),(h.box c.2.1 (h.box c.2.1 c.1 X X d g) X X a i),c.2.1.dC X,i⟩
 by_cases T:u.kind=5
 .have N:=Xcq S hx u.h hu.h ⟨2,0,u.a,0,[],none,0⟩ ⟨⟨show(0:Int)<=2 by decide,show(2:Int)<256 by decide⟩,hu.a,⟨show(-9223372036854775808:Int)<=0 by decide,show(0:Int)<=9223372036854775807 by decide⟩,Rd.nil _ _ _,(λ_ h=>by cases h),XF _,XQ _⟩ ht;have eG:Qp r.s.c x u=0:=by unfold Qp;rw[bJ j]
  have q1:(if X1 x.tb u.h=0 then Ct r.s.c x.st {(⟨2,0,u.a,0,[],none,0⟩:D7) with own:=Zh x.tb u.h} else X1 x.tb u.h)=Qj r.s.c x u:=by unfold Qj;rw[bJ j,bJ t,bJ v,bJ K,bK T];unfold I8 Ct;simp
  have q2:(if X1 x.tb u.h=0 then B7 r.s.c x.st {(⟨2,0,u.a,0,[],none,0⟩:D7) with own:=Zh x.tb u.h} else [])=Z8 r.s.c x u:=by unfold Z8;rw[bJ v];unfold B7;simp
  have q3:(if X1 x.tb u.h=0 then (⟨Ab r.s.c x.st {(⟨2,0,u.a,0,[],none,0⟩:D7) with own:=Zh x.tb u.h},x.tb⟩:HpM) else x)=Zg r.s.c x u:=by unfold Zg;rw[bJ j,bJ t,bJ v,bJ K,bK T];unfold Gm Ab;simp
  have eK:Yt r.s.c x u=1+((Zg r.s.c x u).st.rm.tot-x.st.rm.tot):=by unfold Yt;rw[bJ j,bJ t,bK (.inr (.inr T)),Int.zero_add]
  rw[q1,q2,q3] at N;rw[eG,eK];refine aS Y (aS Y (aS Y (aS Y (bI Y (bB A Y (bB k Y (bB k Y (aO Y (aP Y (N) ?_)))))))));rintro _ w6 ⟨I,J,o,rfl,B,f,c⟩;have M:=c.2.2.size;refine aN Y (bF (c.2.2.bP y) Y λw7 p d H=>bF (d.heap (c.2.2.bP n) X) Y λw8 q a a0=>?_);have g:=(m.trans c.2.2).sn d;have i:=g.sn a;exact bD rfl func12 (Xi.cell rfl rfl rfl (a.heap p X) rfl (.cell rfl rfl rfl q rfl .nil)) ⟨I,J,o,rfl,((B.bW (λb off s' e l=>xH (f b off s' e)) d).bW (λb off s' e l=>xH (f b off s' e)) a),(λb off s' e=>xH (f b off s' e)),(h.box c.2.1 (h.box c.2.1 c.1 X X d g) X X a i),c.2.1.dC X,i⟩
 by_cases k6:u.kind=6
 .have eX:Zg r.s.c x u=Lo r.s.c x:=by unfold Zg;rw[bJ j,bJ t,bJ v,bJ K,bJ T,bK k6]
  have eE:Qj r.s.c x u=0:=by unfold Qj;rw[bJ j,bJ t,bJ v,bJ K,bJ T,bK k6]
  have eG:Qp r.s.c x u=0:=by unfold Qp;rw[bJ j]
  have eB:Z8 r.s.c x u=[]:=by unfold Z8;rw[bJ v]
  have eK:Yt r.s.c x u=(D4 r.s.c x.st).rm.tot-x.st.rm.tot:=by unfold Yt;rw[bJ j,bJ t,bJ X,eX];rfl
  rw[eE,eG,eK,eX,eB];refine aS Y (aS Y (aS Y (aS Y (aS Y (bI Y (bB A Y (aP Y (XgH S.s hs ⟨ht.1,X⟩) ?_)))))));rintro _ w6 ⟨O,rfl,a⟩;refine aN Y (bC Y λsb w7 e7 a9 aa H=>bF a9 Y λw9 L ab ao=>?_);have C:=aa.sn ab;have s:=a.2.2.trans C;have ah:=s.bP A;have D:=m.trans s;have ap:O.ra.cM-r.s.ra.cM=(D4 r.s.c x.st).rm.tot-x.st.rm.tot:=by rw[h.s.rs,a.1.rs]
  have M:=a.2.2.size;have aq:=Xg n;have ar:=Tl (u:=⟨5,0,0,0,[],none,0⟩) hs ht;rw[show Ab r.s.c x.st ⟨5,0,0,0,[],none,0⟩=D4 r.s.c x.st by unfold Ab;rw[bJ (show ¬(5:Int)%7=0 by decide),bJ (show ¬(5:Int)%7=1 by decide),bJ (show ¬(5:Int)%7=2 by decide),bJ (show ¬(5:Int)%7=3 by decide),bJ (show ¬(5:Int)%7=4 by decide),bK (show(5:Int)%7=5 by decide)]] at ar;have b2:¬sb=qb:=X
  have b3:¬b=qb:=X
  refine aQ 14 (λz=>z=qb) xK Y λG=>aE G L Y (aE G ah Y (Xd.build Xb G rfl rfl (aE G L Y (aE G ah Y (aC G Y (Xd.build Xb G rfl rfl (Xd.cK G rfl λwc P=>Xo.store Xb G rfl (P.bP (s.bP y)) (by first|(intro h;exact rfl)|(intro h;omega)) rfl rfl rfl λwd ac E au=>aF G Y λwe a1=>?_)))))));refine bF (a1.bP (E.heap (P.bP (s.bP n)) (show ¬tb=qb by omega))) Y λwg ad F av=>?_;have Q:=(D.trans P).sn E;have R:=(Q.trans a1).sn F;have U:Dm w4 r ⟨O,r.t⟩:=⟨a.2.1,λ_ _ h=>h⟩;exact bD rfl func12 (Xi.cell rfl rfl rfl (F.heap (a1.bP ac) (show ¬qb=tb by omega)) rfl (.cell rfl rfl rfl ad rfl .nil)) ⟨⟨O,r.t⟩,none,0,by rw[<-ap];rfl,Rd.nil _ _ _,(by intro b off s' e;cases e),(h.box U ((h.box U (⟨(a.1.bQ C).bQ P,h.t.bQ (D.trans P)⟩:Am wc ⟨O,r.t⟩ (Lo r.s.c x)) X X E Q).bQ a1) (show w.heap.size<=tb by omega) X F R),U.dC (xH m.size),R⟩
 have eX:Zg r.s.c x u=Ii x u.a u.b:=by unfold Zg;rw[bJ j,bJ t,bJ v,bJ K,bJ T,bJ k6]
 have eE:Qj r.s.c x u=Cd x.st u.a u.b:=by unfold Qj;rw[bJ j,bJ t,bJ v,bJ K,bJ T,bJ k6]
 have eG:Qp r.s.c x u=0:=by unfold Qp;rw[bJ j]
 have eB:Z8 r.s.c x u=[]:=by unfold Z8;rw[bJ v]
 have eK:Yt r.s.c x u=0:=by
  unfold Yt;rw[bJ j,bJ t,bJ X,eX];have:(Ii x u.a u.b).st.rm.tot=x.st.rm.tot:=by unfold Ii Cw;split <;> rfl
  omega
 rw[eE,eG,eK,eX,eB];refine aS Y (aS Y (aS Y (aS Y (aS Y (aS Y (bB A Y (bB k Y (bB k Y (aP Y (XgG S.s hs u.a u.b) ?_)))))))));rintro _ w6 ⟨O,rfl,a⟩;refine aN Y (bC Y λsb w7 e7 a9 aa H=>bF a9 Y λw9 L ab ao=>?_);have C:=aa.sn ab;have s:=a.2.2.trans C;have D:=m.trans s;have aq:=Xg n;refine bB L Y (bB (s.bP A) Y (aO Y (aO Y (bF (s.bP y) Y λwd ac E au=>bF (E.heap (s.bP n) (show ¬tb=qb by omega)) Y λwg ad F av=>?_))));have Q:=D.sn E;have R:=Q.sn F;have U:Dm w4 r ⟨O,r.t⟩:=⟨a.2.1,λ_ _ h=>h⟩;exact bD rfl func12 (Xi.cell rfl rfl rfl (F.heap ac (show ¬qb=tb by omega)) rfl (.cell rfl rfl rfl ad rfl .nil)) ⟨⟨O,r.t⟩,none,0,rfl,Rd.nil _ _ _,(by intro b off s' e;cases e),(h.box U (h.box U (⟨a.1.bQ C,h.t.bQ D⟩:Am w9 ⟨O,r.t⟩ (Ii x u.a u.b)) X X E Q) (show w.heap.size<=tb by omega) X F R),U.dC (xH m.size),R⟩
theorem Xm.bl{x:List Bool}(h:Xm base 4 1 w v m (x.map Value.bool))(hm:x.length=m)(hx:x.length<=512):∃l:BL,v=T8 l/\l.x=x/\Hn w l/\∀b off s,l.a=some ⟨b,off,s⟩->base<=b:=by
 rcases h.2 with⟨rfl,k⟩|⟨g,cap,cur,rfl,f,c,a,j,_,d⟩
 .have:x=[]:=ZZ.1 X;subst this;exact⟨⟨none,0,[]⟩,rfl,rfl,⟨(λi hi=>by cases hi),hx,XF _,(by intro b off s e;cases e)⟩,(by intro b off s e;cases e)⟩
 .subst hm;exact⟨⟨some ⟨g,0,none⟩,cap,x⟩,rfl,rfl,⟨C9.of_take c (xU d),hx,a,(by intro b off s e;cases e;exact Xg c)⟩,(by intro b off s e;cases e;exact f)⟩
theorem XoC{vg vl vf:dE}(h:Xav base w N vg vl vf)(hN:N<=512):∃r:Cz,Dk r=[vg,vl,vf,W cH]/\Dn w r (Cu (N:Nat) cH)/\∀S:Nat->Prop,(∀z,S z->z<base)->I3 S r:=by
 have e1:List.replicate N (W 1)=(List.replicate N (1:Int)).map W:=by rw[List.map_replicate]
 have e2:List.replicate N (Value.bool false)=(List.replicate N false).map Value.bool:=by rw[List.map_replicate]
 have e3:((List.range N).map λn:Nat=>W (n:Int))=((List.range N).map (λn:Nat=>(n:Int))).map W:=by rw[List.map_map];rfl
 have d:=h.g;have i:=h.l;have hf:=h.f;rw[e1] at d;rw[e2] at i;rw[e3] at hf;obtain⟨g,rfl,gx,gX,gB⟩:=Xm.il d xS (xU hN);obtain⟨l,rfl,lx,lX,lB⟩:=Xm.bl i xS (xU hN);obtain⟨f,rfl,fx,fX,fB⟩:=Xm.il hf xS (xU hN);exact⟨⟨g,l,f,cH⟩,rfl,⟨gX,lX,fX,gx,lx,fx,rfl⟩,λS c=>⟨λb off s e a=>xI (gB b off s e) (c b a),λb off s e a=>xI (lB b off s e) (c b a),λb off s e a=>xI (fB b off s e) (c b a)⟩⟩
theorem Xm8(c:Conf)(p:Yz)(w:dD)(hc:Yd w c p)(hm:Xy c=true)(hp:c.bS<=512)(hsl:c.cN<=512):Xe prog 29 #[.agg (X5 c p).toArray] w
 (λv w'=>∃r,v=.tuple #[.agg (Dt r).toArray,W 0]/\r.s.c=c/\r.s.cp=p/\Am w' r (Ha c)/\(∀S:Nat->Prop,(∀z,S z->z<w.heap.size)->Xj S p.ka->Ge S r)/\Xc Xf w w'):=by
 have a4:1<=c.cN/\1<=c.cS/\c.cS<=1023:=by
  have:=hm;unfold Xy at this;simp only[XI,decide_eq_true_eq,Qu] at this;omega
 obtain⟨N,E⟩:=XE (show 0<=c.cN by omega);refine aR func29 ntmps29 Y (bC Y λb w1 e1 F G a5=>bC Y λqb V e2 o i a6=>?_);have a:=G.trans i;refine bB (i.bP F) Y (aP Y (XmY c p V (hc.bR a) hm hp) ?_);rintro _ w3 ⟨n,rfl,q,u,H,x,I⟩;refine aN Y (bC Y λsb w4 e4 J K a7=>bF J Y λw5 B L a8=>?_);have j:=K.sn L;have d:=I.trans j;have y:=d.bP (i.bP F);refine aS Y (bB y Y (bB y Y ?_));rw[E];refine aP Y (Xmp N c.cS w5 X X) ?_;rintro _ w6 ⟨vg,vl,vf,rfl,hT,⟨ga,gn,gc,rfl⟩,⟨la,ln,lc,rfl⟩,⟨fa,fn,fc,rfl⟩,M⟩;refine aN Y ?_;obtain⟨t,et,ht,A⟩:=XoC (cH:=c.cS) hT X;refine bC Y λtb w7 e7 O P a9=>bF O Y λw8 C Q aa=>?_;have k:=P.sn Q;have f:=M.trans k;refine bB (f.bP B) Y (bB C Y (aO Y ?_));refine bF ((d.trans f).bP o) Y λR h l ab=>?_;have ac:=d.size;have m:=((a.trans d).trans f).sn l;have hf:=Zr hm;have D:Yw w p.ka:=λb' off s e=>hc.bV.block (xI hf.bV hf.n) e;have a2:=(Xg o);have T:Dn R t (Cu c.cN c.cS):=by rw[E];exact(ht.bQ k).bW (A (λz=>z=qb) (λz e=>X)) l
 have eV:Dt ⟨n,t⟩=Yc n++[.slice ga gn gc,.slice la ln lc,.slice fa fn fc,W c.cS]:=by unfold Dt;rw[et]
 replace h:Fa R qb ⟨n,t⟩:=by unfold Fa;rw[eV];exact h
 exact aK func29 h Y ⟨⟨n,t⟩,rfl,q,u,⟨((H.bQ (j.trans f)).bW (x _ (λz e=>X) (λb' off s e g=>xH (D b' off s e))) (by rw[q,u];exact hc.bR m) l),T⟩,λS U hk=>⟨x S (λz g=>xI (U z g) a.size) hk,A S (λz g=>xI (U z g) a.size)⟩,m⟩
theorem Xj.or{A:Nat->Prop}(h1:Xj A a)(h2:Xj B a)(h:∀z,C z->A z\/B z):Xj C a:=λb off s e c=>(h b c).elim (h1 b off s e) (h2 b off s e)
theorem Yq.or{A B C:Nat->Prop}{r:RS}(h1:Yq A r)(h2:Yq B r)(h:∀z,C z->A z\/B z):Yq C r:=⟨h1.o.or h2.o h,h1.f.or h2.f h,h1.cP.or h2.cP h,h1.cG.or h2.cG h,h1.pa.or h2.pa h,λl a=>(h1.cI l a).or (h2.cI l a) h⟩
theorem Da.or{A B C:Nat->Prop}{r:RR}(h1:Da A r)(h2:Da B r)(h:∀z,C z->A z\/B z):Da C r:=⟨h1.o.or h2.o h,h1.f.or h2.f h,h1.sa.or h2.sa h,λs a=>(h1.cI s a).or (h2.cI s a) h,h1.la.or h2.la h,λq b=>(h1.lgo q b).or (h2.lgo q b) h⟩
theorem Bp.or{A B C:Nat->Prop}{r:SR}(h1:Bp A r)(h2:Bp B r)(h:∀z,C z->A z\/B z):Bp C r:=⟨h1.k.or h2.k h,h1.ra.or h2.ra h,h1.rr.or h2.rr h,h1.ta.or h2.ta h,λt ht=>(h1.tq t ht).or (h2.tq t ht) h,h1.ma.or h2.ma h⟩
theorem I3.or{A B C:Nat->Prop}{r:Cz}(h1:I3 A r)(h2:I3 B r)(h:∀z,C z->A z\/B z):I3 C r:=⟨Xj.or h1.1 h2.1 h,Xj.or h1.2.1 h2.2.1 h,Xj.or h1.2.2 h2.2.2 h⟩
theorem Ge.or{A B C:Nat->Prop}{r:HR}(h1:Ge A r)(h2:Ge B r)(h:∀z,C z->A z\/B z):Ge C r:=⟨h1.1.or h2.1 h,I3.or h1.2 h2.2 h⟩
structure Bh(c:Conf)(p:Yz)(n0:Nat)(w0 w:dD)(F:Nat->Prop)(P:A7)(x:HpM)(r:HR)(xb:Nat):Prop where
 hr:Am w r x
 rc:r.s.c=c/\r.s.cp=p
 out:Ge (Ye F P) r
 xr:Ge (λz=>z=xb) r
 box:Fa w xb r
 xo:n0<=xb/\w0.heap.size<=xb/\¬Ye F P xb
section
variable {c:Conf}{p:Yz}{n0:Nat}{w0 w w':dD}{F F':Nat->Prop}{S S':Sto}{H:Nat}{P:A7}{x x':HpM}{r:HR}{xb:Nat}
theorem Am.out{S:Nat->Prop}(h:Am w r x)(hs:∀z,S z->w.heap.size<=z):Ge S r:=⟨h.s.out hs,h.t.out hs⟩
theorem Bh.bQ(h:Bh c p n0 w0 w F P x r xb)(hc:Xc Xf w w'):Bh c p n0 w0 w' F P x r xb:=⟨h.hr.bQ hc,h.rc,h.out,h.xr,hc.bP h.box,h.xo⟩
theorem Am.bW{Q:Nat->Prop}(h:Am w r x)(ho:Ge Q r)(hcf:Yd w' r.s.c r.s.cp)(hc:Xc Q w w'):Am w' r x:=⟨h.s.bW ho.1 hcf hc,h.t.bW ho.2 hc⟩
theorem Bh.prog(h:Bh c p n0 w0 w F P x r xb)(hc:Yd w' c p)(hF:∀z,F' z->F z\/w.heap.size<=z)(hch:Xc (Ye F P) w w'):Bh c p n0 w0 w' F' P x r xb:=by
 have b:∀z,Ye F' P z->Ye F P z\/w.heap.size<=z:=λz a=>a.elim (λg=>(hF z g).elim (λg=>.inl (.inl g)) .inr) (λg=>.inl (.inr g));exact⟨h.hr.bW h.out (by rw[h.rc.1,h.rc.2];exact hc) hch,h.rc,h.out.or (h.hr.out λ_ a=>a) b,h.xr,hch.heap h.box h.xo.2.2,h.xo.1,h.xo.2.1,λa=>(b _ a).elim h.xo.2.2 λg=>xH (Xg h.box)⟩
end
theorem XkD(c:Conf)(p:Yz)(w:dD)(hc:Yd w c p)(ht:Bk w)(hm:Xy c=true)(hp:c.bS<=512)(hsl:c.cN<=512):Xe prog 9 #[.agg (X5 c p).toArray] w
 (λv w'=>∃n0 F S H P r,v=.tuple #[Dc H,.agg (Dt r).toArray]/\Hv c n0 w w' F S H P (Ha c)/\w.heap.size<=n0/\Am w' r (Ha c)/\(r.s.c=c/\r.s.cp=p)/\Ge (Ye F P) r):=by
 refine aR func9 ntmps9 Y (bC Y λcb w1 e1 J K a8=>bC Y λqb w2 e2 L u a9=>?_);have m:=u.bP J;have d:=K.trans u;refine bB m Y (aP Y (Xe2 c p w2 (hc.bR d) (ht.bQ d) hm) ?_);rintro _ M ⟨n0,F,S,H,P,rfl,j,f,aa,ab,y⟩;refine aN Y (bB (f.bP m) Y (aP Y (Xm8 c p M (hc.bR (d.trans f)) hm hp hsl) ?_));rintro _ w4 ⟨r,rfl,A,B,N,C,O⟩;refine aN Y (bC Y λtb w5 e5 Q R ac=>bF Q Y λw6 E T ad=>?_);refine aQ 3 Xf xK Y λU=>aE U E Y (aF U Y λw7 V=>?_);have n:=Zr hm;have o:Yw w p.ka:=λb off s e=>hc.bV.block (xI n.bV n.n) e;have q:=(R.sn T).trans V;have h:=O.trans q;have i:=h.bP (f.bP L);have a:=j.bQ h;have s3:=f.size;refine bF i Y λw8 G g ae=>?_;have a1:¬F qb:=λhz=>xH (j.hm.lv.base qb hz)
 have t:=((d.trans f).trans h).sn g;have tl:=World.block_lt_of_cell? w _ (ht 0 xD);have a2:Lv c n0 w w8 F S (Es c):=by
  obtain⟨Fr,mo,k1⟩:=a.hm.lv.ok;obtain⟨l,hz⟩:∃l,w7.heap[qb]?=some (.cells (W 0::l).toArray 47 (0,0)):=⟨_,i⟩;exact⟨⟨Fr,mo,(k1.old hz a1 xD (λx e=>by cases e) X (by rw[y];intro off s' e;have:=hc.bT.block (xH n.n) e;omega) (by rw[y];intro off s' e;have:=o _ _ _ e;omega) g)⟩,a.hm.lv.inv,a.hm.lv.sc,a.hm.lv.fx,λz hz=>xH (a.hm.lv.base z hz),t⟩
 have I:=j.hm.low;have hH:¬H=qb:=λe=>by
  have k:=X2 a.hm.obj;rw[e,X2 i] at k;exact absurd (Option.some.inj (Option.some.inj k)) xD
 have a3:Hv c n0 w w8 F S H P (Ha c):=⟨⟨a2,g.heap a.hm.obj hH,a.hm.tb.bR g X X,⟨I.1,X,X⟩,a.hm.out⟩,a.dA,a.ok⟩;have D:∀z,Ye F P z->w.heap.size<=z/\z<M.heap.size:=λz hz=>by
  obtain⟨hd,fn,ka,kb,_⟩:=j.hm.tb.at';have l1:=Xg ka;have l2:=Xg kb;rcases hz with hz|hz|hz
  .exact⟨xH (j.hm.lv.base z hz),j.hm.lv.low z hz⟩
  .omega
  .omega
 exact bD rfl func9 (Xi.tmp rfl (Xi.cell rfl rfl rfl G rfl .nil)) ⟨n0,F,S,H,P,r,rfl,a3,X,((N.bQ q).bW (C _ (λz e=>X) (λb off s e hz=>xH (o b off s e))) (by rw[A,B];exact hc.bR t) g),⟨A,B⟩,(C _ (λz hz=>(D z hz).2) (λb off s e hz=>xI (o b off s e) (D b hz)))⟩
theorem XoJ{x:HpM}(h:x.Ok c)(u:Eg)(ht:0<=x.st.rm.tot/\x.st.rm.tot<=900000000000):0<=(Zg c x u).st.rm.tot/\(Zg c x u).st.rm.tot<=x.st.rm.tot+1000000000:=by
 have b:=λv:D7=>Tl (u:=v) h.st ht;unfold Ab at b;have a:0<=x.st.rm.tot/\x.st.rm.tot<=x.st.rm.tot+1000000000:=⟨ht.1,X⟩;unfold Zg;split
 .unfold Bb;split
  .exact b ⟨0,C7 x.tb,u.a,0,[],none,0⟩
  .exact a
 split
 .unfold Bs;split
  .exact b ⟨1,Zh x.tb u.h,0,0,[],none,0⟩
  .exact a
 split
 .unfold E8;split
  .exact b ⟨3,Zh x.tb u.h,u.a,u.b,[],none,0⟩
  .exact a
 split
 .unfold E9;split
  .exact b ⟨4,Zh x.tb u.h,u.a,0,u.bs,none,0⟩
  .exact a
 split
 .unfold Gm;split
  .exact b ⟨2,Zh x.tb u.h,u.a,0,[],none,0⟩
  .exact a
 split
 .exact b ⟨5,0,0,0,[],none,0⟩
 .exact b ⟨6,u.a,u.b,0,[],none,0⟩
structure Ho(w9:dD)(r:HR)(x':HpM)(B:List Int)(r':HR)(a:Option dF)(w:dD):Prop where
 hr:Am w r' x'
 rd:Rd .u8 w a B
 ch:Xc Xf w9 w
 bV:Dm w9 r r'
 lo:∀b off s,a=some ⟨b,off,s⟩->w9.heap.size<=b/\b<w.heap.size
def Ki(r':HR)(a:Option dF)(b:Nat):Prop:=Ge (λz=>z=b) r'/\Xj (λz=>z=b) a
theorem Xm5{w:dD}{r:HR}{x:HpM}(h:Am w r x)(hx:x.Ok c)(hc:r.s.c=c)(hsl:c.cN<=500)(u:Eg)(hu:I2 w u)(ht:0<=x.st.rm.tot/\x.st.rm.tot<=900000000000):∀w',Xc Xf w w'->Xe prog 12 #[.agg (Dt r).toArray,.agg (Et u).toArray] w'
 (λv w2=>∃r' a cap,v=.tuple #[.agg (Dt r').toArray,.agg (Mc (Qj c x u) (Qp c x u) a (Z8 c x u).length cap (Yt c x u)).toArray]/\Ho w r (Zg c x u) (Z8 c x u) r' a w2/\Xc Xf w' w2/\∀b,w.heap.size<=b->(b<w'.heap.size\/w2.heap.size<=b)->Ki r' a b):=by
 subst hc;intro w' d;refine(Xm4 (h.bQ d) hx hsl u (hu.bQ d) ht).mono ?_;rintro v w2 ⟨r',a,cap,e,i,f,j,g,k⟩;have m:=d.size;refine⟨r',a,cap,e,⟨j,i,d.trans k,g.dC m,λb off s e=>xH (f b off s e)⟩,k,λb o l=>⟨?_,λb' off s e' n=>xH (f b' off s e')⟩⟩;rcases l with hb'|hb'
 .exact⟨g.1.2.2 _ (λz e=>X) (h.s.out λz e=>X),g.2 _ (λz e=>X) (h.t.out λz e=>X)⟩
 .exact j.out λz e=>X
structure Ee(w9:dD)(r:HR)(x':HpM)(B:List Int)(r':HR)(a:Option dF)(qb:Nat)(qc:List dE)(w:dD):Prop where
 d:Ho w9 r x' B r' a w
 box:w.heap[qb]?=some (.cells qc.toArray 47 (0,0))
 q0:w9.heap.size<=qb
 off:Ki r' a qb
structure Gc(w9:dD)(r':HR)(a:Option dF)(tb:Nat)(tc:List dE)(w:dD):Prop where
 box:w.heap[tb]?=some (.cells tc.toArray 58 (0,0))
 q0:w9.heap.size<=tb
 off:Ki r' a tb
section
variable {w9 w w':dD}{r r':HR}{x x':HpM}{B:List Int}{a:Option dF}{qb tb:Nat}{qc qc' tc tc':List dE}
theorem Dm.out{w:dD}(h:Dm w r r')(hS:∀z,S z->z<w.heap.size)(ho:Ge S r):Ge S r':=⟨h.1.2.2 S hS ho.1,h.2 S hS ho.2⟩
theorem Ho.bQ(h:Ho w9 r x' B r' a w)(hc:Xc Xf w w'):Ho w9 r x' B r' a w':=⟨h.hr.bQ hc,h.rd.bR hc,h.ch.trans hc,h.bV,λb off s e=>xI (h.lo b off s e) hc.size⟩
theorem Ee.bQ(h:Ee w9 r x' B r' a qb qc w)(hc:Xc Xf w w'):Ee w9 r x' B r' a qb qc w':=⟨h.d.bQ hc,hc.bP h.box,h.q0,h.off⟩
theorem Gc.bQ(h:Gc w9 r' a tb tc w)(hc:Xc Xf w w'):Gc w9 r' a tb tc w':=⟨hc.bP h.box,h.q0,h.off⟩
theorem Ho.bW{b:Nat}(h:Ho w9 r x' B r' a w)(h0:Am w9 r x)(hb:w9.heap.size<=b)(ho:Ki r' a b)(hc:Xc (λz=>z=b) w w'):Ho w9 r x' B r' a w':=by
 have c:=h.ch.sn hc;refine⟨h.hr.bW ho.1 ?_ hc,h.rd.bW (λb' off s' e d=>ho.2 b' off s' e d) hc,c,h.bV,λb' off s e=>xI (h.lo b' off s e) hc.size⟩;have:=h0.s.cO.bR c;rw[h.bV.1.1,h.bV.1.2.1];exact this
theorem Ee.st(h:Ee w9 r x' B r' a qb qc w)(h0:Am w9 r x)(hb:w'.heap[qb]?=some (.cells qc'.toArray 47 (0,0)))(hc:Xc (λz=>z=qb) w w'):Ee w9 r x' B r' a qb qc' w':=⟨h.d.bW h0 h.q0 h.off hc,hb,h.q0,h.off⟩
theorem Xew(h:Ee w9 r x' B r' a qb qc w)(k:Gc w9 r' a tb tc w):¬qb=tb:=λe=>by
 have b:=h.box;rw[e,k.box] at b;cases b
theorem Gc.st(k:Gc w9 r' a tb tc w)(h:Ee w9 r x' B r' a qb qc w)(hc:Xc (λz=>z=qb) w w'):Gc w9 r' a tb tc w':=⟨hc.heap k.box (λe=>Xew h k e.symm),k.q0,k.off⟩
theorem Ee.stY(h:Ee w9 r x' B r' a qb qc w)(k:Gc w9 r' a tb tc w)(h0:Am w9 r x)(hc:Xc (λz=>z=tb) w w'):Ee w9 r x' B r' a qb qc w':=⟨h.d.bW h0 k.q0 k.off hc,hc.heap h.box (Xew h k),h.q0,h.off⟩
end
section
variable {c:Conf}{M:RmM}
end
section
variable {c:Conf}{s s':StM}{pd:Option (Nat×PlcM)}
end
section
variable {c:Conf}{s:StM}
end
def En(c:Conf)(z:Int):Bool:=decide (1<=z) && decide (z<=c.cH)
theorem Lu{c:Conf}(hm:Xy c=true)(hz:1<=z):Xl c.bT z=-1↔D2 c<z:=by
 have f:A9 c.bT c.size=true:=by unfold Xy at hm;simp only[XI] at hm;exact hm.1.1.1.1.1.2
 have n:=Ug f;unfold Xl D2;rw[bJ X,bJ X];constructor
 .intro h;have:=Xe9 (p:=λs=>decide (z<=s)) (l:=c.bT) X;refine Int.not_le.1 λb=>?_;unfold idx at h;cases hf:c.bT.findIdx? (λs=>decide (z<=s)) with
  |some i=>rw[hf] at h;simp only at h;omega
  |none=>
   rw[List.findIdx?_eq_none_iff] at hf;have a:=hf (c.bT[c.bT.length-1]'X) (XL _);rw[XB,XD (show c.bT.length-1<c.bT.length by omega)] at b;simp at a b;omega
 .intro h;refine Ij λj k=>bO ?_;have g:∀d,j+d<c.bT.length->c.bT.getD j 0<=c.bT.getD (j+d) 0:=λd=>by
   induction d with
   |zero=>exact λ_=>YN _
   |succ d ih=>exact λo=>by have:=ih X;have:=Xjr f (j+d) X;rw[show j+(d+1)=j+d+1 by omega];omega
  have m:=g (c.bT.length-1-j) X;rw[show j+(c.bT.length-1-j)=c.bT.length-1 by omega] at m;have e:c.bT.getD j 0=c.bT[j]:=by rw[XB,XD k];rfl
  omega
section
variable {c:Conf}{s:StM}
end
abbrev Up(t t' n:Int):Prop:=(t<=t'/\t'<=t+n)/\0<=t'/\t'<=4611686018427387904
theorem Km{t n:Int}(ht:0<=t/\t<=4611686018427387904)(hn:0<=n):Up t (Xu t n) n:=by unfold Xu;split <;> omega
theorem Gd.held{p q:PlM}{c:Int}(h:Gd p q c)(hg:p.Good)(hc:0<=c):Zd q<=Zd p+1/\Zd p<=Zd q+1:=by
 rcases h with rfl|⟨n,r,hf,rfl⟩|⟨n,a,b,rfl⟩
 .omega
 .obtain⟨a,b⟩:=hg.free n (by rw[hf];simp);have:=Hd (v:=c) a;rw[bK b,bJ X] at this;unfold Zd;rw[(Xaa hf _).1];omega
 .have:=Hd (v:=-1) a;rw[bJ X,bK rfl] at this;show Xt (p.own.set n (-1))<=Xt p.own+1/\Xt p.own<=Xt (p.own.set n (-1))+1
  omega
section
variable {c:Conf}{M:RmM}{s:StM}{pd:Option (Nat×PlcM)}
theorem Xge(h:Y1 c M){q:PlM}(h1:Zd q<=Zd M.pl+1)(h2:Zd M.pl<=Zd q+1):Up M.tot (Ix M k x q).tot 7/\(q=M.pl->Up M.tot (Ix M k x q).tot 3):=by
 have a:0<=Ek M.pl q/\Ek M.pl q<=7:=by unfold Ek;omega
 have:=Km h.ok.tot a.1;refine⟨?_,λe=>?_⟩
 .show Up M.tot (Xu M.tot (Ek M.pl q)) 7
  omega
 .subst e;have e2:Ek M.pl M.pl=3:=by unfold Ek;omega
  show Up M.tot (Xu M.tot (Ek M.pl M.pl)) 3
  rw[e2] at this⊢;exact this
theorem XhX(h:Y1 c M)(k who:Int):Up M.tot (Qe M k who).tot 7/\(0<Qm M k->Up M.tot (Qe M k who).tot 3):=by
 have ht:=h.ok.tot;unfold Qe Qm;cases i:Zs M k with
 |none=>exact⟨by show Up M.tot M.tot 7;omega,λh=>by simp at h⟩
 |some x=>
  obtain⟨j,rfl,_,l⟩:=Fz i;have p:=(h.ok.cI j x l).1;simp only
  split
  .rename_i m
   have a:=(W9 x M.pl who h.cU.cV X).1.held h.cU.cV X;have b:=Xge h (k:=(j:Int).toNat) (x:=Ad x M.pl who) a.1 a.2;refine⟨b.1,λd=>b.2 ?_⟩;rcases L5 x M.pl who with⟨f,_⟩|⟨_,_,⟨n,r,_,_,o,_⟩|⟨n,r,g,_⟩⟩
   .exact absurd m f
   .exact o
   .rw[g] at d;exact absurd d xS
  .exact⟨X,λ_=>X⟩
theorem XeW(h:Y1 c M)(k n i:Int):Up M.tot (Qw M k n i).tot 7:=by
 have ht:=h.ok.tot;unfold Qw;cases d:Zs M k with
 |none=>show Up M.tot M.tot 7;omega
 |some x=>
  obtain⟨j,rfl,_,a⟩:=Fz d;have f:=(h.ok.cI j x a).1;obtain⟨xo,xf⟩:=h.cU.sh j x a;simp only
  split
  .have b:=(Uo x M.pl n i xo xf).1.held h.cU.cV X;exact(Xge h b.1 b.2).1
  .omega
theorem XdV(h:s.Ok c)(k:Nat):Up s.rm.tot (Yj c s k).rm.tot 3:=by
 have ht:=h.rm.ok.tot;unfold Yj;split
 .rename_i b
  refine(XhX h.rm (k:Nat) _).2 ?_;unfold Bn at b;simp only[XI] at b;have a:=b.2;unfold Iw at a;unfold Qm;cases d:Zs s.rm (k:Nat) with
  |none=>rw[d] at a;cases a
  |some x=>rw[d] at a;have:2<=x.cG.length:=bL a;simp only;omega
 .omega
theorem Xj8{n:Int}(h:Xx s (k:Nat)=none):Yg s k n=s:=by unfold Yg;rw[h]
theorem Xbm(h:s.Ok c){m:MvM}(n:Int)(hm:Xx s (k:Nat)=some m):Up s.rm.tot (Yg s k n).rm.tot (7+Zm m n)/\Zm m n<=m.size/\(m.size:Int)=Zn c k/\k<c.bT.length:=by
 have ht:=h.rm.ok.tot;obtain⟨j,ej,d,a⟩:=Ao hm;obtain rfl:k=j:=X
 have b:=(h.mv k m a).2.2.2.2.2.1;refine⟨?_,XeX m n,b,xH h.ml⟩;have f:Up s.rm.tot (Q3 s m n).rm.tot (Zm m n):=Km ht X;have g:=XeW (StM.OkP.step h a n).rm (k:Nat) m.pf m.fa;unfold Yg;rw[hm];simp only
 split
 .show Up s.rm.tot (Q3 s m n).rm.tot _
  omega
 .show Up s.rm.tot (Qw (Q3 s m n).rm k m.pf m.fa).tot _
  omega
theorem XjP{κ:Int}(h:κ<0):X8 s κ=s:=by
 unfold X8;rw[show Xx s κ=none by unfold Xx;rw[bJ X]]
theorem Ru(hm:Xy c=true)(hk:k<c.bT.length):8<=Zn c k:=by
 unfold Zn;rw[XA];exact((Ou (by unfold Xy at hm;simp only[XI] at hm;exact hm.1.1.1.1.1.2) k hk).1)
theorem XjQ(h:s.Ok c)(hk:k<c.bT.length):Up s.rm.tot (X8 s (k:Nat)).rm.tot (7+Zn c k):=by
 have ht:=h.rm.ok.tot;have a:=Ru h.may hk;unfold X8;cases hm:Xx s (k:Nat) with
 |none=>simp only;omega
 |some m=>
  obtain⟨b,d,f,_⟩:=Xbm h (m.size:Nat) hm;simp only[XA];omega
theorem Xjv{q:PlcM}(h:s.OkP c (some (o,q)))(hk:k<c.bT.length)(hq:q.cL=(k:Nat)):Up s.rm.tot (Ax c s q).rm.tot (17+min (Zn c k) c.step):=by
 have f:=Ru h.may hk;have g:1<=c.step:=by
  have:=h.may;unfold Xy at this;simp only[XI,decide_eq_true_eq,Qu] at this;omega
 have a:=h.dropped;have i:Up s.rm.tot (Yo s.rm q).tot 7:=by
  unfold Yo;rw[bK X];exact XeW h.rm _ _ _
 have b:=XdV a k;have d:Up (Yo s.rm q).tot (Yj c {s with rm:=Yo s.rm q} k).rm.tot 3:=b;unfold Ax;rw[bJ X,hq,XA];cases hm:Xx (Yj c {s with rm:=Yo s.rm q} k) (k:Nat) with
 |none=>
  rw[Xj8 hm];omega
 |some m=>
  obtain⟨j,l,n,_⟩:=Xbm (a.begin k) c.step hm;have:(Zm m c.step:Int)<=c.step:=by unfold Zm Dh;omega
  omega
theorem Xju{q:PlcM}(h:s.OkP c (some (o,q)))(hq:q.cL=-1):Up s.rm.tot (Ax c s q).rm.tot ((q.bS.length+1:Int)*4+q.bS.length):=by
 have ht:=h.rm.ok.tot;unfold Ax;rw[bK X];show Up s.rm.tot (Yo s.rm q).tot _
 unfold Yo;rw[bJ X];split
 .omega
 .rename_i r _
  split
  .rename_i e
   have el:r.length=q.bS.length:=by rw[<-e,De]
   show Up s.rm.tot (Xu s.rm.tot ((r.length+1:Int)*4+r.length)) _
   rw[el];exact Km ht X
  .omega
theorem Xob{p:Nat}(hp:1<=p)(hn:0<n)(i:Nat):(Z2 i n p).length<=(n-1)/p+2/\(Z2 i n p).length<=(i+n-1)/p+1:=by
 have a:=Xhw hp n i hn;have b:(i+n-1)/p<=i/p+(n-1)/p+1:=by
  have c:=YG i p;have d:=YG (n-1) p;have f:=YW i (show 0<p by omega);have g:=YW (n-1) (show 0<p by omega);refine Nat.lt_succ_iff.1 ((QQ X).2 ?_);have e:(i/p+(n-1)/p+1).succ*p=p*(i/p)+p*((n-1)/p)+2*p:=by
   rw[An,Nat.add_mul,Nat.add_mul,YJ (i/p),YJ ((n-1)/p)];omega
  omega
 generalize (i+n-1)/p=x at *
 generalize i/p=y at *
 generalize (n-1)/p=z at *
 omega
theorem Vd{q:Int}(hq:1<=q)(hn:0<n):Zj (n:Int) q=((n-1)/q.toNat+1:Nat):=by
 unfold Zj;rw[bJ X];obtain⟨z,rfl⟩:=XE (show 0<=q by omega);rw[XA,show(n:Int)-1=((n-1:Nat):Int) by omega];rfl
theorem Sf{a b q:Int}(h:a<=b):Zj a q<=Zj b q:=by
 unfold Zj;split
 .split
  .omega
  .rename_i c d
   have:=ZY (show 0<=b-1 by omega) (show 0<=q by omega);omega
 .rename_i c
  rw[bJ X];have:=Int.ediv_le_ediv (show 0<q by omega) (show a-1<=b-1 by omega);omega
theorem Pe(n q:Int):0<=Zj n q:=by
 unfold Zj;split
 .omega
 .have:=ZY (show 0<=n-1 by omega) (show 0<=q by omega);omega
theorem Mr(hm:Xy c=true)(q:Plc)(i n:Nat):0<=Zb c q i n/\(q.cL≠-1->Zb c q i n=n)/\Zb c q i n<=n+Zj n c.size+1/\Zb c q i n<=n+Zj (i+n:Nat) c.size:=by
 have d:=(Zr hm).size;unfold Zb;have f:=Pe (n:Int) c.size;have g:=Pe ((i+n:Nat):Int) c.size;split
 .rename_i a
  refine⟨X,λh=>absurd a h,?_⟩;by_cases b:n=0
  .subst b;rw[Tj];simp only[List.length_nil];omega
  .rw[Vd X (show 0<n by omega),Vd X (show 0<i+n by omega)];have:=Xob (p:=c.size.toNat) X (show 0<n by omega) i;omega
 .exact⟨X,λ_=>X,X,X⟩
theorem Vv(h:0<=s.rm.tot/\s.rm.tot<=4611686018427387904)(hm:Xy c=true)(q:PlcM)(i:Nat)(l:List Int):Up s.rm.tot (Yk c s q i l).rm.tot (Zb c q.cQ i l.length):=Km h (Mr hm q.cQ i l.length).1
theorem Xin(h:0<=s.rm.tot/\s.rm.tot<=4611686018427387904)(o:Int)(i n:Nat):Up s.rm.tot (Af s o i n).rm.tot n:=by
 unfold Af;split
 .rename_i m _
  split
  .have a:Qv i n m.cE<=n:=by unfold Qv;omega
   have:=Km h (n:=(Qv i n m.cE:Nat)) X;show Up s.rm.tot (Xu s.rm.tot (Qv i n m.cE:Nat)) n
   omega
  .omega
 .omega
def Nh(c:Conf)(size:Int):Int:=if Xl c.bT size=-1 then 4*Zl size c.size+(2+c.size)*Zj size c.size else 7+Zn c (Xl c.bT size)
theorem Rl{c:Conf}(hm:Xy c=true)(h:1<=size/\size<=c.cH):Zl size c.size=Zj size c.size+1/\1<=Zj size c.size:=by
 have a:=Zr hm;obtain⟨n,rfl⟩:=XE (show 0<=size by omega);have e:=Vd (n:=n) (q:=c.size) (xH a.size) X;have b:(n-1)/c.size.toNat<=n-1:=Nat.div_le_self _ _;have f:=a.cH;generalize (n-1)/c.size.toNat=d at *
 unfold Zl;rw[bJ X];omega
theorem XkH(h:s.OkP c pd){o:Int}(hz:1<=size/\size<=c.cH):Up s.rm.tot (Yb c s o size).rm.tot (if Xl c.bT size=-1 then 4*Zl size c.size+Zj size c.size else 7):=by
 have ht:=h.rm.ok.tot;obtain⟨d,f⟩:=Rl h.may hz;unfold Yb;cases a:Di c s size with
 |none=>
  show Up s.rm.tot (Ai c s.rm o size).tot _
  unfold Ai;split
  .split <;> omega
  split
  .split <;> omega
  split
  .have e:(((Zl size c.size).toNat:Int)*4+(((Zl size c.size).toNat:Int)-1))=4*Zl size c.size+Zj size c.size:=X
   show Up s.rm.tot (Xu s.rm.tot (((Zl size c.size).toNat:Int)*4+(((Zl size c.size).toNat:Int)-1))) _
   rw[e];exact Km ht X
  .exact(XhX h.rm _ _).1
 |some m=>
  have b:Xl c.bT size≠-1:=λe=>by
   unfold Di at a;rw[e,show Xx s (-1)=none from rfl] at a;cases a
  rw[bJ b];show Up s.rm.tot (Xu (Qq s.rm _ m.pt m.ta o).tot 3) 7
  have e:(Qq s.rm (Xl c.bT size) m.pt m.ta o).tot=s.rm.tot:=by unfold Qq;split <;> rfl
  rw[e];have:=Km ht (n:=3) X;omega
theorem Xkq{q:PlcM}(hs:0<=c.size):Zt c q.cQ<=if q.cL=-1 then (q.bS.length:Int)*c.size else max 0 (Zn c q.cL):=by
 show(if Ym c q.cQ then (if q.cL=-1 then (q.bS.length:Int)*c.size else Zn c q.cL) else 0)<=_
 have:=ZG (show 0<=(q.bS.length:Int) by omega) hs;by_cases a:Ym c q.cQ=true
 .rw[bK a];split
  .exact YN _
  .exact Int.le_max_right _ _
 .rw[bJ a];split
  .exact this
  .exact Int.le_max_left _ _
theorem Xfi(h:s.OkP c pd){o:Int}(ho:0<=o)(hf:Ys c s size=0):Up s.rm.tot (Qs c s o size).rm.tot (Nh c size):=by
 obtain⟨p,f⟩:=Oz hf;have g:=Zr h.may;have j:=XkH h (o:=o) p;obtain⟨B,C⟩:=Rl h.may p;have l:=Vv j.2 h.may (Zp c s o size) 0 (X7 (Zt c (Zp c s o size).cQ).toNat);rw[Fj] at l;replace l:Up (Yb c s o size).rm.tot (Qs c s o size).rm.tot _:=l;obtain⟨E,v,_,F⟩:=Mr h.may (Zp c s o size).cQ 0 (Zt c (Zp c s o size).cQ).toNat;have i:=Xkq (q:=Zp c s o size) (show 0<=c.size by have:=g.size;omega);unfold Nh;by_cases a:Xl c.bT size=-1
 .have d:Di c s size=none:=by unfold Di;rw[a,show Xx s (-1)=none from rfl]
  have eQ:Zp c s o size=⟨-1,(s.rm.pl.free.getD 0 0:Nat),0,X3 (s.rm.pl.free.take (Zl size c.size).toNat).tail⟩:=by
   unfold Zp;rw[d];exact(XgW ho (f d) a).2
  rw[bK a] at j⊢;have r:((Zp c s o size).bS.length:Int)<=Zj size c.size:=by
   rw[eQ];show((X3 _).length:Int)<=_
   rw[De,QM,XX];omega
  rw[show(Zp c s o size).cL=-1 by rw[eQ],bK rfl] at i;obtain⟨D,t⟩:=XE (show 0<=Zj size c.size by omega);obtain⟨z,b⟩:=XE (show 0<=c.size by have:=g.size;omega);have y:1<=z:=xH g.size
  have G:(Zt c (Zp c s o size).cQ).toNat<=D*z:=by
   have n:((Zp c s o size).bS.length:Int)*c.size<=Zj size c.size*c.size:=XZ r X;rw[t,b] at n;have w:Zt c (Zp c s o size).cQ<=((D*z:Nat):Int):=by rw[Int.natCast_mul];rw[b] at i;omega
   omega
  have A:Zj ((0+(Zt c (Zp c s o size).cQ).toNat:Nat):Int) c.size<=D:=by
   have n:=Sf (q:=c.size) (show((0+(Zt c (Zp c s o size).cQ).toNat:Nat):Int)<=((D*z:Nat):Int) by omega);have u:0<D*z:=Nat.mul_pos X X;rw[Vd X u,b,XA] at n;have w:(D*z-1)/z+1<=D:=by
    have:(D*z-1)/z<D:=(QQ X).2 X;omega
   rw[b];omega
  have e2:(2+c.size)*Zj size c.size=2*(D:Int)+((D*z:Nat):Int):=by rw[t,b,QG,Int.natCast_mul,YK (z:Int)]
  rw[e2];omega
 .obtain⟨x,H⟩:=K0 a;have eQ:(Zp c s o size).cL=Xl c.bT size:=by
   unfold Zp;cases d:Di c s size with
   |none=>simp only;rw[(XgX ho (f d) a).2.1]
   |some m=>rfl
  rw[bJ a] at j⊢;have e1:=v (by show(Zp c s o size).cL≠-1;rw[eQ];exact a);rw[eQ,bJ a] at i;obtain⟨k,ek⟩:=XE x;have I:=Ru h.may (k:=k) X;rw[ek] at i⊢;omega
end
section
variable {t:TbM}{cN cS:Int}{h:Int}
end
section
variable {c:Conf}{x:HpM}
theorem XjE(u:Eg)(he:Qj c x u≠0):Zg c x u=x/\Qp c x u=0/\Z8 c x u=[]/\0<=Yt c x u/\Yt c x u<=1:=by
 unfold Qj at he;by_cases a:u.kind=1
 .rw[bK a] at he;have l:¬Gz c x u.a:=λg=>by
   unfold Ci at he;rw[bJ (by rw[g.1];decide),bJ g.2,g.1] at he;exact he rfl
  refine⟨?_,?_,?_,?_⟩
  .unfold Zg;rw[bK a];unfold Bb;rw[bJ l]
  .unfold Qp;rw[bK a];unfold D9;rw[bJ l]
  .unfold Z8;rw[bJ X]
  .unfold Yt;rw[bK a];unfold Ds;rw[bJ l];decide
 rw[bJ a] at he;have j:Qp c x u=0:=by unfold Qp;rw[bJ a]
 by_cases d:u.kind=2
 .rw[bK d] at he;have b:Zg c x u=x:=by unfold Zg;rw[bJ a,bK d];unfold Bs;rw[bJ he]
  refine⟨b,j,by unfold Z8;rw[bJ X],?_⟩;unfold Yt;rw[bJ a,bK d,bJ he,b,YL]
  decide
 rw[bJ d] at he;by_cases f:u.kind=3
 .rw[bK f] at he;unfold B8 at he;have b:Zg c x u=x:=by
   unfold Zg;rw[bJ a,bJ d,bK f];unfold E8;split
   .rename_i h
    rw[bK h] at he;unfold Cc;rw[bJ he]
   .rfl
  refine⟨b,j,?_,?_⟩
  .unfold Z8;rw[bK f];unfold J0;split
   .rename_i h
    rw[bK h] at he;unfold Cn;rw[bJ he]
   .rfl
  .unfold Yt;rw[bJ a,bJ d,bK (.inl f),b,YL]
   decide
 rw[bJ f] at he;have m:Z8 c x u=[]:=by unfold Z8;rw[bJ f]
 by_cases i:u.kind=4
 .rw[bK i] at he;unfold B8 at he;have b:Zg c x u=x:=by
   unfold Zg;rw[bJ a,bJ d,bJ f,bK i];unfold E9;split
   .rename_i h
    rw[bK h] at he;unfold Cx;rw[bJ he]
   .rfl
  refine⟨b,j,m,?_⟩;unfold Yt;rw[bJ a,bJ d,bK (.inr (.inl i)),b,YL]
  decide
 rw[bJ i] at he;by_cases k:u.kind=5
 .rw[bK k] at he;unfold I8 at he;have b:Zg c x u=x:=by
   unfold Zg;rw[bJ a,bJ d,bJ f,bJ i,bK k];unfold Gm;split
   .rename_i h
    rw[bK h] at he;unfold Q7;rw[bK he]
   .rfl
  refine⟨b,j,m,?_⟩;unfold Yt;rw[bJ a,bJ d,bK (.inr (.inr k)),b,YL]
  decide
 rw[bJ k] at he;by_cases n:u.kind=6
 .rw[bK n] at he;exact absurd rfl he
 rw[bJ n] at he;have b:Zg c x u=x:=by
  unfold Zg;rw[bJ a,bJ d,bJ f,bJ i,bJ k,bJ n];unfold Ii Cw;rw[bJ he]
 refine⟨b,j,m,?_⟩;unfold Yt;rw[bJ a,bJ d,bJ X,b,YL]
 decide
end
def Fs(c:Conf)(n:Int):Int:=Zn c (Xl c.bT n)
def Ku(c:Conf)(n:Int):Int:=if En c n=true then (if n<=D2 c then 9+Fs c n else 2+4*Zl n c.size+(2+c.size)*Zj n c.size) else 0
def Kv(c:Conf)(n:Int):Int:=if En c n=true then (if n<=D2 c then 27+Fs c n+min (Fs c n) c.step else 3+4*Zl n c.size+Zj n c.size) else 0
def Kw(c:Conf)(size n:Int):Int:=if En c size=true/\0<=n/\n<=size then (if size<=D2 c then 1+n else 1+n+Zj n c.size+1) else 0
def U5(c:Conf)(size n:Int):Int:=if En c size=true/\0<=n/\n<=size then Kw c size n+n else 0
def U4(c:Conf)(old size:Int):Int:=if En c old=true/\En c size=true then Ku c size+Kv c old+3*old+Zj old c.size+Zj size c.size+4 else 0
def Xby(c:Conf):Int:=c.step+10*c.bT.length
def Sc(c:Conf)(u:Eg)(size:Int):Int:=
 if u.kind=1 then Ku c u.a else if u.kind=2 then Kv c size else if u.kind=3 then Kw c size u.b else if u.kind=4 then U5 c size u.bs.length
 else if u.kind=5 then U4 c size u.a else if u.kind=6 then Xby c else 0
def Sa(x:HpM)(h:Int):Int:=if X1 x.tb h=0 then Q2 x.st (Zh x.tb h) else 0
def Ln(c:Conf)(n:Int):Int:=if Xl c.bT n=-1 then 4*Zl n c.size+Zj n c.size else 24+Zn c (Xl c.bT n)+min (Zn c (Xl c.bT n)) c.step
theorem G5{c:Conf}:En c z=true↔1<=z/\z<=c.cH:=by unfold En;simp
theorem Tk{c:Conf}(hm:Xy c=true):1<=c.step:=by
 unfold Xy at hm;simp only[XI,decide_eq_true_eq,Qu] at hm;omega
theorem XaB{c:Conf}(hm:Xy c=true){n:Int}(h:1<=n/\n<=c.cH):Ku c n=2+Nh c n:=by
 unfold Ku Nh Fs;rw[bK (G5.2 h)];by_cases a:Xl c.bT n=-1
 .have:=(Lu hm h.1).1 a;rw[bJ X,bK a];omega
 .have:¬D2 c<n:=λg=>a ((Lu hm h.1).2 g);rw[bK X,bJ a];omega
theorem Xbi{c:Conf}(hm:Xy c=true){n:Int}(h:1<=n/\n<=c.cH):Kv c n=3+Ln c n:=by
 unfold Kv Ln Fs;rw[bK (G5.2 h)];by_cases a:Xl c.bT n=-1
 .have:=(Lu hm h.1).1 a;rw[bJ X,bK a];omega
 .have:¬D2 c<n:=λg=>a ((Lu hm h.1).2 g);rw[bK X,bJ a];omega
section
variable {c:Conf}{s:StM}
theorem Xbv(hm:Xy c=true){n:Int}(h:1<=n/\n<=c.cH):0<=Nh c n/\0<=Ln c n:=by
 obtain⟨d,f⟩:=Rl hm h;have g:=Tk hm;unfold Nh Ln;split
 .have:=ZG (show 0<=2+c.size by have:=(Zr hm).size;omega) (show 0<=Zj n c.size by omega);omega
 .rename_i a
  obtain⟨b,i⟩:=K0 a;obtain⟨k,ek⟩:=XE b;have:=Ru hm (k:=k) X;rw[ek];omega
theorem XeZ(h:s.Ok c){t:ThM}(ht:s.th[o]?=some (some t)){s2:StM}{q:PlcM}(h2:s2.OkP c (some (o,q)))(hq:q.cL=t.q.cL/\q.bS=t.q.bS):∃a b,Up s.rm.tot (X8 s t.q.cL).rm.tot a/\Up s2.rm.tot (Ax c s2 q).rm.tot b/\0<=a/\0<=b/\a+b<=Ln c t.size:=by
 have f:=h.size o t ht;have g:=Rt h ht;have u:=h.rm.ok.tot;unfold Ln;by_cases v:t.q.cL=-1
 .obtain⟨n,r,_,e2,e3⟩:=h.large o t ht X;have i:=Xju h2 X;have ep:q.bS.length=r.length:=by rw[hq.2,e2];exact De r
  obtain⟨w,_⟩:=Rl h.may f;refine⟨0,_,by rw[XjP X];omega,i,YN _,X,?_⟩;rw[bK X,ep];omega
 .obtain⟨j,x⟩:=K0 (show Xl c.bT t.size≠-1 by omega);obtain⟨k,ek⟩:=XE j;have d:k<c.bT.length:=X
  have p:=Ru h.may d;have l:=Xjv h2 d X;have m:=XjQ h d;refine⟨_,_,by rw[g,ek];exact m,l,X,X,?_⟩;rw[bJ X,ek];omega
theorem XjY(h:s.Ok c){t:ThM}(ht:s.th[o]?=some (some t)):Up s.rm.tot (Aq c s (o:Nat)).rm.tot (Ln c t.size):=by
 obtain⟨t',d,_,f,g,i⟩:=My h ht;obtain⟨a,b,k,j,ga,gb,gc⟩:=XeZ h ht ((Lm h t.q.cL).ok.away d i) ⟨f,g⟩;have l:=XfX ht;have e:Aq c s (o:Nat)=Ax c {X8 s t.q.cL with th:=(X8 s t.q.cL).th.set o none} t'.q:=by
  unfold Aq;rw[bJ X,Y5 ht,Y5 d,XA]
 have m:Up (X8 s t.q.cL).rm.tot (Aq c s (o:Nat)).rm.tot b:=by rw[e];exact j
 omega
theorem Xna(h:s.Ok c){t:ThM}(ht:s.th[o]?=some (some t))(hE:A2 c s (o:Nat) size=0):Up s.rm.tot (Q7 c s (o:Nat) size).rm.tot (Nh c size+Ln c t.size+2*t.size+Zj t.size c.size+Zj size c.size):=by
 have n:=h.rm.ok.tot;obtain⟨j,p,e,g,hr,d⟩:=Px hE;obtain rfl:o=j:=X
 rw[ht] at g;obtain rfl:t=p:=Option.some.inj (Option.some.inj g);have r:=h.size o t ht;obtain⟨B,_⟩:=Xbv h.may hr;obtain⟨_,C⟩:=Xbv h.may r;have D:=Pe t.size c.size;have E:=Pe size c.size;unfold Q7;rw[bJ X,C6 ht,Y5 ht];by_cases f:Ay c t.size size=true
 .rw[bK f];by_cases i:size<t.size
  .rw[bK i];have k:=Vv (s:=s) n h.may t.q size.toNat (X7 (t.size-size).toNat);rw[Fj] at k;have l:=Xin (s:=D3 (Yk c s t.q size.toNat (X7 (t.size-size).toNat)) (o:Nat) ⟨size,t.q⟩) k.2 (o:Nat) size.toNat (t.size-size).toNat;obtain⟨_,_,_,m⟩:=Mr h.may t.q.cQ size.toNat (t.size-size).toNat;rw[show((size.toNat+(t.size-size).toNat:Nat):Int)=t.size by omega] at m;have A:Up (Yk c s t.q size.toNat (X7 (t.size-size).toNat)).rm.tot _ _:=l;omega
  .rw[bJ i];show Up s.rm.tot s.rm.tot _
   omega
 .rw[bJ f];rcases d with d|⟨d,hf⟩
  .exact absurd d f
  .obtain⟨t',M⟩:=Pf h ht d hf;have u:(Yh c t'.q.cQ (X8 s t.q.cL).bs 0 (min t.size size).toNat).length=(min t.size size).toNat:=by unfold Yh;rw[XU,ZK]
   unfold Jn;simp only
   rw[Y5 ht,Y5 M.th1,C6 ht];have v:=M.ok2.put (Yy (Qs c (Y3 (X8 s t.q.cL) (Zb c t'.q.cQ 0 (min t.size size).toNat)) (o:Nat) size) (o:Nat)) 0 (N4 (c:=c) (q:=t'.q.cQ) M.ok1.bi 0 (min t.size size).toNat);obtain⟨a,b,w,F,ga,gb,gc⟩:=XeZ h ht v ⟨M.cls',M.pages'⟩;obtain⟨x,_,_,m⟩:=Mr h.may t'.q.cQ 0 (min t.size size).toNat;have l:Up (X8 s t.q.cL).rm.tot (Y3 (X8 s t.q.cL) (Zb c t'.q.cQ 0 (min t.size size).toNat)).rm.tot _:=Km w.2 x;have y:=Xfi (M.ok1.tot (Zb c t'.q.cQ 0 (min t.size size).toNat)) (o:=(o:Nat)) X (size:=size) M.fits;have z:=Vv y.2 h.may (Yy (Qs c (Y3 (X8 s t.q.cL) (Zb c t'.q.cQ 0 (min t.size size).toNat)) (o:Nat) size) (o:Nat)) 0 (Yh c t'.q.cQ (X8 s t.q.cL).bs 0 (min t.size size).toNat);rw[u] at z;obtain⟨_,_,_,G⟩:=Mr h.may (Yy (Qs c (Y3 (X8 s t.q.cL) (Zb c t'.q.cQ 0 (min t.size size).toNat)) (o:Nat) size) (o:Nat)).cQ 0 (min t.size size).toNat;have H:=Sf (q:=c.size) (show((0+(min t.size size).toNat:Nat):Int)<=t.size by omega);have I:=Sf (q:=c.size) (show((0+(min t.size size).toNat:Nat):Int)<=size by omega);omega
theorem Xh2(h:s.Ok c):∀n:Nat,n<=s.mv.length->Up s.rm.tot (tickTo c s n).1.rm.tot (10*n+(c.step-(tickTo c s n).2))/\0<=(tickTo c s n).2/\(tickTo c s n).1.Ok c
 |0,_=>by
  have f:=h.rm.ok.tot;have g:=Tk h.may;exact⟨by show Up s.rm.tot s.rm.tot (10*((0:Nat):Int)+(c.step-c.step));omega,by show 0<=c.step;omega,h⟩
 |n+1,i=>by
  obtain⟨j,d,a⟩:=Xh2 h n X;have e:tickTo c s (n+1)=tickK c (tickTo c s n) n:=by unfold tickTo;rw[YQ,List.foldl_append];rfl
  rw[e];unfold tickK;split
  .exact⟨X,d,a⟩
  .have k:=XdV a n;have b:=StM.OkP.begin a n;split
   .exact⟨by show Up s.rm.tot (Yj c (tickTo c s n).1 n).rm.tot (10*((n+1:Nat):Int)+(c.step-(tickTo c s n).2));omega,d,b⟩
   .rename_i m hm
    obtain⟨l,_,_,_⟩:=Xbm b (tickTo c s n).2 hm;have:(Zm m (tickTo c s n).2:Int)<=(tickTo c s n).2:=by unfold Zm Dh;omega
    exact⟨by show Up s.rm.tot (Yg (Yj c (tickTo c s n).1 n) n (tickTo c s n).2).rm.tot (10*((n+1:Nat):Int)+(c.step-((tickTo c s n).2-Zm m (tickTo c s n).2)));omega,by show 0<=(tickTo c s n).2-Zm m (tickTo c s n).2;omega,b.go n _⟩
end
section
variable {c:Conf}{x:HpM}
theorem XjD(h:x.Ok c)(u:Eg)(hE:Qj c x u=0):0<=Yt c x u/\Yt c x u<=Sc c u (Sa x u.h):=by
 have y:=h.st.rm.ok.tot;have hm:=h.st.may;unfold Qj at hE;unfold Yt Sc;have slot:X1 x.tb u.h=0 -> ∃j t,Zh x.tb u.h=(j:Nat)/\x.st.th[j]?=some (some t)/\Sa x u.h=t.size/\1<=t.size/\t.size<=c.cH:=λg=>by
  obtain⟨j,e,_,t,ht⟩:=h.slot g;exact⟨j,t,e,ht,by unfold Sa;rw[bK g,e,C6 ht],h.st.size j t ht⟩
 by_cases d:u.kind=1
 .simp only[bK d] at hE⊢;unfold Ci at hE;by_cases z:Ys c x.st u.a=3
  .rw[bK z] at hE;cases hE
  rw[bJ z] at hE;by_cases v:x.tb.fl=[]
  .rw[bK v] at hE;cases hE
  rw[bJ v] at hE;have w:Gz c x u.a:=⟨hE,v⟩;obtain⟨j,e,_,_,_,eA⟩:=h.goes w;unfold Ds;rw[bK w,show Bb c x u.a=⟨Q1 c x.st (C7 x.tb) u.a,Ez x.tb⟩ by unfold Bb;rw[bK w],XaB hm (Oz hE).1];simp only
  rw[e];unfold Q1;rw[bK eA];have:=Xfi h.st (o:=(j:Nat)) X hE;omega
 simp only[bJ d] at hE⊢;by_cases f:u.kind=2
 .simp only[bK f] at hE⊢;obtain⟨j,t,e,ht,es,a⟩:=slot hE;have b:Zg c x u=⟨Aq c x.st (j:Nat),Dj x.tb u.h⟩:=by unfold Zg;rw[bJ d,bK f];unfold Bs;rw[bK hE,e]
  have:=XjY h.st ht;rw[bK hE,b,es,Xbi hm a];simp only
  omega
 simp only[bJ f] at hE⊢;by_cases i:u.kind=3
 .rw[bK (.inl i)];simp only[bK i] at hE⊢;have g:X1 x.tb u.h=0:=by
   unfold B8 at hE;by_cases g:X1 x.tb u.h=0
   .exact g
   .rw[bJ g] at hE;exact hE
  obtain⟨j,t,e,ht,es,a⟩:=slot g;unfold B8 at hE;rw[bK g,e] at hE;obtain⟨j',t',e',k,E,n,F⟩:=Ri hE;obtain rfl:j=j':=X
  rw[ht] at k;obtain rfl:t=t':=Option.some.inj (Option.some.inj k);have b:Zg c x u=⟨Y3 x.st (Zb c t.q.cQ u.a.toNat u.b.toNat),x.tb⟩:=by
   unfold Zg;rw[bJ d,bJ f,bK i];unfold E8;rw[bK g,e];unfold Cc;rw[bK hE,Y5 ht]
  obtain⟨A,q,B,_⟩:=Mr hm t.q.cQ u.a.toNat u.b.toNat;have C:Up x.st.rm.tot (Y3 x.st (Zb c t.q.cQ u.a.toNat u.b.toNat)).rm.tot _:=Km y A;have D:=Rt h.st ht;rw[b,es];unfold Kw;rw[bK ⟨G5.2 a,n,X⟩];simp only
  rw[YT n] at q B;by_cases p:t.size<=D2 c
  .rw[bK p];have G:Xl c.bT t.size≠-1:=λg=>xH ((Lu hm a.1).1 g)
   have:=q (by show t.q.cL≠-1;omega);omega
  .rw[bJ p];omega
 simp only[bJ i] at hE⊢;by_cases l:u.kind=4
 .rw[bK (.inr (.inl l))];simp only[bK l] at hE⊢;have g:X1 x.tb u.h=0:=by
   unfold B8 at hE;by_cases g:X1 x.tb u.h=0
   .exact g
   .rw[bJ g] at hE;exact hE
  obtain⟨j,t,e,ht,es,a⟩:=slot g;unfold B8 at hE;rw[bK g,e] at hE;obtain⟨j',t',e',k,E,n,F⟩:=Ri hE;obtain rfl:j=j':=X
  rw[ht] at k;obtain rfl:t=t':=Option.some.inj (Option.some.inj k);have b:Zg c x u=⟨Af (Yk c x.st t.q u.a.toNat u.bs) (j:Nat) u.a.toNat u.bs.length,x.tb⟩:=by
   unfold Zg;rw[bJ d,bJ f,bJ i,bK l];unfold E9;rw[bK g,e];unfold Cx;rw[bK hE,Y5 ht]
  obtain⟨A,q,B,_⟩:=Mr hm t.q.cQ u.a.toNat u.bs.length;have C:=Vv y hm t.q u.a.toNat u.bs;have I:=Xin C.2 (j:Nat) u.a.toNat u.bs.length;have D:=Rt h.st ht;rw[b,es];unfold U5 Kw;rw[bK ⟨G5.2 a,n,X⟩,bK ⟨G5.2 a,n,X⟩];simp only
  by_cases p:t.size<=D2 c
  .rw[bK p];have G:Xl c.bT t.size≠-1:=λg=>xH ((Lu hm a.1).1 g)
   have:=q (by show t.q.cL≠-1;omega);omega
  .rw[bJ p];omega
 simp only[bJ l] at hE⊢;by_cases m:u.kind=5
 .rw[bK (.inr (.inr m))];simp only[bK m] at hE⊢;have g:X1 x.tb u.h=0:=by
   unfold I8 at hE;by_cases g:X1 x.tb u.h=0
   .exact g
   .rw[bJ g] at hE;exact hE
  obtain⟨j,t,e,ht,es,a⟩:=slot g;unfold I8 at hE;rw[bK g,e] at hE;have b:Zg c x u=⟨Q7 c x.st (j:Nat) u.a,x.tb⟩:=by
   unfold Zg;rw[bJ d,bJ f,bJ i,bJ l,bK m];unfold Gm;rw[bK g,e]
  have hr:=Xna h.st ht hE;obtain⟨_,_,_,_,s,_⟩:=Px hE;rw[b,es];unfold U4;rw[bK ⟨G5.2 a,G5.2 s⟩,XaB hm s,Xbi hm a];simp only
  omega
 rw[bJ X];simp only[bJ m] at hE⊢;by_cases r:u.kind=6
 .simp only[bK r];have b:Zg c x u=⟨D4 c x.st,x.tb⟩:=by unfold Zg;rw[bJ d,bJ f,bJ i,bJ l,bJ m,bK r];rfl
  obtain⟨J,K,_⟩:=Xh2 h.st x.st.mv.length (XF _);have H:=h.st.ml;rw[b];unfold Xby;show 0<=(tickTo c x.st x.st.mv.length).1.rm.tot-x.st.rm.tot/\(tickTo c x.st x.st.mv.length).1.rm.tot-x.st.rm.tot<=_
  omega
 .simp only[bJ r] at hE⊢;have b:(Zg c x u).st.rm=x.st.rm:=by
   unfold Zg;rw[bJ d,bJ f,bJ i,bJ l,bJ m,bJ r];unfold Ii Cw;simp only
   split <;> rfl
  rw[b];omega
end
section
variable {c:Conf}{p:Yz}{w:dD}
theorem Xcg(hc:Yd w c p)(n:Int):Xe prog 90 #[.agg (X5 c p).toArray,W n] w (Grow (.bool (decide (n<=D2 c))) w):=by
 refine aR func90 ntmps90 Y (bC Y λb f e1 g a h=>?_);exact bB g Y (bG (Xmf c p f (hc.bR a)) Y λi d=>bE func90 Y ⟨rfl,a.trans d⟩)
theorem Xcf(hc:Yd w c p)(hm:Xy c=true){n:Int}(hn:1<=n)(hs:n<=D2 c):Xe prog 91 #[.agg (X5 c p).toArray,W n] w (Grow (W (Fs c n)) w):=by
 have l:Xl c.bT n≠-1:=λe=>xH ((Lu hm hn).1 e)
 obtain⟨m,r⟩:=K0 l;obtain⟨k,ek⟩:=XE m;obtain⟨cb,coff,eca,h⟩:=hc.bT k X;refine aR func91 ntmps91 Y (bC Y λb o e1 i a q=>?_);have j:∀w',Xc Xf o w'->Xe prog 156 #[.slice p.ca c.bT.length p.cc,W n] w' (X9 (W (k:Nat)) w'):=λw' d=>by
  have:=Xgj p.ca p.cc c.bT n w' ((hc.bR a).bR d).bT (xH (Zr hm).n);rw[ek] at this;exact this
 have e2:Fs c n=c.bT.getD k 0:=by unfold Fs Zn;rw[ek,XA]
 rw[e2];refine aQ 6 Xf xK Y λf=>aE f i Y (aE f i Y (aH f (λw' d=>(j w' d)) Y (aF f Y λs g=>?_)));rw[eca];exact aU k Y (aW Y ((a.trans g).cell h id) Y (bE func91 Y ⟨rfl,a.trans g⟩))
theorem Lq{n:Int}(hm:Xy c=true)(h:1<=n/\n<=c.cH):0<=D2 c/\(n<=D2 c->8<=Fs c n/\Fs c n<=4096)/\0<=Zl n c.size/\Zl n c.size<=2097153/\0<=Zj n c.size/\Zj n c.size<=2097153:=by
 have a:=Zr hm;obtain⟨f,g⟩:=Rl hm h;have i:=XdL a h.2;refine⟨?_,λj=>?_,X,X,X,X⟩
 .unfold D2;rw[bJ (xH a.n)];have:=(Ou (by unfold Xy at hm;simp only[XI] at hm;exact hm.1.1.1.1.1.2) (c.bT.length-1) (xH a.n)).1;omega
 .have b:Xl c.bT n≠-1:=λe=>xH ((Lu hm h.1).1 e)
  obtain⟨d,l⟩:=K0 b;obtain⟨k,ek⟩:=XE d;have m:=Ou (by unfold Xy at hm;simp only[XI] at hm;exact hm.1.1.1.1.1.2) k (show k<c.bT.length by omega);unfold Fs Zn;rw[ek,XA];have:=a.size;omega
theorem Xhj{n:Int}(hm:Xy c=true)(h:1<=n/\n<=c.cH):0<=(2+c.size)*Zj n c.size/\(2+c.size)*Zj n c.size<=8594132994:=by
 obtain⟨_,_,_,_,a,b⟩:=Lq hm h;have d:=(Zr hm).size;have:=ZH (show 2+c.size<=4098 by omega) b a X;have:=ZG (show 0<=2+c.size by omega) a;omega
theorem Xgt(hc:Yd w c p)(hm:Xy c=true)(n:Int):Xe prog 37 #[.agg (X5 c p).toArray,W n] w (Grow (W (Ku c n)) w):=by
 have k:=Zr hm;refine aR func37 ntmps37 Y (bC Y λb v e1 r s y=>?_);refine bB r Y (bG (K3 c p n v) Y λA l=>?_);have m:=l.bP r;have d:=s.trans l;unfold Ku En;by_cases h:(decide (1<=n) && decide (n<=c.cH))=true
 .rw[bK h,h];have q:=G5.1 (show En c n=true from h);refine aS Y (bB m Y (bG (Xcg (hc.bR d) n) Y λB o=>?_));have g:=o.bP m;have f:=d.trans o;obtain⟨_,t,C,D,E,F⟩:=Lq hm q;have z:=k.cH;by_cases j:n<=D2 c
  .rw[bK j];have t:=t j;exact bI Y (bB g Y (bG (Xcf (hc.bR f) hm q.1 j) Y λx i=>aV Y (bE func37 Y ⟨rfl,f.trans i⟩)))
  .rw[bJ j];have G:=Xhj hm q;exact aS Y (aQ 14 Xf xK Y λa=>aE a g Y (aH a (λw' u=>V0 n c.size w' X) Y (aC a Y (aC a Y (aE a g Y (Xd.arith Xb a rfl (w64 (xH k.size)) rfl (aE a g Y (aH a (λw' u=>J7 n c.size w' X) Y (aC a Y (aF a Y λx i=>aV Y (bE func37 Y ⟨rfl,f.trans i⟩)))))))))))
 .rw[bJ h,eq_false_of_ne_true h];exact bI Y (bE func37 Y ⟨rfl,d⟩)
theorem Xgu(hc:Yd w c p)(hm:Xy c=true)(n:Int):Xe prog 38 #[.agg (X5 c p).toArray,W n] w (Grow (W (Kv c n)) w):=by
 refine aR func38 ntmps38 Y (bC Y λb u e1 r s x=>?_);refine bB r Y (bG (K3 c p n u) Y λA l=>?_);have m:=l.bP r;have h:=s.trans l;unfold Kv En;by_cases i:(decide (1<=n) && decide (n<=c.cH))=true
 .rw[bK i,i];have q:=G5.1 (show En c n=true from i);refine aS Y (bB m Y (bG (Xcg (hc.bR h) n) Y λB o=>?_));have f:=o.bP m;have d:=h.trans o;obtain⟨_,t,C,D,E,F⟩:=Lq hm q;have y:=(Zr hm).cH;by_cases j:n<=D2 c
  .rw[bK j];have t:=t j;have z:=Tk hm;have e3:(27+Fs c n+if c.step<Fs c n then c.step else Fs c n)=27+Fs c n+min (Fs c n) c.step:=by split <;> omega
   exact bI Y (aQ 10 Xf xK Y λa=>aE a f Y (aG a (λw' g=>Xcf ((hc.bR d).bR g) hm q.1 j) Y (aC a Y (aE a f Y (aG a (λw' g=>Xcf ((hc.bR d).bR g) hm q.1 j) Y (aE a f Y (aF a Y λv k=>aV Y (bE func38 Y ⟨congrArg W e3,d.trans k⟩))))))))
  .rw[bJ j];exact aS Y (aQ 10 Xf xK Y λa=>aE a f Y (aH a (λw' g=>V0 n c.size w' X) Y (aC a Y (aC a Y (aE a f Y (aH a (λw' g=>J7 n c.size w' X) Y (aF a Y λv k=>aV Y (bE func38 Y ⟨rfl,d.trans k⟩))))))))
 .rw[bJ i,eq_false_of_ne_true i];exact bI Y (bE func38 Y ⟨rfl,h⟩)
end
section
variable {c:Conf}{p:Yz}{w:dD}
theorem Uv{c:Conf}{n:Int}(h:¬En c n=true):(decide (1<=n) && decide (n<=c.cH))=false:=eq_false_of_ne_true h
theorem Ux{c:Conf}{n:Int}(h:En c n=true):(decide (1<=n) && decide (n<=c.cH))=true:=h
theorem Xgv(hc:Yd w c p)(hm:Xy c=true)(size n:Int)(hn:n<=9223372036854775807):Xe prog 39 #[.agg (X5 c p).toArray,W size,W n] w (Grow (W (Kw c size n)) w):=by
 have l:=Zr hm;refine aR func39 ntmps39 Y (bC Y λb u e1 m o y=>?_);refine bB m Y (bG (K3 c p size u) Y λA g=>?_);have i:=g.bP m;have a:=o.trans g;unfold Kw;by_cases d:En c size=true
 .rw[Ux d];have v:=G5.1 d;refine aS Y ?_;by_cases r:0<=n
  .refine aS Y ?_;by_cases k:n<=size
   .rw[bK ⟨d,r,k⟩];refine aS Y (bB i Y (bG (Xcg (hc.bR a) size) Y λx j=>?_));have s:=j.bP i;have f:=a.trans j;have z:=l.cH;by_cases t:size<=D2 c
    .rw[bK t];exact bI Y (aV Y (bE func39 Y ⟨rfl,f⟩))
    .rw[bJ t];have B:=Sf (q:=c.size) k;have C:=Pe n c.size;obtain⟨_,_,_,_,_,D⟩:=Lq hm v;exact aS Y (aV Y (bB s Y (bH (J7 n c.size x hn) Y (aV Y (aV Y (bE func39 Y ⟨rfl,f⟩))))))
   .rw[bJ (λh=>k h.2.2)];exact bI Y (bE func39 Y ⟨rfl,a⟩)
  .rw[bJ (λh=>r h.2.1)];exact bI Y (bE func39 Y ⟨rfl,a⟩)
 .rw[bJ (λh=>d h.1),Uv d];exact bI Y (bE func39 Y ⟨rfl,a⟩)
theorem Xl7(hm:Xy c=true){n:Int}(h:1<=size/\size<=c.cH)(hn:0<=n/\n<=size):0<=Kw c size n/\Kw c size n<=8388608:=by
 have a:=(Zr hm).cH;have b:=Sf (q:=c.size) hn.2;have d:=Pe n c.size;obtain⟨_,_,_,_,_,f⟩:=Lq hm h;unfold Kw;rw[bK ⟨G5.2 h,hn⟩];split <;> omega
theorem XmO(hc:Yd w c p)(hm:Xy c=true)(size n:Int)(hn:n<=9223372036854775807):Xe prog 40 #[.agg (X5 c p).toArray,W size,W n] w (Grow (W (U5 c size n)) w):=by
 have j:=Zr hm;refine aR func40 ntmps40 Y (bC Y λb q e1 k l s=>?_);refine bB k Y (bG (K3 c p size q) Y λt f=>?_);have m:=f.bP k;have a:=l.trans f;unfold U5;by_cases d:En c size=true
 .rw[Ux d];have r:=G5.1 d;refine aS Y ?_;by_cases g:0<=n
  .refine aS Y ?_;by_cases i:n<=size
   .rw[bK ⟨d,g,i⟩];have:=Xl7 hm r ⟨g,i⟩;have:=j.cH;exact aS Y (bB m Y (bG (Xgv (hc.bR a) hm size n hn) Y λu o=>aV Y (bE func40 Y ⟨rfl,a.trans o⟩)))
   .rw[bJ (λh=>i h.2.2)];exact bI Y (bE func40 Y ⟨rfl,a⟩)
  .rw[bJ (λh=>g h.2.1)];exact bI Y (bE func40 Y ⟨rfl,a⟩)
 .rw[bJ (λh=>d h.1),Uv d];exact bI Y (bE func40 Y ⟨rfl,a⟩)
theorem Xfm(hm:Xy c=true){n:Int}(h:1<=n/\n<=c.cH):(0<=Ku c n/\Ku c n<=8694132994)/\0<=Kv c n/\Kv c n<=8694132994:=by
 obtain⟨d,f⟩:=Xbv hm h;obtain⟨g,b,i,j,k,l⟩:=Lq hm h;have m:=Xhj hm h;refine⟨⟨by rw[XaB hm h];omega,?_⟩,by rw[Xbi hm h];omega,?_⟩
 .unfold Ku;split
  .split
   .rename_i a;have:=b a;omega
   .omega
  .omega
 .unfold Kv;split
  .split
   .rename_i a;have:=b a;omega
   .omega
  .omega
theorem XmM(hc:Yd w c p)(hm:Xy c=true)(old size:Int):Xe prog 41 #[.agg (X5 c p).toArray,W old,W size] w (Grow (W (U4 c old size)) w):=by
 refine aR func41 ntmps41 Y (bC Y λb u e1 q r x=>?_);refine bB q Y (bG (K3 c p old u) Y λv l=>?_);have m:=l.bP q;have j:=r.trans l;unfold U4;by_cases k:En c old=true
 .rw[Ux k];have s:=G5.1 k;refine aS Y (bB m Y (bG (K3 c p size v) Y λz n=>?_));have i:=n.bP m;have d:=j.trans n;by_cases f:En c size=true
  .rw[bK ⟨k,f⟩,Ux f];have o:=G5.1 f;have y:=(Zr hm).cH;obtain⟨_,A⟩:=Xfm hm s;obtain⟨B,_⟩:=Xfm hm o;obtain⟨_,_,_,_,C,D⟩:=Lq hm s;obtain⟨_,_,_,_,E,F⟩:=Lq hm o;exact aS Y (aQ 19 Xf xK Y λa=>aE a i Y (aG a (λw' g=>Xgt ((hc.bR d).bR g) hm size) Y (aE a i Y (aG a (λw' g=>Xgu ((hc.bR d).bR g) hm old) Y (aC a Y (aC a Y (aC a Y (aE a i Y (aH a (λw' g=>J7 old c.size w' X) Y (aC a Y (aE a i Y (aH a (λw' g=>J7 size c.size w' X) Y (aF a Y λG t=>aV Y (aV Y (bE func41 Y ⟨rfl,d.trans t⟩)))))))))))))))
  .rw[bJ (λh=>f h.2),Uv f];exact bI Y (bE func41 Y ⟨rfl,d⟩)
 .rw[bJ (λh=>k h.1),Uv k];exact bI Y (bE func41 Y ⟨rfl,j⟩)
theorem XmN(hm:Xy c=true):Xe prog 42 #[.agg (X5 c p).toArray] w (Grow (W (Xby c)) w):=by
 have g:1<=c.step/\c.step<=1048576:=by
  have:=hm;unfold Xy at this;simp only[XI,decide_eq_true_eq,Qu] at this;omega
 have h:=(Zr hm).n;refine aR func42 ntmps42 Y (bC Y λb i e1 a d f=>?_);exact bB a Y (bB a Y (aV Y (aV Y (bE func42 Y ⟨rfl,d⟩))))
theorem XkF(hc:Yd w c p)(hm:Xy c=true)(u:Eg)(hu:I2 w u)(size:Int):Xe prog 13 #[.agg (X5 c p).toArray,.agg (Et u).toArray,W size] w (Grow (W (Sc c u size)) w):=by
 have t:=hu.lc;have v:=hu.len;refine aR func13 ntmps13 Y (bC Y λb z e1 i k x=>bC Y λub s e2 g f y=>?_);have a:=k.trans f;have h:=hc.bR a;refine bB g Y ?_;unfold Sc;by_cases l:u.kind=1
 .rw[bK l];exact bI Y (bB (f.bP i) Y (bB g Y (bG (Xgt h hm u.a) Y λj d=>bE func13 Y ⟨rfl,a.trans d⟩)))
 rw[bJ l];refine aS Y ?_;by_cases m:u.kind=2
 .rw[bK m];exact bI Y (bB (f.bP i) Y (bG (Xgu h hm size) Y λj d=>bE func13 Y ⟨rfl,a.trans d⟩))
 rw[bJ m];refine aS Y ?_;by_cases n:u.kind=3
 .rw[bK n];exact bI Y (bB (f.bP i) Y (bB g Y (bG (Xgv h hm size u.b hu.b.2) Y λj d=>bE func13 Y ⟨rfl,a.trans d⟩)))
 rw[bJ n];refine aS Y ?_;by_cases o:u.kind=4
 .rw[bK o];exact bI Y (bB (f.bP i) Y (bB g Y (bG (XmO h hm size u.bs.length X) Y λj d=>bE func13 Y ⟨rfl,a.trans d⟩)))
 rw[bJ o];refine aS Y ?_;by_cases q:u.kind=5
 .rw[bK q];exact bI Y (bB (f.bP i) Y (bB g Y (bG (XmM h hm size u.a) Y λj d=>bE func13 Y ⟨rfl,a.trans d⟩)))
 rw[bJ q];refine aS Y ?_;by_cases r:u.kind=6
 .rw[bK r];exact bI Y (bB (f.bP i) Y (bG (XmN (p:=p) (w:=s) hm) Y λj d=>bE func13 Y ⟨rfl,a.trans d⟩))
 rw[bJ r];exact aS Y (bE func13 Y ⟨rfl,a⟩)
end
theorem XjM(h:Mw c=true):c.cN<=20:=by
 unfold Mw at h;simp only[XI,decide_eq_true_eq] at h;exact h.2
theorem law_HeapSteps(c:Conf)(p:Yz)(sa:Option dF)(sc:Nat)(xs:List Eg)(w:dD)(ht:Bk w)(hc:Yd w c p)(hrs:Rows Et 5 w sa xs)(hl:xs.length<=9223372036854775807)(hxs:∀x∈xs,I2 w x):Xe prog 3 #[.agg (X5 c p).toArray,.slice sa xs.length sc] w (Grow (.bool true) w):=by
 refine aR func3 ntmps3 Y (bC Y λcb w1 e1 c0 bi cw=>?_);refine bG (XkC w1 (ht.bQ bi)) Y λE bj=>?_;have aq:=bi.trans bj;have ar:=bj.bP c0;refine bB ar Y (bG (Xme c p E (hc.bR aq)) Y λw3 bk=>?_);have L:=aq.trans bk;have au:=bk.bP ar;cases hf:Mw c with
 |false=>
  exact bI Y (bE func3 Y ⟨rfl,L⟩)
 |true=>
 obtain⟨hm,cx,cy⟩:=XjL hf;have cz:=XjM hf;refine aS Y (aP Y (Xm6 sa sc xs w3 (hrs.bR L) hl) ?_);rintro _ w4 ⟨b0,rfl,c1,rfl⟩;refine aN Y (aT Y (λg0=>?_) λg0=>?_)
 .exact bE func3 Y ⟨rfl,L⟩
 obtain⟨cp,bf⟩:=c1 (xU g0);have ak:=hc.bR L;refine bB au Y (aP Y (XkD c p w3 ak (ht.bQ L) hm X X) ?_);rintro _ w5 ⟨n0,F,S,H,P,r,rfl,h5,d0,bm,bs,c3⟩;have d4:=h5.hm.lv.bR.size;refine aN Y (bC Y λxb w6 e6 c4 c5 d5=>bF c4 Y λw7 bt c6 d6=>?_);have aw:=c5.sn c6;have lxb:¬Ye F P xb:=λhz=>by
  rcases hz with hz|hz|hz
  .have:=h5.hm.lv.low _ hz;omega
  .have:=Eo h5.hm.tb.kd.1;omega
  .have:=Eo h5.hm.tb.kd.2;omega
 have d7:n0<=w5.heap.size:=xI (Eo h5.hm.tb.kd.1) h5.hm.low
 have c7:Bh c p n0 w3 w7 F P (Ha c) r xb:=⟨bm.bQ aw,bs,c3,bm.out (λz e=>X),bt,X,X,lxb⟩;refine Xa.loop (α:=Nat) (λk=>[(1,false,.slice sa xs.length sc),(2,false,xV cb),(5,false,.bool true),(6,false,Dc H),(7,false,xV xb),(8,false,W k)])
  (λk w'=>k<=xs.length/\∃F S x r,Hv c n0 w3 w' F S H P x/\Bh c p n0 w3 w' F P x r xb/\0<=x.st.rm.tot/\x.st.rm.tot<=k*1000000000) (λk=>xs.length-k) 0 ⟨rfl,rfl,rfl,rfl,rfl,rfl,trivial⟩ ⟨XQ _,F,S,_,r,(h5.bQ aw),c7,YN _,YN _⟩ ?_
 rintro k w8 ⟨hk,F8,S8,n,r9,h8,aa,d8,cu⟩ ih;refine aN Y (aT Y (λD=>?_) λD=>?_)
 .have D:=bL D;have ax:k<xs.length:=X
  obtain⟨sb,so,rfl,a6⟩:=hrs.at ax;have hu:=hxs _ (XL ax);have c8:∀w',Xc Xf w8 w'->Xe prog 10 #[.agg (Dt r9).toArray,W xs[k].h] w' (Grow (W (Sa n xs[k].h)) w'):=λw' ab=>Xm9 (aa.hr.bQ ab) (by rw[aa.rc.1];exact h8.ok) xs[k].h hu.h;refine aQ 6 Xf xK Y λd=>aE d aa.box Y (aB (k*5) d Y (aD d (Om (L.trans h8.hm.lv.bR).below (a6 1 _ rfl)) Y (aF d Y λc9 b3=>bG (c8 c9 b3) Y λd9 bu=>?_)));have b4:=b3.trans bu;obtain⟨zz,ezz⟩:∃zz,zz=Sa n xs[k].h:=⟨_,rfl⟩;rw[<-ezz];replace h8:=h8.bQ b4;replace aa:=aa.bQ b4;have b5:=L.trans h8.hm.lv.bR;refine aU (k*5) Y (Xa.loadC Xb ((Et xs[k])) rfl xT ((λj v e=>Om b5.below (a6 j v e))) rfl ?_);have bw:0<xs[k].bs.length->Xj F8 xs[k].ba:=λca b off s e hz=>by
   obtain⟨b',off',e',b6⟩:=hu.rd 0 ca;rw[e] at e';cases e'
   have:=World.block_lt_of_cell? w _ b6;have:=h8.hm.lv.base b hz;have:=L.size;have:b<w.heap.size:=by assumption
   omega
  refine aP Y (XkE h8 xs[k] (hu.bQ b5) (bf _ (XL ax)).2 bw) ?_;rintro _ w9 ⟨bv,F9,S9,rfl,⟨ba,bcap,rfl,db,dc⟩,h9,ce,cf,_⟩;have bn:=aa.prog (ak.bR h9.hm.lv.bR) ce cf;refine aN Y (bC Y λvb wa ea cg ch dd=>bF cg Y λl bh ci de=>?_);have V:=ch.sn ci;have ac:=h9.bQ V;have f:=bn.bQ V;have al:=L.trans ac.hm.lv.bR;have ao:∀i v,(Et xs[k])[i]?=some v->l.cell? ⟨sb,so+k*5+i,none⟩=some v:=λi v hv=>al.cell (a6 i v hv) id;have hD:=Xm5 f.hr h8.ok f.rc.1 X xs[k] (hu.bQ al) X;apply Xa.cut (α:=HR×Option dF×Nat×Nat×Nat) (λy=>[(1,false,.slice (some ⟨sb,so,none⟩) xs.length sc),(2,false,xV cb),(5,false,.bool true),(6,false,Dc H),(7,false,xV xb),(8,false,W k),(9,false,W zz),(10,false,xV vb),(11,false,.pointer (some ⟨y.2.2.2.1,0,none⟩)),(12,false,.pointer (some ⟨y.2.2.2.2,0,none⟩))]++[(55,false,.agg (Mc (Qj c n xs[k]) (Qp c n xs[k]) y.2.1 (Z8 c n xs[k]).length y.2.2.1 (Yt c n xs[k])).toArray)])
   (λy w'=>Ee l r9 (Zg c n xs[k]) (Z8 c n xs[k]) y.1 y.2.1 y.2.2.2.1 (Dt y.1) w'/\Gc l y.1 y.2.1 y.2.2.2.2 [W 0,W 0,.slice none 0 0,W 0] w')
  .intro J;refine aQ 12 Xf xK Y λd=>aE d f.box Y (aB (k*5) d Y (Xd.loadC Xb d ((Et xs[k])) rfl xT (ao) (by first|exact λh=>h|(intro h;omega)|assumption) rfl ?_));refine Xd.turn3 d rfl ?_ ?_ ?_
   .intro wa R;have O:=hD _ R;refine Xo.call (Post:=λv E=>∃r' a cap,v=.tuple #[.agg (Dt r').toArray,.agg (Mc (Qj c n xs[k]) (Qp c n xs[k]) a (Z8 c n xs[k]).length cap (Yt c n xs[k])).toArray]/\Ho l r9 (Zg c n xs[k]) (Z8 c n xs[k]) r' a E/\Xc Xf wa E/\∀b,l.heap.size<=b->(b<(wa).heap.size\/E.heap.size<=b)->Ki r' a b) rfl O.fn (λh0=>O.mono λv E ⟨r',a,cap,e1,e2,e3,e4⟩=>⟨h0.trans e3,r',a,cap,e1,e2,e3,e4⟩) ?_;rintro _ wb q0 ⟨rr,da,dcap,rfl,q,q1,A⟩;refine Xd.adv Xb d rfl ?_;refine Xd.turn2 d rfl ?_ ?_
    .intro wc B;have af:=(((R.trans q1).trans B)).size;refine Xo.alloc Xb d rfl (λ_=>rfl) ?_;intro qb wd eqb t T am;have I:l.heap.size<=qb:=X
     refine Xd.cK d rfl ?_;intro we M;have ag:=(((((R.trans q1).trans B).trans T).trans M)).size;refine Xo.alloc Xb d rfl (λ_=>rfl) ?_;intro tb wf etb u q3 ah;have K:l.heap.size<=tb:=X
     have y2:=B.size;have y4:=M.size;have C:=M.trans q3;have D:=(B.trans T).trans C;have hX:Ee l r9 (Zg c n xs[k]) (Z8 c n xs[k]) rr da qb _ wf:=⟨by first|exact q|exact q.bQ C|exact q.bQ D,by first|exact t|exact C.bP t|exact D.bP t,I,A qb I (by first|(right;omega)|(left;omega))⟩;have Q:Gc l rr da tb _ wf:=⟨by first|exact u|exact C.bP u|exact D.bP u,K,A tb K (by first|(right;omega)|(left;omega))⟩;refine Xd.cK d rfl ?_;intro wg N;have m:=hX.bQ N;refine Xo.store Xb d rfl m.box (by first|(intro h;exact rfl)|(intro h;omega)) rfl rfl rfl ?_;intro wh G o ai;refine aF d Y λwz az=>?_;exact J (rr,da,dcap,qb,tb) wz _ ⟨((m.st f.hr G o)).bQ az,(((Q.bQ N).st m o)).bQ az⟩ (by repeat (first|exact trivial|refine⟨rfl,?_⟩))
    .intro wc B;have ag:=(((R.trans q1).trans B)).size;refine Xo.alloc Xb d rfl (λ_=>rfl) ?_;intro tb wd etb u T ah;have K:l.heap.size<=tb:=X
     refine Xd.cK d rfl ?_;intro we M;have af:=(((((R.trans q1).trans B).trans T).trans M)).size;refine Xo.alloc Xb d rfl (λ_=>rfl) ?_;intro qb wf eqb t q3 am;have I:l.heap.size<=qb:=X
     have y2:=B.size;have y4:=M.size;have C:=M.trans q3;have D:=(B.trans T).trans C;have hX:Ee l r9 (Zg c n xs[k]) (Z8 c n xs[k]) rr da qb _ wf:=⟨by first|exact q|exact q.bQ C|exact q.bQ D,by first|exact t|exact C.bP t|exact D.bP t,I,A qb I (by first|(right;omega)|(left;omega))⟩;have Q:Gc l rr da tb _ wf:=⟨by first|exact u|exact C.bP u|exact D.bP u,K,A tb K (by first|(right;omega)|(left;omega))⟩;refine Xd.cK d rfl ?_;intro wg N;have m:=hX.bQ N;refine Xo.store Xb d rfl m.box (by first|(intro h;exact rfl)|(intro h;omega)) rfl rfl rfl ?_;intro wh G o ai;refine aF d Y λwz az=>?_;exact J (rr,da,dcap,qb,tb) wz _ ⟨((m.st f.hr G o)).bQ az,(((Q.bQ N).st m o)).bQ az⟩ (by repeat (first|exact trivial|refine⟨rfl,?_⟩))
   .intro wa R;have af:=(R).size;refine Xo.alloc Xb d rfl (λ_=>rfl) ?_;intro qb wb eqb t q1 am;have I:l.heap.size<=qb:=X
    refine Xd.turn2 d rfl ?_ ?_
    .intro wc B;have O:=hD _ ((R.trans q1).trans B);refine Xo.call (Post:=λv E=>∃r' a cap,v=.tuple #[.agg (Dt r').toArray,.agg (Mc (Qj c n xs[k]) (Qp c n xs[k]) a (Z8 c n xs[k]).length cap (Yt c n xs[k])).toArray]/\Ho l r9 (Zg c n xs[k]) (Z8 c n xs[k]) r' a E/\Xc Xf wc E/\∀b,l.heap.size<=b->(b<(wc).heap.size\/E.heap.size<=b)->Ki r' a b) rfl O.fn (λh0=>O.mono λv E ⟨r',a,cap,e1,e2,e3,e4⟩=>⟨h0.trans e3,r',a,cap,e1,e2,e3,e4⟩) ?_;rintro _ wd q0 ⟨rr,da,dcap,rfl,q,T,A⟩;refine Xd.adv Xb d rfl (Xd.cK d rfl λwe M=>?_);have ag:=(((((R.trans q1).trans B).trans T).trans M)).size;refine Xo.alloc Xb d rfl (λ_=>rfl) ?_;intro tb wf etb u q3 ah;have K:l.heap.size<=tb:=X
     have y2:=B.size;have y4:=M.size;have C:=M.trans q3;have D:=(B.trans T).trans C;have hX:Ee l r9 (Zg c n xs[k]) (Z8 c n xs[k]) rr da qb _ wf:=⟨by first|exact q|exact q.bQ C|exact q.bQ D,by first|exact t|exact C.bP t|exact D.bP t,I,A qb I (by first|(right;omega)|(left;omega))⟩;have Q:Gc l rr da tb _ wf:=⟨by first|exact u|exact C.bP u|exact D.bP u,K,A tb K (by first|(right;omega)|(left;omega))⟩;refine Xd.cK d rfl ?_;intro wg N;have m:=hX.bQ N;refine Xo.store Xb d rfl m.box (by first|(intro h;exact rfl)|(intro h;omega)) rfl rfl rfl ?_;intro wh G o ai;refine aF d Y λwz az=>?_;exact J (rr,da,dcap,qb,tb) wz _ ⟨((m.st f.hr G o)).bQ az,(((Q.bQ N).st m o)).bQ az⟩ (by repeat (first|exact trivial|refine⟨rfl,?_⟩))
    .intro wc B;have ag:=(((R.trans q1).trans B)).size;refine Xo.alloc Xb d rfl (λ_=>rfl) ?_;intro tb wd etb u T ah;have K:l.heap.size<=tb:=X
     refine Xd.cK d rfl ?_;intro we M;have O:=hD _ ((((R.trans q1).trans B).trans T).trans M);refine Xo.call (Post:=λv E=>∃r' a cap,v=.tuple #[.agg (Dt r').toArray,.agg (Mc (Qj c n xs[k]) (Qp c n xs[k]) a (Z8 c n xs[k]).length cap (Yt c n xs[k])).toArray]/\Ho l r9 (Zg c n xs[k]) (Z8 c n xs[k]) r' a E/\Xc Xf we E/\∀b,l.heap.size<=b->(b<(we).heap.size\/E.heap.size<=b)->Ki r' a b) rfl O.fn (λh0=>O.mono λv E ⟨r',a,cap,e1,e2,e3,e4⟩=>⟨h0.trans e3,r',a,cap,e1,e2,e3,e4⟩) ?_;rintro _ wf q0 ⟨rr,da,dcap,rfl,q,q3,A⟩;refine Xd.adv Xb d rfl ?_;have y2:=B.size;have y4:=M.size;have C:=M.trans q3;have D:=(B.trans T).trans C;have hX:Ee l r9 (Zg c n xs[k]) (Z8 c n xs[k]) rr da qb _ wf:=⟨by first|exact q|exact q.bQ C|exact q.bQ D,by first|exact t|exact C.bP t|exact D.bP t,I,A qb I (by first|(right;omega)|(left;omega))⟩;have Q:Gc l rr da tb _ wf:=⟨by first|exact u|exact C.bP u|exact D.bP u,K,A tb K (by first|(right;omega)|(left;omega))⟩;refine Xd.cK d rfl ?_;intro wg N;have m:=hX.bQ N;refine Xo.store Xb d rfl m.box (by first|(intro h;exact rfl)|(intro h;omega)) rfl rfl rfl ?_;intro wh G o ai;refine aF d Y λwz az=>?_;exact J (rr,da,dcap,qb,tb) wz _ ⟨((m.st f.hr G o)).bQ az,(((Q.bQ N).st m o)).bQ az⟩ (by repeat (first|exact trivial|refine⟨rfl,?_⟩))
   .intro wa R;have ag:=(R).size;refine Xo.alloc Xb d rfl (λ_=>rfl) ?_;intro tb wb etb u q1 ah;have K:l.heap.size<=tb:=X
    refine Xd.turn2 d rfl ?_ ?_
    .intro wc B;have O:=hD _ ((R.trans q1).trans B);refine Xo.call (Post:=λv E=>∃r' a cap,v=.tuple #[.agg (Dt r').toArray,.agg (Mc (Qj c n xs[k]) (Qp c n xs[k]) a (Z8 c n xs[k]).length cap (Yt c n xs[k])).toArray]/\Ho l r9 (Zg c n xs[k]) (Z8 c n xs[k]) r' a E/\Xc Xf wc E/\∀b,l.heap.size<=b->(b<(wc).heap.size\/E.heap.size<=b)->Ki r' a b) rfl O.fn (λh0=>O.mono λv E ⟨r',a,cap,e1,e2,e3,e4⟩=>⟨h0.trans e3,r',a,cap,e1,e2,e3,e4⟩) ?_;rintro _ wd q0 ⟨rr,da,dcap,rfl,q,T,A⟩;refine Xd.adv Xb d rfl (Xd.cK d rfl λwe M=>?_);have af:=(((((R.trans q1).trans B).trans T).trans M)).size;refine Xo.alloc Xb d rfl (λ_=>rfl) ?_;intro qb wf eqb t q3 am;have I:l.heap.size<=qb:=X
     have y2:=B.size;have y4:=M.size;have C:=M.trans q3;have D:=(B.trans T).trans C;have hX:Ee l r9 (Zg c n xs[k]) (Z8 c n xs[k]) rr da qb _ wf:=⟨by first|exact q|exact q.bQ C|exact q.bQ D,by first|exact t|exact C.bP t|exact D.bP t,I,A qb I (by first|(right;omega)|(left;omega))⟩;have Q:Gc l rr da tb _ wf:=⟨by first|exact u|exact C.bP u|exact D.bP u,K,A tb K (by first|(right;omega)|(left;omega))⟩;refine Xd.cK d rfl ?_;intro wg N;have m:=hX.bQ N;refine Xo.store Xb d rfl m.box (by first|(intro h;exact rfl)|(intro h;omega)) rfl rfl rfl ?_;intro wh G o ai;refine aF d Y λwz az=>?_;exact J (rr,da,dcap,qb,tb) wz _ ⟨((m.st f.hr G o)).bQ az,(((Q.bQ N).st m o)).bQ az⟩ (by repeat (first|exact trivial|refine⟨rfl,?_⟩))
    .intro wc B;have af:=(((R.trans q1).trans B)).size;refine Xo.alloc Xb d rfl (λ_=>rfl) ?_;intro qb wd eqb t T am;have I:l.heap.size<=qb:=X
     refine Xd.cK d rfl ?_;intro we M;have O:=hD _ ((((R.trans q1).trans B).trans T).trans M);refine Xo.call (Post:=λv E=>∃r' a cap,v=.tuple #[.agg (Dt r').toArray,.agg (Mc (Qj c n xs[k]) (Qp c n xs[k]) a (Z8 c n xs[k]).length cap (Yt c n xs[k])).toArray]/\Ho l r9 (Zg c n xs[k]) (Z8 c n xs[k]) r' a E/\Xc Xf we E/\∀b,l.heap.size<=b->(b<(we).heap.size\/E.heap.size<=b)->Ki r' a b) rfl O.fn (λh0=>O.mono λv E ⟨r',a,cap,e1,e2,e3,e4⟩=>⟨h0.trans e3,r',a,cap,e1,e2,e3,e4⟩) ?_;rintro _ wf q0 ⟨rr,da,dcap,rfl,q,q3,A⟩;refine Xd.adv Xb d rfl ?_;have y2:=B.size;have y4:=M.size;have C:=M.trans q3;have D:=(B.trans T).trans C;have hX:Ee l r9 (Zg c n xs[k]) (Z8 c n xs[k]) rr da qb _ wf:=⟨by first|exact q|exact q.bQ C|exact q.bQ D,by first|exact t|exact C.bP t|exact D.bP t,I,A qb I (by first|(right;omega)|(left;omega))⟩;have Q:Gc l rr da tb _ wf:=⟨by first|exact u|exact C.bP u|exact D.bP u,K,A tb K (by first|(right;omega)|(left;omega))⟩;refine Xd.cK d rfl ?_;intro wg N;have m:=hX.bQ N;refine Xo.store Xb d rfl m.box (by first|(intro h;exact rfl)|(intro h;omega)) rfl rfl rfl ?_;intro wh G o ai;refine aF d Y λwz az=>?_;exact J (rr,da,dcap,qb,tb) wz _ ⟨((m.st f.hr G o)).bQ az,(((Q.bQ N).st m o)).bQ az⟩ (by repeat (first|exact trivial|refine⟨rfl,?_⟩))
  rintro⟨r',da,dcap,qb,tb⟩ wz ⟨hX,Q⟩;simp only at hX Q
  refine bF Q.box Y λwt df cj ah=>?_;have a9:=hX.stY Q f.hr cj;have bb:=a9.d.ch;have bo:=bb.bP f.box;have dg:=Xg bn.box;have bz:∀z,Ye F9 P z->z<l.heap.size:=λz hz=>by
   rcases hz with hz|hz|hz
   .exact ac.hm.lv.low _ hz
   .have:=Eo ac.hm.tb.kd.1;omega
   .have:=Eo ac.hm.tb.kd.2;omega
  refine bB a9.box Y (bF bo Y λwu ck bc dh=>?_);have bp:=a9.d.bV.out (S:=λz=>z=xb) (λz e=>X) f.xr;have cl:¬H=xb:=λe=>by
   have k:=X2 ac.hm.obj;rw[e,X2 f.box] at k;exact absurd (Option.some.inj (Option.some.inj k)) xD
  have ad:=Hv.boxed (ac.bQ bb) (λg=>f.xo.2.2 (.inl g)) ⟨f.xo.1,f.xo.2.1⟩ ⟨λg=>f.xo.2.2 (.inr g),cl⟩ (X2 bo) xD bc;have ecf:r'.s.c=c/\r'.s.cp=p:=⟨a9.d.bV.1.1.trans f.rc.1,a9.d.bV.1.2.1.trans f.rc.2⟩;have bq:Bh c p n0 w3 wu F9 P (Zg c n xs[k]) r' xb:=⟨(a9.d.hr.bW bp (by rw[ecf.1,ecf.2];exact ak.bR ad.hm.lv.bR) bc),ecf,a9.d.bV.out bz f.out,bp,ck,f.xo⟩;have lvx:¬vb=xb:=X
  have U:=bc.heap (bb.bP bh) lvx;have bd:=L.trans ad.hm.lv.bR;have be:∀i v,(Et xs[k])[i]?=some v->wu.cell? ⟨sb,so+k*5+i,none⟩=some v:=λi v hv=>bd.cell (a6 i v hv) id;have br:=XoJ h8.ok xs[k] X;by_cases he:Qj c n xs[k]=0
  .obtain⟨b1,b2⟩:=XjD h8.ok xs[k] he;rw[<-ezz] at b2;have cn:∀w',Xc Xf wu w'->Xe prog 13 #[.agg (X5 c p).toArray,.agg (Et xs[k]).toArray,W zz] w' (Grow (W (Sc c xs[k] zz)) w'):=λw' ab=>XkF ((ak.bR ad.hm.lv.bR).bR ab) hm xs[k] ((hu.bQ bd).bQ ab) zz;exact aQ 22 Xf xK Y λd=>aE d U Y (Xd.no Xb d rfl (by rw[he];rfl) rfl (aE d U Y (Xd.yes Xb d rfl (beq_iff_eq.2 he) rfl (aE d U Y (aE d (ad.hm.lv.bR.bP au) Y (aB (k*5) d Y (Xd.loadC Xb d ((Et xs[k])) rfl xT (be) (by first|exact λh=>h|(intro h;omega)|assumption) rfl (aG d (λw' ab=>cn w' ab) Y (aF d Y λwv V=>aS Y (bB (V.bP U) Y (aS Y (aV Y (ih (k+1) _ _ ⟨X,F9,S9,_,r',ad.bQ V,bq.bQ V,br.1,X⟩ X ⟨rfl,rfl,rfl,rfl,rfl,rfl,trivial⟩)))))))))))))
  .obtain⟨d1,d2,d3,b1,b2⟩:=XjE (c:=c) xs[k] he;exact aQ 22 Xf xK Y λd=>aE d U Y (Xd.yes Xb d rfl (bne_iff_ne.2 he) rfl (aE d U Y (Xd.no Xb d rfl (bO X) rfl (aE d U Y (Xd.no Xb d rfl (beq_eq_false_iff_ne.2 he) rfl (aF d Y λwv V=>bB (V.bP U) Y (aS Y (aV Y (ih (k+1) _ _ ⟨X,F9,S9,_,r',ad.bQ V,bq.bQ V,br.1,X⟩ X ⟨rfl,rfl,rfl,rfl,rfl,rfl,trivial⟩)))))))))
 .exact bE func3 Y ⟨rfl,L.trans h8.hm.lv.bR⟩
end Go.Proofs.YtdeihcnepljjaaaGreatDoor
