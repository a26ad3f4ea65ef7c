/-
  Texts put together: Unit, Slices, Class, Conf, Meter, Rmm, Pick, Rml, Room0, Room1, Room2, Room3, Slices2, Slices3, Plc, Room4, Room5, Room6, Flat, Ref20, Ref20b, Ref20c, Ref20d, Ref3, Ref20e, Ref20f, Ref20g, Ref20h, Ref20i, RmBack, RmOwn, Y1, Top13, RmPlan, Arena, Arena2, View.
-/
import Derived.Test.YtdeihcnepljjaaaGreatDoorPt1
import Derived.Test.YtdeihcnepljjaaaGreatDoorQPost
import Derived.Test.YtdeihcnepljjaaaGreatDoorQRule6
import Derived.Test.YtdeihcnepljjaaaGreatDoorQRule11
import Derived.Test.YtdeihcnepljjaaaGreatDoorQRule16
import Derived.Test.YtdeihcnepljjaaaGreatDoorQRule5
import Derived.Test.YtdeihcnepljjaaaGreatDoorQRule15
import Derived.Test.YtdeihcnepljjaaaGreatDoorQRule17
import Derived.Test.YtdeihcnepljjaaaGreatDoorQRule18
import Derived.Test.YtdeihcnepljjaaaGreatDoorQRule19
import Derived.Test.YtdeihcnepljjaaaGreatDoorQRule25
import Derived.Test.YtdeihcnepljjaaaGreatDoorQRule7
set_option linter.unusedVariables false
set_option maxRecDepth 100000
namespace Go.Proofs.YtdeihcnepljjaaaGreatDoor
open Go.RowKit
open Go renaming World→dD,Value→dE,Addr→dF
open Bool renaming and_eq_true->XI,and_false->YD,true_and->YM,false_and->QE,eq_iff_iff->QW
open Int renaming toNat_natCast->XA,eq_ofNat_of_zero_le->XE,mul_le_mul_of_nonneg_right->XZ,mul_nonneg->ZG,mul_le_mul->ZH,ediv_nonneg->ZY,ediv_le_self->QL
open List renaming getD_eq_getElem?_getD->XB,getElem?_eq_some_iff->XC,getElem?_eq_getElem->XD,length_set->XG,getElem?_set_self->XH,length_replicate->XJ,getElem?_set_ne->XK,getElem_mem->XL,map_append->XM,length_cons->XN,getElem?_map->XO,mem_map->XP,nodup_append->XR,mem_append->XS,length_map->XU,nodup_cons->XV,mem_of_getElem?->XW,length_take->XX,take_append_drop->XY,getElem?_append_left->ZA,mem_of_mem_take->ZB,mem_cons->ZC,getElem?_replicate->ZD,length_append->ZE,getElem?_eq_none->ZF,take_add_one->ZI,filter_cons->ZJ,length_range->ZK,map_cons->ZL,take_length->ZM,mem_or_eq_of_mem_set->ZN,mem_cons_self->ZO,nil_append->ZQ,mem_of_mem_drop->ZR,drop_eq_getElem_cons->ZT,flatMap_cons->ZV,eq_of_mem_replicate->ZX,length_eq_zero_iff->ZZ,mem_cons_of_mem->YA,getElem?_append_right->YC,replicate_succ->YF,eq_nil_of_length_eq_zero->YH,range_succ->YQ,filter_eq_self->YR,take_of_length_le->YV,getElem?_toArray->QA,nodup_nil->QB,mem_append_right->QC,mem_singleton->QD,any_eq_false->QI,sum_cons->QJ,length_tail->QM,filter_append->QP,append_nil->QR,any_eq_true->QU,getElem_of_mem->QV,getD->QX,mem_filter->QY,map_take->As
open Nat renaming le_refl->XF,zero_le->XQ,zero_add->XT,mul_one->ZS,div_add_mod->YG,mul_comm->YJ,mod_lt->YW,add_assoc->YX,div_lt_iff_lt_mul->QQ,strongRecOn->QS,succ_mul->An
open Option renaming getD_some->YI,map_eq_some_iff->QN,map_some->QZ
open Go.Proofs.Tryz (func101 func114 func115 func116 func117 func118 func121 func122 func128 func132 func133 func145 func146 func147 func148 func154 func155 func156 func157 func162 func165 func168 func170 func173 func174 func175 func176 func178 func179 func180 func181 func182 func183 func184 func185 func188 func189 func190 func191 func192 func196 func198 func199 func200 func204 func205 func206 func216 func220 func221 func226 func227 func229 func231 func232 func234 func235 func237 func239 func241 func247 func248 func251 func259 func275 func277 func278 func28 func281 func282 func306 func307 func74 func75 func89 func92 func93 ntmps101 ntmps114 ntmps115 ntmps116 ntmps117 ntmps118 ntmps121 ntmps122 ntmps128 ntmps132 ntmps133 ntmps145 ntmps146 ntmps147 ntmps148 ntmps154 ntmps155 ntmps156 ntmps157 ntmps162 ntmps165 ntmps168 ntmps170 ntmps173 ntmps174 ntmps175 ntmps176 ntmps178 ntmps179 ntmps180 ntmps181 ntmps182 ntmps183 ntmps184 ntmps185 ntmps188 ntmps189 ntmps190 ntmps191 ntmps192 ntmps196 ntmps198 ntmps199 ntmps200 ntmps204 ntmps205 ntmps206 ntmps216 ntmps220 ntmps221 ntmps226 ntmps227 ntmps229 ntmps231 ntmps232 ntmps234 ntmps235 ntmps237 ntmps239 ntmps241 ntmps247 ntmps248 ntmps251 ntmps259 ntmps275 ntmps277 ntmps278 ntmps28 ntmps281 ntmps282 ntmps306 ntmps307 ntmps74 ntmps75 ntmps89 ntmps92 ntmps93 prog)
variable {l':IL}{ahead by' cS cH size cN u who z:Int}{lg:List (Nat×List Nat)}{ps:List IL}{bs l p zs:List Int}{l2 ws:List Nat}{cs rest xs:List dE}{N at' b base cap d fuel g i j k lm lo m n o qb sz t tm ty vb xb y:Nat}{e:Nat×List Int}{fz:Nat×Nat}{f:Nat->Int}{G:Nat->Pg}{B C F F' Fr Q S S' T xX:Nat->Prop}{a:Option dF}{pg:PgL}{pl':PlM}{x x':Sm}{α:Type}{v:dE}{w w' w'' w0 w1 w2:dD}{cells:α->List dE}
def Ed(n q:Int):Int:=if n<1\/q<1 then 0 else n/q
theorem Xaj{n q:Int}(h:1<=n)(h':1<=q):Ed n q=n/q:=by unfold Ed;rw[bJ X]
theorem Xdl{n q:Int}(h:n<1\/q<1):Ed n q=0:=by unfold Ed;rw[bK h]
theorem Xia(x:Int)(w:dD):Xe prog 307 #[W x] w (X9 (.bool (decide (x<1))) w):=by
 exact aR func307 ntmps307 Y (bE func307 Y ⟨rfl,rfl⟩)
theorem XoR(x y:Int)(w:dD):Xe prog 306 #[W x,W y,.func (.func 307) #[] #[]] w (X9 (.bool (decide (x<1\/y<1))) w):=by
 refine aR func306 ntmps306 Y (bH (Xia x w) Y (aT Y (λh=>?_) λh=>?_))
 .exact bE func306 Y ⟨Q5 (by simp at h;simp[h]),rfl⟩
 .exact bH (Xia y w) Y (bE func306 Y ⟨Q5 (by simp at h;simp[show ¬x<1 from by omega]),rfl⟩)
theorem Xh9(x y:Int)(w:dD):Xe prog 282 #[W x,W y] w (X9 (.bool (decide (x<1\/y<1))) w):=by
 exact aR func282 ntmps282 Y (bH (XoR x y w) Y (bE func282 Y ⟨rfl,rfl⟩))
theorem XoQ(n q:Int)(w:dD)(hn:n<=9223372036854775807):Xe prog 247 #[W n,W q] w (X9 (W (Ed n q)) w):=by
 refine aR func247 ntmps247 Y (bH (Xh9 n q w) Y (aT Y (λh=>?_) λh=>?_))
 .exact bE func247 Y ⟨X0 (Xdl (xU h)).symm,rfl⟩
 .have a:1<=n/\1<=q:=by simp at h;omega
  exact Xa.div Xb rfl X (Gr X X) rfl (bE func247 Y ⟨X0 (Xaj a.1 a.2).symm,rfl⟩)
theorem Xmc(n q:Int)(w:dD)(hn:n<=9223372036854775807):Xe prog 248 #[W n,W q] w (X9 (W (Ed n q)) w):=by
 refine aR func248 ntmps248 Y (aT Y (λh=>?_) λh=>?_)
 .exact bE func248 Y ⟨X0 (Xdl (.inl (xU h))).symm,rfl⟩
 .refine aT Y (λa=>?_) λa=>?_
  .exact bE func248 Y ⟨X0 (Xdl (.inr (xU a))).symm,rfl⟩
  .have b:1<=n/\1<=q:=by simp at h a;omega
   exact Xa.div Xb rfl X (Gr X X) rfl (bE func248 Y ⟨X0 (Xaj b.1 b.2).symm,rfl⟩)
def Zj(n q:Int):Int:=if n<1\/q<1 then 0 else (n-1)/q+1
theorem XoP(n q:Int)(w:dD)(hn:n<=9223372036854775807):Xe prog 234 #[W n,W q] w (X9 (W (Zj n q)) w):=by
 refine aR func234 ntmps234 Y (bH (Xh9 n q w) Y (aT Y (λh=>?_) λh=>?_))
 .have:Zj n q=0:=by unfold Zj;rw[bK (xU h)]
  exact bE func234 Y ⟨X0 this.symm,rfl⟩
 .have a:1<=n/\1<=q:=by simp at h;omega
  have:Zj n q=(n-1)/q+1:=by unfold Zj;rw[bJ X]
  have b:0<=(n-1)/q:=ZY X X;have c:(n-1)/q<=n-1:=QL _ X;exact aV Y (Xa.div Xb rfl X (Gr X X) rfl (aV Y (bE func234 Y ⟨X0 this.symm,rfl⟩)))
theorem Xk4{n q:Int}(h1:1<=n)(h2:1<=q):Zj n q=if 0<n%q then n/q+1 else n/q:=by
 have hm:Zj n q=(n-1)/q+1:=by unfold Zj;rw[bJ X]
 have b:=Int.mul_ediv_add_emod n q;have hr:=Int.emod_nonneg n (show q≠0 by omega);have a:=Int.emod_lt_of_pos n (show 0<q by omega);rw[hm];split
 .have:(n-1)/q=n/q:=((Int.ediv_emod_unique (show 0<q by omega)).2 ⟨(show(n%q-1)+q*(n/q)=n-1 by omega),X,X⟩).1;omega
 .have c:q*(n/q-1)=q*(n/q)-q:=by rw[Int.mul_sub,Int.mul_one]
  have:(n-1)/q=n/q-1:=((Int.ediv_emod_unique (show 0<q by omega)).2 ⟨(show(q-1)+q*(n/q-1)=n-1 by omega),X,X⟩).1;omega
theorem Xmb(n q:Int)(w:dD)(hn:n<=9223372036854775807):Xe prog 157 #[W n,W q] w (X9 (W (Zj n q)) w):=by
 refine aR func157 ntmps157 Y (aT Y (λh=>?_) λh=>?_)
 .exact bE func157 Y ⟨X0 (by unfold Zj;rw[bK (.inl (xU h))]),rfl⟩
 .refine aT Y (λb=>?_) λb=>?_
  .exact bE func157 Y ⟨X0 (by unfold Zj;rw[bK (.inr (xU b))]),rfl⟩
  .have c:1<=n/\1<=q:=by simp at h b;omega
   rw[Xk4 c.1 c.2];have d:0<=n/q:=ZY X X;have f:n/q<=n:=QL _ X;refine Xa.div Xb rfl X (Hg X) rfl (aT Y (λa=>?_) λa=>?_)
   .rw[bK (bL a)];have g:n/q<n:=by
     have i:=Int.mul_ediv_add_emod n q;have j:=bL a;have k:=XZ c.2 d;omega
    exact Xa.div Xb rfl X (Gr X X) rfl (aV Y (bE func157 Y ⟨rfl,rfl⟩))
   .rw[bJ (bM a)];exact Xa.div Xb rfl X (Gr X X) rfl (bE func157 Y ⟨rfl,rfl⟩)
theorem Xhn(a:Option dF)(cap fk:Nat)(zs:List Int)(caps:List dE)(p:Int->Bool)(w:dD)(hr:Rd .i64 w a zs)(hl:zs.length<=9223372036854775807)(hf:∀x,x∈zs->Xe prog fk (W x::caps).toArray w (X9 (.bool (p x)) w)):Xe prog 190 #[.slice a zs.length cap,.func (.func fk) #[] caps.toArray] w (X9 (W (idx p zs)) w):=by
 refine aR func190 ntmps190 Y ?_;refine Xa.loop (α:=Nat) (λk=>[(0,false,.slice a zs.length cap),(1,false,.func (.func fk) #[] caps.toArray),(7,false,W zs.length),(8,false,W k)])
  (λk w'=>w'=w/\k<=zs.length/\∀j (h:j<zs.length),j<k->p zs[j]=false) (λk=>zs.length-k) 0 ⟨rfl,rfl,rfl,rfl,trivial⟩ ⟨rfl,XQ _,λ_ _ h=>X⟩ ?_
 rintro k o ⟨i,q,d⟩ ih;refine aN Y (aT Y (λh=>?_) λh=>?_)
 .have c:k<zs.length:=xU h
  obtain⟨b,off,rfl,l⟩:=hr k c;rw[Hw c] at l;subst i;refine aU k Y (aW Y l Y (bH (hf _ (XL c)) Y (aT Y (λf=>?_) λf=>?_)))
  .exact bE func190 Y ⟨X0 (J1 c d f).symm,rfl⟩
  .refine aV Y ?_;exact ih (k+1) _ _ ⟨rfl,c,λj g m=>by
    by_cases e:j=k
    .subst e;exact f
    .exact d j g X⟩ X ⟨rfl,rfl,rfl,rfl,trivial⟩
 .have n:k=zs.length:=by simp at h;omega
  subst i;exact bE func190 Y ⟨X0 (Ij (λj g=>d j g X)).symm,rfl⟩
theorem Xhm(a:Option dF)(cap fk:Nat)(zs:List Int)(caps:List dE)(p:Int->Bool)(w:dD)(hr:Rd .i64 w a zs)(hl:zs.length<=9223372036854775807)(hf:∀x,x∈zs->Xe prog fk (W x::caps).toArray w (X9 (.bool (p x)) w)):Xe prog 182 #[.slice a zs.length cap,.func (.func fk) #[] caps.toArray] w (X9 (.bool (zs.any p)) w):=by
 exact aR func182 ntmps182 Y (bH (Xhn a cap fk zs caps p w hr hl hf) Y (bE func182 Y ⟨Q5 (by rw[QW];simp only[decide_eq_true_eq];exact Xbp),rfl⟩))
theorem Xn1(a:Option dF)(cap:Nat)(bs:List Bool)(x:Bool)(w:dD)(hr:C9 w a bs)(hl:bs.length<=9223372036854775807):Xe prog 241 #[.slice a bs.length cap,.bool x] w (X9 (W (idx (λy=>x == y) bs)) w):=by
 refine aR func241 ntmps241 Y ?_;refine Xa.loop (α:=Nat) (λk=>[(0,false,.slice a bs.length cap),(1,false,.bool x),(7,false,W bs.length),(8,false,W k)])
  (λk w'=>w'=w/\k<=bs.length/\∀j (h:j<bs.length),j<k->(x == bs[j])=false) (λk=>bs.length-k) 0 ⟨rfl,rfl,rfl,rfl,trivial⟩ ⟨rfl,XQ _,λ_ _ h=>X⟩ ?_
 rintro k o ⟨i,q,c⟩ ih;refine aN Y (aT Y (λh=>?_) λh=>?_)
 .have d:k<bs.length:=xU h
  obtain⟨b,off,rfl,l⟩:=hr k d;subst i;refine aU k Y (aW Y l Y (aT Y (λf=>?_) λf=>?_))
  .exact bE func241 Y ⟨X0 (J1 (p:=λy=>x == y) d c f).symm,rfl⟩
  .refine aV Y ?_;exact ih (k+1) _ _ ⟨rfl,d,λj g m=>by
    by_cases e:j=k
    .subst e;exact f
    .exact c j g X⟩ X ⟨rfl,rfl,rfl,rfl,trivial⟩
 .have n:k=bs.length:=by simp at h;omega
  subst i;exact bE func241 Y ⟨X0 (Ij (p:=λy=>x == y) (λj g=>c j g X)).symm,rfl⟩
theorem XnY(a:Option dF)(cap:Nat)(bs:List Bool)(x:Bool)(w:dD)(hr:C9 w a bs)(hl:bs.length<=9223372036854775807):Xe prog 184 #[.slice a bs.length cap,.bool x] w (X9 (.bool (bs.any λy=>x == y)) w):=by
 exact aR func184 ntmps184 Y (bH (Xn1 a cap bs x w hr hl) Y (bE func184 Y ⟨Q5 (by rw[QW];simp only[decide_eq_true_eq];exact Xbp),rfl⟩))
def H0(cR:Int):Int->List Int->Bool
 |_,[]=>true
 |ahead,n::r=>decide (8<=n) && (n%8 == 0) && decide (n<=cR) && decide (ahead<n) && H0 cR n r
def A9(zs:List Int)(cR:Int):Bool:=decide (0<zs.length) && decide (zs.length<=16) && H0 cR 0 zs
def Ic(zs:List Int)(cR:Int):Int:=if A9 zs cR then 0 else 1
theorem XfR{cR:Int}(h:k<zs.length):H0 cR ahead (zs.drop k)=(decide (8<=zs[k]) && (zs[k]%8 == 0) && decide (zs[k]<=cR) && decide (ahead<zs[k]) && H0 cR zs[k] (zs.drop (k+1))):=by
 rw[ZT h];rfl
theorem XfS{cR:Int}(h:zs.length<=k):H0 cR ahead (zs.drop k)=true:=by
 rw[List.drop_eq_nil_of_le h];rfl
theorem Id{cR:Int}(h:A9 zs cR=false):Ic zs cR=1:=by unfold Ic;rw[h];rfl
theorem Xeh{cR:Int}(h:A9 zs cR=true):Ic zs cR=0:=by unfold Ic;rw[h];rfl
theorem XbN{cR:Int}:∀{zs:List Int} {ahead:Int},H0 cR ahead zs=true -> ∀i (h:i<zs.length),8<=zs[i]/\zs[i]%8=0/\zs[i]<=cR/\ahead<zs[i]/\∀j (hj:j<i),zs[j]<zs[i]
 |n::r,ahead,h,i,hi=>by
  simp only[H0,XI,decide_eq_true_eq,beq_iff_eq] at h;obtain⟨⟨⟨⟨a,b⟩,c⟩,d⟩,f⟩:=h;cases i with
  |zero=>exact⟨a,b,c,d,λj hj=>X⟩
  |succ i=>
   obtain⟨g,k,l,m,o⟩:=XbN f i (xU hi);refine⟨g,k,l,by simp only[List.getElem_cons_succ];omega,λj hj=>?_⟩;cases j with
   |zero=>exact m
   |succ j=>exact o j X
theorem Ug{cR:Int}(h:A9 zs cR=true):0<zs.length/\zs.length<=16:=by
 unfold A9 at h;simp only[XI,decide_eq_true_eq] at h;exact h.1
theorem Ou{cR:Int}(h:A9 zs cR=true)(i:Nat)(hi:i<zs.length):8<=zs.getD i 0/\zs.getD i 0%8=0/\zs.getD i 0<=cR:=by
 unfold A9 at h;simp only[XI,decide_eq_true_eq] at h;obtain⟨a,b,c,_⟩:=XbN h.2 i hi;rw[Hw hi];exact⟨a,b,c⟩
theorem Xjr{cR:Int}(h:A9 zs cR=true)(i:Nat)(hi:i+1<zs.length):zs.getD i 0<zs.getD (i+1) 0:=by
 unfold A9 at h;simp only[XI,decide_eq_true_eq] at h;obtain⟨_,_,_,_,g⟩:=XbN h.2 (i+1) hi;rw[Hw hi,Hw (show i<zs.length by omega)];exact g i X
theorem Xjs(a:Option dF)(cap:Nat)(zs:List Int)(cR:Int)(w:dD)(hr:Rd .i64 w a zs)(hl:zs.length<=9223372036854775807):Xe prog 181 #[.slice a zs.length cap,W cR] w (X9 (W (Ic zs cR)) w):=by
 refine aR func181 ntmps181 Y (aT Y (λm=>?_) λm=>?_)
 .have d:0<zs.length:=xU m
  by_cases g:zs.length<=16
  .refine Xa.knowB (t:=5) rfl (bN X) ?_;have q:A9 zs cR=H0 cR 0 (zs.drop 0):=by unfold A9;rw[bN d,bN g];simp
   refine Xa.loop (α:=Nat×Int) (λx=>[(0,false,.slice a zs.length cap),(1,false,W cR),(5,true,.bool true),(6,false,W x.2),(17,false,.slice a zs.length cap),(18,false,W zs.length),(19,false,W x.1)])
    (λx w'=>w'=w/\x.1<=zs.length/\A9 zs cR=H0 cR x.2 (zs.drop x.1)) (λx=>zs.length-x.1) (0,0) ⟨rfl,rfl,rfl,rfl,rfl,rfl,rfl,trivial⟩ ⟨rfl,XQ _,q⟩ ?_
   rintro⟨k,ahead⟩ y ⟨s,u,f⟩ ih;simp only at u f
   subst s;refine aN Y (aT Y (λh=>?_) λh=>?_)
   .have i:k<zs.length:=xU h
    rw[XfR i] at f;obtain⟨b,off,rfl,c⟩:=hr k i;rw[Hw i] at c;refine aU k Y (aW Y c Y (aT Y (λj=>?_) λj=>?_))
    .have v:=bL j;refine Xa.div Xb rfl X (Hg X) rfl (aT Y (λn=>?_) λn=>?_)
     .refine aT Y (λo=>?_) λo=>?_
      .refine aT Y (λp=>?_) λp=>?_
       .have l:¬ahead<zs[k]:=xU p
        exact bI Y (bE func181 Y ⟨X0 (Id (by rw[f,bO l];simp)).symm,rfl⟩)
       .have l:ahead<zs[k]:=xU p
        exact aV Y (ih (k+1,zs[k]) _ _ ⟨rfl,i,by rw[f,bN l,show decide (zs[k]<=cR)=true from o,n,bN v];rfl⟩ xP ⟨rfl,rfl,Xjf (bN l),rfl,rfl,rfl,rfl,trivial⟩)
      .exact bE func181 Y ⟨X0 (Id (by rw[f,show decide (zs[k]<=cR)=false from o];simp)).symm,rfl⟩
     .exact bE func181 Y ⟨X0 (Id (by rw[f,n];simp)).symm,rfl⟩
    .exact bE func181 Y ⟨X0 (Id (by rw[f,show decide (8<=zs[k])=false from j];simp)).symm,rfl⟩
   .have r:zs.length<=k:=xH (bM h)
    exact bE func181 Y ⟨X0 (Xeh (by rw[f,XfS r])).symm,rfl⟩
  .refine Xa.knowB (t:=5) rfl (bO X) (Xa.unroll Xb rfl (bI Y ?_));obtain⟨b,off,rfl,c⟩:=hr 0 d;rw[Hw d] at c;exact aU 0 Y (aW Y c Y (bE func181 Y ⟨X0 (Id (by unfold A9;rw[bO g];simp)).symm,rfl⟩))
 .have d:¬0<zs.length:=by have j:=bM m;omega
  exact Xa.unroll Xb rfl (aS Y (bE func181 Y ⟨X0 (Id (by unfold A9;rw[bO d];simp)).symm,rfl⟩))
def Ly(zs:List Int)(k:Nat):Int:=if k=0 then 0 else zs.getD (k-1) 0
theorem Xgc(h:k<zs.length):Ly zs (k+1)=zs[k]:=by simp[Ly,h]
theorem XfT{cR n:Int}{r:List Int}(h1:8<=n)(h2:n%8=0)(h3:n<=cR)(h4:ahead<n):(decide (8<=n) && (n%8 == 0) && decide (n<=cR) && decide (ahead<n) && H0 cR n r)=H0 cR n r:=by
 rw[bN h1,bN h3,bN h4,show(n%8 == 0)=true from by simpa using h2];rfl
theorem Xmd(a:Option dF)(cap:Nat)(zs:List Int)(cR:Int)(w:dD)(hr:Rd .i64 w a zs)(hl:zs.length<=9223372036854775807):Xe prog 75 #[.slice a zs.length cap,W cR] w (Grow (W (Ic zs cR)) w):=by
 refine aR func75 ntmps75 Y (aT Y (λp=>?_) λp=>?_)
 .have z:zs.length=0:=xH (bL p)
  exact bE func75 Y ⟨X0 (Id (by unfold A9;rw[bO X];simp)).symm,Xc.refl _ _⟩
 .have z:¬zs.length=0:=xH (bM p)
  refine aT Y (λq=>?_) λq=>?_
  .have A:=bL q;exact bE func75 Y ⟨X0 (Id (by unfold A9;rw[bO (show ¬zs.length<=16 from by omega)];simp)).symm,Xc.refl _ _⟩
  .have A:=bM q;have v:A9 zs cR=H0 cR (Ly zs 0) (zs.drop 0):=by unfold A9;rw[bN X,bN X];simp[Ly]
   refine Xa.loop (α:=Nat) (λk=>[(0,false,.slice a zs.length cap),(1,false,W cR),(5,false,W k)])
    (λk w'=>Xc Xf w w'/\k<=zs.length/\A9 zs cR=H0 cR (Ly zs k) (zs.drop k)) (λk=>zs.length-k) 0 ⟨rfl,rfl,rfl,trivial⟩ ⟨Xc.refl _ _,XQ _,v⟩ ?_
   rintro k D ⟨g,E,i⟩ ih;refine aN Y (aT Y (λh=>?_) λh=>?_)
   .have f:k<zs.length:=xU h
    rw[XfR f] at i;have o:=hr.bR g;obtain⟨b,off,rfl,d⟩:=o k f;rw[Hw f] at d;refine Xa.quiet rfl Xn xK (Xk.adv Xb rfl (Xk.index Xb rfl (j:=k) X X (by first|rfl|omega|(simp;done)|(simp;omega)) rfl (Xk.load Xb rfl d rfl ?_)));refine Xk.fork Xb rfl rfl rfl (λr=>?_) (λr=>?_)
    .exact Xk.nil λm c=>aN Y (bE func75 Y ⟨X0 (Id (by rw[i,bO (show ¬8<=zs[k] from by have:=bL r;omega)];simp)).symm,g.trans c⟩)
    .have F:=bM r;refine Xk.index Xb rfl (j:=k) X X (by first|rfl|omega|(simp;done)|(simp;omega)) rfl (Xk.load Xb rfl d rfl (Xk.div Xb rfl X (Hg X) rfl ?_));refine Xk.fork Xb rfl rfl rfl (λn=>?_) (λn=>?_)
     .exact Xk.nil λm c=>aN Y (bE func75 Y ⟨X0 (Id (by rw[i,show(zs[k]%8 == 0)=false from by simpa using n];simp)).symm,g.trans c⟩)
     .refine Xk.index Xb rfl (j:=k) X X (by first|rfl|omega|(simp;done)|(simp;omega)) rfl (Xk.load Xb rfl d rfl ?_);refine Xk.fork Xb rfl rfl rfl (λs=>?_) (λs=>?_)
      .exact Xk.nil λm c=>aN Y (bE func75 Y ⟨X0 (Id (by rw[i,bO (show ¬zs[k]<=cR from by have:=bL s;omega)];simp)).symm,g.trans c⟩)
      .have G:=bM s;refine Xk.fork Xb rfl rfl rfl (λt=>?_) (λt=>?_)
       .have x:=bL t;obtain⟨b',off',e',l⟩:=o (k-1) X;simp only[Option.some.injEq,Addr.mk.injEq] at e';obtain⟨rfl,rfl,_⟩:=e';have B:Ly zs k=zs.getD (k-1) 0:=by unfold Ly;rw[bJ X]
        refine Xk.index Xb rfl (j:=k) X X (by first|rfl|omega|(simp;done)|(simp;omega)) rfl (Xk.load Xb rfl d rfl (Xk.arith Xb rfl (w64 X) rfl (Xk.index Xb rfl (j:=(k-1)) X X (by first|rfl|omega|(simp;done)|(simp;omega)) rfl (Xk.load Xb rfl l rfl (Xk.nil λm c=>aN Y (aT Y (λu=>?_) λu=>?_))))))
        .have C:=bL u;exact bE func75 Y ⟨X0 (Id (by rw[i,B,bO (show ¬zs.getD (k-1) 0<zs[k] from by omega)];simp)).symm,g.trans c⟩
        .have C:=bM u;exact aV Y (ih (k+1) _ _ ⟨g.trans c,f,by rw[i,XfT X (xU n) X X,Xgc f]⟩ X ⟨rfl,rfl,rfl,trivial⟩)
       .have x:k=0:=xH (bM t)
        subst x;exact Xk.nil λm c=>aN Y (aV Y (ih 1 _ _ ⟨g.trans c,f,by rw[i,XfT X (xU n) X (by simp[Ly];omega),Xgc f]⟩ X ⟨rfl,rfl,rfl,trivial⟩))
   .have y:zs.length<=k:=xH (bM h)
    exact bE func75 Y ⟨X0 (Xeh (by rw[i,XfS y])).symm,g⟩
structure Conf where
 size:Int
 bS:Int
 bT:List Int
 bV:List Int
 step:Int
 cN:Int
 cS:Int
 cH:Int
structure Yz where
 ca:Option dF
 cc:Nat
 ka:Option dF
 kc:Nat
def X5(c:Conf)(p:Yz):List dE:=
 [.int .i64 c.size,.int .i64 c.bS,.slice p.ca c.bT.length p.cc,.slice p.ka c.bV.length p.kc,.int .i64 c.step,.int .i64 c.cN,.int .i64 c.cS,.int .i64 c.cH]
def Oc(x:Int):Prop:=-9223372036854775808<=x/\x<=9223372036854775807
structure Yd(w:dD)(c:Conf)(p:Yz):Prop where
 bT:Rd .i64 w p.ca c.bT
 bV:Rd .i64 w p.ka c.bV
 lc:c.bT.length<=9223372036854775807
 lk:c.bV.length<=9223372036854775807
 size:Oc c.size
theorem Yd.bR{w w':dD}{c:Conf}{p:Yz}(h:Yd w c p)(hw:Xc Xf w w'):Yd w' c p:=
 ⟨h.bT.bR hw,h.bV.bR hw,h.lc,h.lk,h.size⟩
def Fh(n:Int):Bool:=decide (64<=n) && decide (n<=4096) && (n%8 == 0)
def Fb(c:Conf):Int:=if Fh c.size then c.size*(c.size/8) else 0
def A8(c:Conf)(k:Int):Int:=if 0<=k/\k<c.bT.length then Ed c.size (c.bT.getD k.toNat 0) else 0
def D2(c:Conf):Int:=if c.bT.length=0 then 0 else c.bT.getD (c.bT.length-1) 0
def Qu(n a b:Int):Bool:=decide (a<=n) && decide (n<=b)
def Ng(k:Int):Bool:=!Qu k 0 1024
def Xy(c:Conf):Bool:=
 Fh c.size && Qu c.bS 1 1024 && A9 c.bT c.size && (decide (c.bV.length=c.bT.length) && !c.bV.any Ng) && Qu c.step 1 65536 && Qu c.cN 1 4096 && Qu c.cS 1 1023 && Qu c.cH 1 (Fb c)
def Bw(c:Conf):Int:=if Xy c then 0 else 1
theorem Nz{n:Int}:Fh n=true↔64<=n/\n<=4096/\n%8=0:=by
 unfold Fh;simp[and_assoc]
theorem Mt(n a b:Int)(w:dD):Xe prog 179 #[W n,W a,W b] w (X9 (.bool (Qu n a b)) w):=by
 refine aR func179 ntmps179 Y (aT Y (λh=>?_) λh=>?_)
 .exact bE func179 Y ⟨Q5 (by unfold Qu;rw[show decide (a<=n)=true from h];rfl),rfl⟩
 .exact bE func179 Y ⟨Q5 (by unfold Qu;rw[show decide (a<=n)=false from h];rfl),rfl⟩
theorem Xem(n:Int)(w:dD):Xe prog 180 #[W n] w (X9 (.bool (Fh n)) w):=by
 refine aR func180 ntmps180 Y (bH (Mt n 64 4096 w) Y (aT Y (λh=>?_) λh=>?_))
 .have a:0<=n:=by unfold Qu at h;simp at h;omega
  exact Xa.div Xb rfl X (Hg X) rfl (bE func180 Y ⟨Q5 (by unfold Fh;rw[show(decide (64<=n) && decide (n<=4096))=true from h];rfl),rfl⟩)
 .exact bE func180 Y ⟨Q5 (by unfold Fh;rw[show(decide (64<=n) && decide (n<=4096))=false from h];rfl),rfl⟩
theorem Xjy(c:Conf)(p:Yz)(w:dD):Xe prog 183 #[.agg (X5 c p).toArray] w (Grow (W (Fb c)) w):=by
 refine aR func183 ntmps183 Y (bC Y λb i e1 f d k=>bB f Y (bH (Xem c.size i) Y (aT Y (λh=>?_) λh=>?_)))
 .have a:Fh c.size=false:=xU h
  exact bE func183 Y ⟨X0 (by unfold Fb;rw[a];rfl),d⟩
 .have a:Fh c.size=true:=xU h
  have j:=Nz.1 a;have g:0<=c.size/8/\c.size/8<=512:=X
  have l:0<=c.size*(c.size/8):=ZG X g.1;have m:=ZH j.2.1 g.2 g.1 X;exact bB f Y (bB f Y (Xa.div Xb rfl X (Gr X X) rfl (aV Y (bE func183 Y ⟨X0 (by unfold Fb;rw[a];rfl),d⟩))))
theorem Xek(c:Conf)(p:Yz)(k:Int)(w:dD)(hc:Yd w c p):Xe prog 188 #[.agg (X5 c p).toArray,W k] w (Grow (W (A8 c k)) w):=by
 have i:=hc.size;unfold Oc at i;refine aR func188 ntmps188 Y (bC Y λb r e1 f a o=>aT Y (λh=>?_) λh=>?_)
 .have m:=bL h;exact bE func188 Y ⟨X0 (by unfold A8;rw[bJ X]),a⟩
 .have m:=bM h;refine bB f Y (aT Y (λg=>?_) λg=>?_)
  .have n:=bL g;exact bE func188 Y ⟨X0 (by unfold A8;rw[bJ X]),a⟩
  .have n:=bM g;obtain⟨s,off,ea,d⟩:=(hc.bR a).bT k.toNat X;obtain⟨ca,cc,ka,kc⟩:=p;simp only at ea
   subst ea;exact Xa.quiet rfl Xn xK (Xk.adv Xb rfl (Xk.cJ Xb rfl f rfl rfl (Xk.cJ Xb rfl f rfl rfl (Xk.index Xb rfl (j:=k.toNat) X X (by first|rfl|omega|(simp;done)|(simp;omega)) rfl (Xk.load Xb rfl d rfl (Xk.call Xb rfl (λw' q=>(XoQ c.size (c.bT.getD k.toNat 0) w' i.2).bQ) rfl (Xk.nil λt l=>aN Y (bE func188 Y ⟨X0 (by unfold A8;rw[bK X]),a.trans l⟩))))))))
theorem Xjz(k:Int)(w:dD):Xe prog 178 #[W k] w (X9 (.bool (Ng k)) w):=by
 exact aR func178 ntmps178 Y (bH (Mt k 0 1024 w) Y (bE func178 Y ⟨rfl,rfl⟩))
theorem Xa8(c:Conf)(p:Yz)(w:dD)(hc:Yd w c p):Xe prog 114 #[.agg (X5 c p).toArray] w (Grow (W (Bw c)) w):=by
 refine aR func114 ntmps114 Y (bC Y λb E e1 d f B=>?_);have i:=hc.bR f;refine Xa.quietF (q:=41) Xb Xn xK rfl rfl rfl rfl (Xk.adv Xb rfl (Xk.cJ Xb rfl d rfl rfl (Xk.call Xb rfl (λw' a=>(Xem c.size w').bQ) rfl (Xk.cJ Xb rfl d rfl rfl (Xk.call Xb rfl (λw' a=>(Mt c.bS 1 1024 w').bQ) rfl (Xk.cJ Xb rfl d rfl rfl (Xk.cJ Xb rfl d rfl rfl (Xk.call Xb rfl (λw' a=>(Xjs p.ca p.cc c.bT c.size w' (i.bT.bR a) hc.lc).bQ) rfl (Xk.cJ Xb rfl d rfl rfl (Xk.cJ Xb rfl d rfl rfl ?_))))))))));have fin:∀(kk:Bool),(decide (c.bV.length=c.bT.length) && !c.bV.any Ng)=kk -> 
  ([Fh c.size,Qu c.bS 1 1024,(Ic c.bT c.size == 0),kk,Qu c.step 1 65536,Qu c.cN 1 4096,Qu c.cS 1 1023,Qu c.cH 1 (Fb c)].any λy=>false == y)=!Xy c:=by
  intro kk j;unfold Xy;rw[j];have:(Ic c.bT c.size == 0)=A9 c.bT c.size:=by unfold Ic;cases A9 c.bT c.size <;> rfl
  rw[this];cases Fh c.size <;> cases Qu c.bS 1 1024 <;> cases A9 c.bT c.size <;> cases kk <;> cases Qu c.step 1 65536 <;> cases Qu c.cN 1 4096 <;> cases Qu c.cS 1 1023 <;> cases Qu c.cH 1 (Fb c) <;> rfl
 refine Xk.fork Xb rfl rfl rfl (λh=>?_) (λh=>?_)
 case' refine_1=>
  refine Xk.cJ Xb rfl d rfl rfl (Xk.call Xb rfl (λw' a=>(Xhm p.ka p.kc 178 c.bV [] Ng w' (i.bV.bR a) hc.lk (λx _=>Xjz x w')).bQ) rfl ?_)
 all_goals
  refine Xk.cJ Xb rfl d rfl rfl (Xk.call Xb rfl (λw' a=>(Mt c.step 1 65536 w').bQ) rfl (Xk.cJ Xb rfl d rfl rfl (Xk.call Xb rfl (λw' a=>(Mt c.cN 1 4096 w').bQ) rfl (Xk.cJ Xb rfl d rfl rfl (Xk.call Xb rfl (λw' a=>(Mt c.cS 1 1023 w').bQ) rfl (Xk.cJ Xb rfl d rfl rfl (Xk.loads Xb rfl d rfl rfl (Xk.call Xb rfl (λw' a=>Xjy c p w') rfl (Xk.call Xb rfl (λw' a=>(Mt c.cH 1 (Fb c) w').bQ) rfl (Xk.build Xb rfl rfl (Xk.nil λm F n C o=>aN Y (bF o Y λr s t D=>Xa.slice Xb rfl (l:=0) (h:=8) (by first|rfl|omega|simp[Dx]) (by first|rfl|omega|simp[Dr]) X X rfl ?_))))))))))));have u:C9 r (some ⟨m,0,none⟩) [Fh c.size,Qu c.bS 1 1024,(Ic c.bT c.size == 0),(decide (c.bV.length=c.bT.length) && !c.bV.any Ng),Qu c.step 1 65536,Qu c.cN 1 4096,Qu c.cS 1 1023,Qu c.cH 1 (Fb c)]:=by
   have v:(c.bV.length:Int)=c.bT.length↔c.bV.length=c.bT.length:=X
   refine C9.of s ?_;simp only[v,beq_iff_eq,beq_eq_false_iff_ne,ne_eq] at h;simp[h]
  have z:=(f.trans n).bU t (λk j A=>by have:=f.size;subst A;omega);refine bH (XnY (some ⟨m,0,none⟩) 8 _ false r u xS) Y (aT Y (λg=>?_) λg=>?_)
  .exact bE func114 Y ⟨X0 (by rw[fin _ rfl] at g;unfold Bw;rw[bJ (xU g)]),z⟩
  .exact bE func114 Y ⟨X0 (by rw[fin _ rfl] at g;unfold Bw;rw[bK (xU g)]),z⟩
variable {c:Conf}
def Bi(w:dD)(b:Nat)(total dA:Int):Prop:=w.heap[b]?=some (.cells #[.int .i64 total,.int .i64 dA] 240 (0,0))/\0<=dA/\dA<=total/\total<=4611686018427387904
def Xu(total n:Int):Int:=if n<1 then total else total+min n (4611686018427387904-total)
theorem Xed{total n:Int}(h:0<=total/\total<=4611686018427387904):total<=Xu total n/\Xu total n<=4611686018427387904:=by
 unfold Xu;split <;> omega
abbrev Jj(b:Option Nat):dE:=.pointer (b.map λb=>⟨b,0,none⟩)
theorem Xla(w:dD):Xe prog 116 #[] w (λv w'=>v=.pointer (some ⟨w.heap.size,0,none⟩)/\Bi w' w.heap.size 0 0/\Xc Xf w w'/\w'.heap.size=w.heap.size+1):=by
 refine aR func116 ntmps116 Y (aO Y (bC Y λb f e1 d a c=>?_));subst e1;exact bE func116 Y ⟨rfl,⟨d,X,X,X⟩,a,c⟩
theorem Xlb(b:Nat)(total dA:Int)(w:dD)(h:Bi w b total dA):Xe prog 239 #[xV b] w (X9 (W (4611686018427387904-total)) w):=by
 obtain⟨a,c,d,f⟩:=h;exact aR func239 ntmps239 Y (bB a Y (aV Y (bE func239 Y ⟨rfl,rfl⟩)))
theorem Bi.bR{total dA:Int}(h:Bi w b total dA)(hc:Xc Xf w w'):Bi w' b total dA:=⟨hc.bP h.1,h.2⟩
theorem XbF(b:Nat)(total dA n:Int)(w:dD)(h:Bi w b total dA):Xe prog 175 #[xV b,W n] w (λ_ w'=>Bi w' b (Xu total n) dA/\Xc (λx=>x=b) w w'):=by
 have g:=h;obtain⟨i,m,q,o⟩:=h;refine aR func175 ntmps175 Y (aT Y (λf=>?_) λf=>?_)
 .exact bE func175 Y ⟨by unfold Xu;rw[bK (bL f)];exact g,Xc.refl _ _⟩
 .have j:=bM f;refine aQ 9 Xf xK Y λa=>aE a i Y (aH a (λw' k=>Xlb b total dA w' ((show Bi w b total dA from g).bR k)) Y (aC a Y (aF a Y λr c=>bF (c.bP i) Y λs d l p=>?_)));have e:total+(if 4611686018427387904-total<n then 4611686018427387904-total else n)=Xu total n:=by unfold Xu;rw[bJ j];split <;> omega
  rw[e] at d;have:=Xed (n:=n) ⟨X,o⟩;exact bE func175 Y ⟨⟨d,m,X,X⟩,(Xc.refl _ w).trans ((c.mono (λ_ _ h=>h.elim)).trans l)⟩
theorem XbG(n:Int)(w:dD):Xe prog 175 #[.pointer none,W n] w (λ_ w'=>w=w'):=by
 exact aR func175 ntmps175 Y (bE func175 Y rfl)
structure RmM where
 shs:List Sm
 pl:PlM
 lg:List (Nat×List Nat)
 tot:Int
def Zs(M:RmM)(k:Int):Option Sm:=if 0<=k then M.shs[k.toNat]? else none
def Zd(p:PlM):Nat:=Xt p.own
def Ek(p q:PlM):Int:=3+(max (Zd q:Int) (Zd p)-min (Zd q:Int) (Zd p))*4
def Gs(M:RmM)(k:Nat)(x:Sm)(q:PlM):RmM:={M with shs:=M.shs.set k x,pl:=q}
def Ix(M:RmM)(k:Nat)(x:Sm)(q:PlM):RmM:={M with shs:=M.shs.set k x,pl:=q,tot:=Xu M.tot (Ek M.pl q)}
def Qc(l:List (Nat×List Nat)):List Nat:=l.flatMap λe=>e.1::e.2
def Ep(l:List (Nat×List Nat)):Nat:=(l.map λe=>e.2.length+1).sum
def Jl(l:List Sm):Nat:=(l.map λx=>x.pg.length).sum
structure RmM.Ok(c:Conf)(M:RmM):Prop where
 n:M.shs.length=c.bT.length
 cI:∀(k:Nat) (x:Sm),M.shs[k]?=some x->x.cL=(k:Int)/\(x.cF:Int)=A8 c (k:Int)
 own:(M.pl.own.length:Int)=c.bS
 lg:∀m∈Qc M.lg,m<M.pl.own.length/\M.pl.own.getD m 0=(M.shs.length:Int)
 nd:(Qc M.lg).Nodup
 sum:Zd M.pl=Jl M.shs+Ep M.lg
 tot:0<=M.tot/\M.tot<=4611686018427387904
def Gd(p q:PlM)(c:Int):Prop:=q=p\/(∃n r,p.free=n::r/\q=p.take c)\/∃n,n<p.own.length/\p.own.getD n 0=c/\q=p.give n
theorem Xaa{p:PlM}{r:List Nat}(h:p.free=n::r)(c:Int):(p.take c).own=p.own.set n c/\(p.take c).free=r:=by unfold PlM.take;rw[h];exact⟨rfl,rfl⟩
theorem Gd.own{p q:PlM}{c:Int}(h:Gd p q c)(hg:p.Good):q.own.length=p.own.length/\∀m d,d≠c->0<=d->p.own.getD m 0=d->m<p.own.length->q.own.getD m 0=d:=by
 rcases h with rfl|⟨n,r,hf,rfl⟩|⟨n,i,b,rfl⟩
 .exact⟨rfl,λm d _ _ h _=>h⟩
 .rw[(Xaa hf c).1];refine⟨XG,λm d a f hm g=>?_⟩;rw[E6];obtain⟨j,k⟩:=hg.free n (by rw[hf];simp);rw[bJ (λ⟨e,_⟩=>by subst e;omega)];exact hm
 .refine⟨XG,λm d a f hm g=>?_⟩;show(p.own.set n (-1)).getD m 0=d
  rw[E6,bJ (λ⟨e,_⟩=>by subst e;exact a (hm.symm.trans b))];exact hm
theorem Gd.of{p q:PlM}{c:Int}(h:Gd p q c)(hg:p.Good){y:Sm}(hy:y.Of p)(hc:y.cL≠c)(h0:0<=y.cL):y.Of q:=λe b=>by
 obtain⟨a,d⟩:=hy e b;obtain⟨f,g⟩:=h.own hg;exact⟨by rw[f];exact a,g _ _ hc h0 d a⟩
theorem Xhd:∀{l:List Sm} {k:Nat} {x x':Sm},l[k]?=some x->Jl (l.set k x')+x.pg.length=Jl l+x'.pg.length
 |a::r,0,x,x',h=>by
  cases h
  unfold Jl;simp only[List.set_cons_zero,ZL,QJ];omega
 |a::r,k+1,x,x',h=>by
  have:=Xhd (l:=r) (k:=k) (x:=x) (x':=x') h;unfold Jl at *;simp only[List.set_cons_succ,ZL,QJ];omega
theorem RmM.Ok.set{c:Conf}{M:RmM}(h:M.Ok c)(hg:M.pl.Good){k:Nat}{x x':Sm}{q:PlM}(hx:M.shs[k]?=some x)(hE:Gd M.pl q x.cL)(hc:x'.cL=x.cL)(hb:x'.cF=x.cF)(hs:Zd q+x.pg.length=Zd M.pl+x'.pg.length):(Gs M k x' q).Ok c:=by
 have b:=(XC.1 hx).1;obtain⟨e1,e2⟩:=h.cI k x hx;obtain⟨d,f⟩:=hE.own hg;refine⟨by show(M.shs.set k x').length=_;rw[XG];exact h.n,λj y a=>?_,by show(q.own.length:Int)=_;rw[d];exact h.own,λm hm=>?_,h.nd,?_,h.tot⟩
 .replace a:(M.shs.set k x')[j]?=some y:=a;by_cases e:k=j
  .subst e;rw[XH b] at a;cases a;exact⟨hc.trans e1,by rw[hb];exact e2⟩
  .rw[XK e] at a;exact h.cI j y a
 .obtain⟨g,i⟩:=h.lg m hm;refine⟨by show m<q.own.length;omega,?_⟩;show q.own.getD m 0=((M.shs.set k x').length:Int)
  rw[XG];exact f _ _ (by rw[e1];omega) X i g
 .have:=Xhd (x':=x') hx;have:=h.sum;show Zd q=Jl (M.shs.set k x')+Ep M.lg
  omega
theorem Or{t n:Int}(h:0<=t/\t<=4611686018427387904):0<=Xu t n/\Xu t n<=4611686018427387904:=xH (Xed (n:=n) h)
theorem W9(x:Sm)(pl:PlM)(who:Int)(hg:pl.Good)(hcl:0<=x.cL):Gd pl (B2 x pl who) x.cL/\(Ad x pl who).cL=x.cL/\(Ad x pl who).cF=x.cF/\Zd (B2 x pl who)+x.pg.length=Zd pl+(Ad x pl who).pg.length:=by
 rcases L5 x pl who with⟨_,a,b⟩|⟨_,_,⟨n,r,_,a,b,_⟩|⟨n,r,_,hf,a,b,_⟩⟩
 .rw[a,b];exact⟨.inl rfl,rfl,rfl,rfl⟩
 .rw[a,b];exact⟨.inl rfl,rfl,rfl,by show _=_+(Zx _ _ _).length;rw[W4]⟩
 .rw[a,b];refine⟨.inr (.inl ⟨n,r,hf,rfl⟩),rfl,rfl,?_⟩;show _=_+(Zx (x.pg++_) _ _).length
  rw[W4,ZE];obtain⟨c,d⟩:=hg.free n (by rw[hf];simp);have:=Hd (v:=x.cL) c;rw[bK d,bJ X] at this;unfold Zd;rw[(Xaa hf _).1];simp only[XN,List.length_nil];omega
theorem Uo(x:Sm)(pl:PlM)(n i:Int)(hok:x.Ok)(hof:x.Of pl):Gd pl (Bo x pl n i) x.cL/\(Ag x n i).cL=x.cL/\(Ag x n i).cF=x.cF/\Zd (Bo x pl n i)+x.pg.length=Zd pl+(Ag x n i).pg.length:=by
 unfold Ag Bo;split
 .rename_i p f
  obtain⟨k,g,hm⟩:=Iy f;rw[g];by_cases c:Q6 p i=0
  .simp only[c,if_true,true_and,XA];unfold Sm.giveAt;simp only
   by_cases a:Xt (Yr p i)=0
   .rw[bK a,bK a];obtain⟨b,d⟩:=hof _ hm;simp only at b d
    have h:=hok.cL;have:=Hd (v:=-1) b;rw[bJ X,bK rfl] at this;have j:=(W5 hok.nodup hm).2;refine⟨.inr (.inr ⟨k,b,d,rfl⟩),rfl,rfl,?_⟩;show Xt (pl.own.set k (-1))+_=Xt pl.own+(Qz x.pg k).length
    omega
   .rw[bJ a,bJ a];exact⟨.inl rfl,rfl,rfl,by show _=_+(Zx _ _ _).length;rw[W4]⟩
  .simp only[c,if_false,false_and];refine⟨.inl rfl,?_,?_,?_⟩ <;> first|trivial|rfl
 .exact⟨.inl rfl,rfl,rfl,rfl⟩
theorem XbR(x:Sm)(pl:PlM)(n i who:Int):Gd pl pl x.cL/\(Bc x n i who).cL=x.cL/\(Bc x n i who).cF=x.cF/\Zd pl+x.pg.length=Zd pl+(Bc x n i who).pg.length:=by
 unfold Bc;split
 .exact⟨.inl rfl,rfl,rfl,by show _=_+(Zx _ _ _).length;rw[W4]⟩
 .exact⟨.inl rfl,rfl,rfl,rfl⟩
variable {M:RmM}
def Zl(n q:Int):Int:=if Zj n q=0\/Zj n q=9223372036854775807 then 0 else Zj n q+1
def Xl(zs:List Int)(n:Int):Int:=if n<1 then -1 else idx (λs=>decide (n<=s)) zs
theorem XfA{n q:Int}(hn:n<=9223372036854775807):0<=Zj n q/\Zj n q<=9223372036854775807:=by
 unfold Zj;split
 .omega
 .have a:0<=(n-1)/q:=ZY X X;have b:(n-1)/q<=n-1:=QL _ X;omega
theorem Xa1(n q:Int)(w:dD)(hn:n<=9223372036854775807):Xe prog 170 #[W n,W q] w (X9 (W (Zj n q)) w):=by
 exact aR func170 ntmps170 Y (bH (XoP n q w hn) Y (bE func170 Y ⟨rfl,rfl⟩))
theorem Xec(n q:Int)(w:dD)(hn:n<=9223372036854775807):Xe prog 192 #[W n,W q] w (X9 (W (Zl n q)) w):=by
 have f:=XfA (q:=q) hn;refine aR func192 ntmps192 Y (bH (Xa1 n q w hn) Y (aT Y (λa=>?_) λa=>?_))
 .have e:Zl n q=0:=by unfold Zl;rw[bK (.inl (bL a))]
  exact bE func192 Y ⟨X0 e.symm,rfl⟩
 .have c:=bM a;refine aT Y (λb=>?_) λb=>?_
  .have e:Zl n q=0:=by unfold Zl;rw[bK (.inr (bL b))]
   exact bE func192 Y ⟨X0 e.symm,rfl⟩
  .have d:=bM b;have e:Zl n q=Zj n q+1:=by unfold Zl;rw[bJ X]
   exact aV Y (bE func192 Y ⟨X0 e.symm,rfl⟩)
abbrev Xkw(w:dD)(b:Nat)(n:Int):Prop:=w.heap[b]?=some (.cells ([.int .i64 n]:List dE).toArray 3 (0,0))
theorem Xjt(x n:Int)(b:Nat)(w:dD)(h:Xkw w b n):Xe prog 191 #[W x,xV b] w (X9 (.bool (decide (n<=x))) w):=by
 exact aR func191 ntmps191 Y (bB h Y (bE func191 Y ⟨rfl,rfl⟩))
theorem Ov(a:Option dF)(cap:Nat)(zs:List Int)(n:Int)(w:dD)(hr:Rd .i64 w a zs)(hl:zs.length<=9223372036854775807):Xe prog 121 #[.slice a zs.length cap,W n] w (Grow (W (Xl zs n)) w):=by
 refine aR func121 ntmps121 Y (bC Y λb d e1 f c g=>bB f Y (aT Y (λh=>?_) λh=>?_))
 .have e:Xl zs n=-1:=by unfold Xl;rw[bK (bL h)]
  exact bE func121 Y ⟨X0 e.symm,c⟩
 .have e:Xl zs n=idx (λs=>decide (n<=s)) zs:=by unfold Xl;rw[bJ (bM h)]
  exact bH (Xhn a cap 191 zs [xV b] (λs=>decide (n<=s)) d (hr.bR c) hl (λx _=>Xjt x n b d f)) Y (bE func121 Y ⟨X0 e.symm,c⟩)
def Gt(M:RmM)(k who:Int):Int:=match Zs M k with|none=>1|some x=>Qr x M.pl who
def Ey(M:RmM)(k who:Int):Int:=match Zs M k with|none=>0|some x=>B1 x M.pl who
def Ex(M:RmM)(k who:Int):Int:=match Zs M k with|none=>0|some x=>B0 x M.pl who
def Qe(M:RmM)(k who:Int):RmM:=match Zs M k with|none=>M|some x=>if Qr x M.pl who=0 then Ix M k.toNat (Ad x M.pl who) (B2 x M.pl who) else M
def J9(M:RmM)(k n i:Int):Int:=match Zs M k with|none=>1|some x=>Ca x n i
def Qw(M:RmM)(k n i:Int):RmM:=match Zs M k with|none=>M|some x=>if Ca x n i=0 then Ix M k.toNat (Ag x n i) (Bo x M.pl n i) else M
def P0(M:RmM)(k n i who:Int):Int:=match Zs M k with|none=>1|some x=>H4 x n i who
def Qq(M:RmM)(k n i who:Int):RmM:=match Zs M k with|none=>M|some x=>Gs M k.toNat (Bc x n i who) M.pl
def Zi(M:RmM)(k n i:Int):Int:=match Zs M k with|none=>-1|some x=>Q0 x n i
def Qm(M:RmM)(k:Int):Nat:=match Zs M k with|none=>0|some x=>x.cG.length
def Iw(M:RmM)(k:Int):Bool:=match Zs M k with|none=>false|some x=>Nx x
def Nt(M:RmM)(k:Int):List dE:=match Zs M k with|none=>K1 0 0 0 0|some x=>H5 x
def Df(c:Conf)(M:RmM)(size:Int):Int:=if Xl c.bT size=-1 then Zl size c.size else 1-min (Qm M (Xl c.bT size):Int) 1
def Ql(c:Conf)(M:RmM)(size:Int):Int:=if size<1\/c.cH<size then 3 else if (M.pl.free.length:Int)<Df c M size then 5 else 0
structure PlcM where
 cL:Int
 cR:Int
 idx:Int
 bS:List Int
def X3(l:List Nat):List Int:=l.map λ(n:Nat)=>(n:Int)
def A1(p:PlM)(who:Int):Nat->PlM
 |0=>p
 |i+1=>Iq (A1 p who i) who
def A0(p:PlM)(l:List Nat):PlM:=l.foldl (λq (n:Nat)=>H1 q (n:Int)) p
def Ew(M:RmM)(many:Nat):RmM:={M with pl:=A1 M.pl M.shs.length many,lg:=M.lg++[(M.pl.free.getD 0 0,(M.pl.free.take many).tail)],tot:=Xu M.tot (many*4+(many-1))}
def C5(c:Conf)(M:RmM)(who size:Int):Int:=if who<0 then 1 else if Ql c M size≠0 then Ql c M size else if Xl c.bT size=-1 then 0 else Gt M (Xl c.bT size) who
def Bz(c:Conf)(M:RmM)(who size:Int):PlcM:=if who<0 then ⟨0,0,0,[]⟩ else if Ql c M size≠0 then ⟨0,0,0,[]⟩ else if Xl c.bT size=-1 then ⟨-1,(M.pl.free.getD 0 0:Nat),0,X3 (M.pl.free.take (Zl size c.size).toNat).tail⟩ else ⟨Xl c.bT size,Ey M (Xl c.bT size) who,Ex M (Xl c.bT size) who,[]⟩
def Ai(c:Conf)(M:RmM)(who size:Int):RmM:=if who<0 then M else if Ql c M size≠0 then M else if Xl c.bT size=-1 then Ew M (Zl size c.size).toNat else Qe M (Xl c.bT size) who
def Dd:List (Nat×List Nat)->Int->Option (List Nat)
 |[],_=>none
 |(m,r)::t,n=>if (m:Int)=n then some r else Dd t n
def Dw(l:List (Nat×List Nat))(n:Nat):List (Nat×List Nat):=l.filter λe=>e.1 != n
def Iv(M:RmM)(n:Nat)(r:List Nat):RmM:={M with pl:=A0 M.pl (n::r),lg:=Dw M.lg n,tot:=Xu M.tot ((r.length+1:Int)*4+r.length)}
def H3(M:RmM)(q:PlcM):Int:=if q.cL≠-1 then J9 M q.cL q.cR q.idx else match Dd M.lg q.cR with|none=>1|some r=>if X3 r=q.bS then 0 else 1
def Yo(M:RmM)(q:PlcM):RmM:=if q.cL≠-1 then Qw M q.cL q.cR q.idx else match Dd M.lg q.cR with|none=>M|some r=>if X3 r=q.bS then Iv M q.cR.toNat r else M
theorem Xb3{p:PlM}(hw:0<=who){r:List Nat}(hf:p.free=n::r):Fe p who=0/\Jf p who=n/\Iq p who=p.take who:=by
 have e:Fe p who=0:=by unfold Fe;rw[bJ X,hf];rfl
 refine⟨e,?_,?_⟩
 .unfold Jf;rw[bK e,hf];rfl
 .unfold Iq;rw[bK e]
theorem Nq{p:PlM}{who:Int}(hw:0<=who)(hg:p.Good):∀i,i<=p.free.length->(A1 p who i).Good/\(A1 p who i).free=p.free.drop i/\(A1 p who i).own.length=p.own.length/\Zd (A1 p who i)=Zd p+i/\∀m,m<p.own.length->(A1 p who i).own.getD m 0=if m∈p.free.take i then who else p.own.getD m 0
 |0,_=>⟨hg,by simp[A1],rfl,rfl,λm _=>by simp[A1]⟩
 |i+1,hi=>by
  obtain⟨c,f,g,o,j⟩:=Nq hw hg i X;have a:i<p.free.length:=X
  have hf:(A1 p who i).free=p.free[i]::p.free.drop (i+1):=by rw[f];exact ZT a
  obtain⟨_,_,e⟩:=Xb3 hw hf;have e1:A1 p who (i+1)=(A1 p who i).take who:=e;obtain⟨b,k⟩:=Xaa hf who;obtain⟨d,l⟩:=c.free p.free[i] (by rw[hf];exact ZO);have n:=Hd (v:=who) d;rw[bK l,bJ X] at n;refine⟨e1▸c.take hw hf,by rw[e1];exact k,by rw[e1,b,XG];exact g,?_,λm hm=>?_⟩
  .unfold Zd at *;rw[e1,b];omega
  .rw[e1,b,E6,j m hm];have ht:p.free.take (i+1)=p.free.take i++[p.free[i]]:=by rw[ZI,XD a];rfl
   rw[ht];by_cases e2:p.free[i]=m
   .subst e2;rw[bK ⟨rfl,d⟩,bK (XS.2 (.inr (QD.2 rfl)))]
   .rw[bJ (λh=>e2 h.1)];by_cases e3:m∈p.free.take i
    .rw[bK e3,bK (XS.2 (.inl e3))]
    .rw[bJ e3,bJ (by simp only[XS,QD];rintro(h|h);exact e3 h;exact e2 h.symm)]
theorem Xf9{p:PlM}(hw:0<=who)(hg:p.Good)(hi:i<=p.free.length)(hc:0<=x.cL)(hx:x.Of p):x.Of (A1 p who i):=λe a=>by
 obtain⟨b,c⟩:=hx e a;obtain⟨_,_,f,_,d⟩:=Nq hw hg i hi;refine⟨X,?_⟩;rw[d _ b,bJ (λhm=>xH (hg.free _ (ZB hm)).2)];exact c
theorem Xf7{p:PlM}(hn:n<p.own.length)(ho:p.own.getD n 0≠-1):Fw p n=0/\H1 p n=p.give n:=by
 have a:Yf p.own n=p.own.getD n 0:=by
  unfold Yf;rw[bK X];simp only[XA];rw[XB,XB,XD hn];rfl
 have e:Fw p n=0:=by unfold Fw;rw[bJ X,a,bJ ho]
 exact⟨e,by unfold H1;rw[bK e];rfl⟩
theorem Pq:∀{l:List Nat} {p:PlM},p.Good->l.Nodup->(∀m∈l,m<p.own.length/\p.own.getD m 0≠-1)->(A0 p l).Good/\(A0 p l).own.length=p.own.length/\Zd (A0 p l)+l.length=Zd p/\∀m,(A0 p l).own.getD m 0=if m∈l then -1 else p.own.getD m 0
 |[],p,f,_,_=>⟨f,rfl,rfl,λm=>by simp[A0]⟩
 |n::r,p,f,j,h=>by
  obtain⟨i,k⟩:=XV.1 j;obtain⟨c,g⟩:=h n xS;obtain⟨_,e⟩:=Xf7 c g;have e1:A0 p (n::r)=A0 (p.give n) r:=by unfold A0;rw[List.foldl_cons,e]
  have o:=Hd (v:=-1) c;rw[bJ g,bK rfl] at o;have d:(p.give n).own=p.own.set n (-1):=rfl;obtain⟨q,s,t,u⟩:=Pq (p:=p.give n) (l:=r) (f.give c g) k (λm hm=>by
   obtain⟨a,b⟩:=h m (by simp[hm]);rw[d,XG,E6,bJ (λ⟨e,_⟩=>i (e▸hm))];exact⟨a,b⟩)
  rw[e1];refine⟨q,by rw[s,d,XG],by unfold Zd at *;rw[d] at t;simp only[XN];omega,λm=>?_⟩;rw[u,d,E6];by_cases e2:n=m
  .subst e2;rw[bJ i,bK ⟨rfl,c⟩,bK xS]
  .by_cases e3:m∈r
   .rw[bK e3,bK (YA _ e3)]
   .rw[bJ e3,bJ (λh=>e2 h.1),bJ (λh=>(ZC.1 h).elim (λh=>e2 h.symm) e3)]
theorem Xf8{p:PlM}(hg:p.Good){l:List Nat}(hn:l.Nodup)(hl:∀m∈l,m<p.own.length/\p.own.getD m 0≠-1)(hx:x.Of p)(hd:∀m∈l,p.own.getD m 0≠x.cL):x.Of (A0 p l):=λe b=>by
 obtain⟨d,a⟩:=hx e b;obtain⟨_,f,_,c⟩:=Pq hg hn hl;refine⟨X,?_⟩;rw[c,bJ (λhm=>hd _ hm a)];exact a
theorem Xbw(l l':List (Nat×List Nat)):Ep (l++l')=Ep l+Ep l':=by unfold Ep;rw[XM,List.sum_append]
theorem Kt(l l':List (Nat×List Nat)):Qc (l++l')=Qc l++Qc l':=by unfold Qc;rw[List.flatMap_append]
theorem RmM.Ok.big(h:M.Ok c)(hg:M.pl.Good){many:Nat}(h1:1<=many)(hm:many<=M.pl.free.length):(Ew M many).Ok c:=by
 obtain⟨q,s,k,l,n⟩:=Nq (who:=((M.shs.length:Nat):Int)) X hg many hm;have i:M.pl.free.getD 0 0::(M.pl.free.take many).tail=M.pl.free.take many:=by
  cases hf:M.pl.free with
  |nil=>rw[hf] at hm;simp at hm;omega
  |cons a r=>
   obtain⟨m,rfl⟩:∃m,many=m+1:=⟨many-1,X⟩;rfl
 have eA:Qc (Ew M many).lg=Qc M.lg++M.pl.free.take many:=by
  show Qc (M.lg++_)=_
  rw[Kt];unfold Qc;rw[ZV,List.flatMap_nil,QR,i]
 have d:∀m∈M.pl.free.take many,m∈M.pl.free:=λm hm=>ZB hm;refine⟨h.n,h.cI,by show((A1 _ _ _).own.length:Int)=_;rw[k];exact h.own,λm f=>?_,?_,?_,Or h.tot⟩
 .rw[eA] at f;have j:m<M.pl.own.length:=by
   rcases XS.1 f with g|g
   .exact(h.lg m g).1
   .exact(hg.free m (d m g)).1
  refine⟨by show m<(A1 _ _ _).own.length;omega,?_⟩;show(A1 _ _ _).own.getD m 0=((M.shs.length:Nat):Int)
  rw[n m j];rcases XS.1 f with g|g
  .by_cases e:m∈M.pl.free.take many
   .rw[bK e]
   .rw[bJ e];exact(h.lg m g).2
  .rw[bK g]
 .rw[eA];refine XR.2 ⟨h.nd,hg.nodup.sublist (List.take_sublist _ _),λa o b p e=>?_⟩;subst e;have:=(h.lg a o).2;have:=(hg.free a (d a p)).2;omega
 .show Zd (A1 _ _ _)=Jl M.shs+Ep (M.lg++_)
  rw[l,Xbw,h.sum];have:((M.pl.free.take many).tail.length+1)=many:=by rw[QM,XX];omega
  unfold Ep;simp only[ZL,List.map_nil,QJ,List.sum_nil];omega
theorem Pc:∀{l:List (Nat×List Nat)} {n:Int} {r:List Nat},Dd l n=some r -> ∃m:Nat,n=m/\(m,r)∈l
 |(m,q)::t,n,r,h=>by
  unfold Dd at h;by_cases e:(m:Int)=n
  .rw[bK e] at h;cases h;exact⟨m,e.symm,xS⟩
  .rw[bJ e] at h;obtain⟨m',e',hm⟩:=Pc h;exact⟨m',e',by simp[hm]⟩
theorem Uz:∀{l:List (Nat×List Nat)} {n:Int},Dd l n=none -> ∀e∈l,(e.1:Int)≠n
 |[],_,_,_,he=>by cases he
 |(m,q)::r,n,h,e,he=>by
  unfold Dd at h;by_cases hm:(m:Int)=n
  .rw[bK hm] at h;cases h
  .rw[bJ hm] at h;rcases ZC.1 he with rfl|he
   .exact hm
   .exact Uz h e he
theorem Jb{l:List (Nat×List Nat)}{e:Nat×List Nat}(h:e∈l)(hm:m∈e.1::e.2):m∈Qc l:=List.mem_flatMap.2 ⟨e,h,hm⟩
theorem Xfl:∀{l:List (Nat×List Nat)} {n:Nat},n∉Qc l->Dw l n=l:=λ{l n} h=>by
 unfold Dw;refine YR.2 λe a=>?_;simp only[bne_iff_ne,ne_eq];exact λe'=>h (Jb a (by rw[e'];simp))
theorem Pb:∀{l:List (Nat×List Nat)} {n:Nat} {r:List Nat},(Qc l).Nodup->(n,r)∈l -> ∃a b,l=a++(n,r)::b/\Dw l n=a++b:=λ{l n r} c hm=>by
 obtain⟨a,b,rfl⟩:=List.append_of_mem hm;refine⟨a,b,rfl,?_⟩;have e:Qc (a++(n,r)::b)=Qc a++((n::r)++Qc b):=by rw[Kt];rfl
 rw[e] at c;obtain⟨k,d,f⟩:=XR.1 c;obtain⟨m,o,g⟩:=XR.1 d;have i:n∉Qc a:=λh=>f n h n xS rfl;have j:n∉Qc b:=λh=>g n xS n h rfl;have:Dw (a++(n,r)::b) n=Dw a n++Dw b n:=by unfold Dw;rw[QP,ZJ];simp
 rw[this,Xfl i,Xfl j]
theorem RmM.Ok.cE(h:M.Ok c)(hg:M.pl.Good){r:List Nat}(hm:(n,r)∈M.lg):(Iv M n r).Ok c/\(A0 M.pl (n::r)).Good:=by
 obtain⟨a,b,e1,e2⟩:=Pb h.nd hm;have eA:Qc M.lg=Qc a++((n::r)++Qc b):=by rw[e1,Kt];rfl
 have i:=h.nd;rw[eA] at i;obtain⟨q,s,j⟩:=XR.1 i;obtain⟨t,u,v⟩:=XR.1 s;obtain⟨w,z,A,B⟩:=Pq (l:=n::r) hg t (λm d=>by
  obtain⟨k,o⟩:=h.lg m (Jb hm d);exact⟨k,X⟩)
 have eB:Qc (Dw M.lg n)=Qc a++Qc b:=by rw[e2,Kt]
 refine⟨⟨h.n,h.cI,by show((A0 _ _).own.length:Int)=_;rw[z];exact h.own,λm d=>?_,?_,?_,Or h.tot⟩,w⟩
 .replace d:m∈Qc (Dw M.lg n):=d;rw[eB] at d;have f:m∈Qc M.lg:=by
   rw[eA];rcases XS.1 d with g|g <;> simp[g]
  obtain⟨k,o⟩:=h.lg m f;refine⟨by show m<(A0 _ _).own.length;omega,?_⟩;show(A0 _ _).own.getD m 0=((M.shs.length:Nat):Int)
  rw[B,bJ]
  .exact o
  .intro p;rcases XS.1 d with g|g
   .exact j m g m (XS.2 (.inl p)) rfl
   .exact v m p m g rfl
 .show(Qc (Dw M.lg n)).Nodup
  rw[eB];exact XR.2 ⟨q,u,λx C y D=>j x C y (XS.2 (.inr D))⟩
 .show Zd (A0 _ _)=Jl M.shs+Ep (Dw M.lg n)
  have E:=h.sum;rw[e1,Xbw] at E;rw[e2,Xbw];have:Ep ((n,r)::b)=(r.length+1)+Ep b:=by unfold Ep;rw[ZL,QJ]
  simp only[XN] at A;omega
variable {pd pd2:Option (Nat×PlcM)}
structure Rm where
 rb:Nat
 c:Conf
 p:Yz
 mo:Option Nat
 P:Pl
 sb:Nat
 sc:Nat
 lm:Nat
 S:Nat->Sh
 dA:Int
 xX:Nat->Prop
abbrev Ck(R:Rm):dE:=.pointer (some ⟨R.rb,0,none⟩)
def rmL(R:Rm)(n:Nat):List dE:=X5 R.c R.p++[Jj R.mo,Ff R.P,.slice (some ⟨R.sb,0,none⟩) n R.sc,.map (some R.lm)]
def A5(F:Nat->Prop)(w:dD)(a:Option dF)(l:List Int):Prop:=Rd .i64 w a l/\(0<l.length->Xj F a)
theorem A5.bR{F:Nat->Prop}{w w':dD}(h:A5 F w a l)(hc:Xc S w w')(hS:∀z,S z->F z):A5 F w' a l:=by
 refine⟨?_,h.2⟩;by_cases b:0<l.length
 .exact h.1.bW ((h.2 b).mono hS) hc
 .have:l=[]:=YH X;subst this;exact Rd.nil _ _ _
theorem Rd.block{k:IntKind}{w:dD}(h:Rd k w a l)(hl:0<l.length){off:Nat}{s}(e:a=some ⟨b,off,s⟩):b<w.heap.size:=by
 obtain⟨b',off',e',c⟩:=h 0 hl;rw[e] at e';cases e';exact World.block_lt_of_cell? w _ c
theorem A5.bQ{F:Nat->Prop}{w:dD}(h:A5 F w a l)(hF:∀z,F' z->F z\/w.heap.size<=z):A5 F' w a l:=
 ⟨h.1,λc b off s e hz=>by
  rcases hF b hz with hz|hz
  .exact h.2 c b off s e hz
  .have:=h.1.block c e;omega⟩
theorem G6{w w':dD}{x:Option Nat}(hc:Xc S w w')(h:kd w b=some x)(hS:¬S b):kd w' b=some x:=by
 unfold kd at *;rw[hc.block b (Eo h) hS];exact h
def Mh(F:Nat->Prop)(w:dD)(a:Option dF):Prop:=∀b off s,a=some ⟨b,off,s⟩->kd w b=some (some 3)/\¬F b
theorem Mh.bR{F:Nat->Prop}{w w':dD}(h:Mh F w a)(hc:Xc S w w')(hS:∀b,kd w b=some (some 3)->S b->F b):Mh F w' a:=λb off s e=>
 ⟨G6 hc (h b off s e).1 (λc=>(h b off s e).2 (hS b (h b off s e).1 c)),(h b off s e).2⟩
def Ef(F:Nat->Prop)(w:dD)(lm:Nat)(lg:List (Nat×List Nat)):Prop:=∃m,Y7 w lm m/\(Bl m).Nodup/\(∀e∈lg,∃a cap,Br m e.1=some (.slice a e.2.length cap)/\Rd .i64 w a (X3 e.2)/\Mh F w a)/\∀k:Int,(∀e∈lg,(e.1:Int)≠k)->Br m k=none
theorem Ef.bR{F S:Nat->Prop}{w w':dD}{lm:Nat}{lg:List (Nat×List Nat)}(h:Ef F w lm lg)(hc:Xc S w w')(hS:∀b,kd w b=some (some 3)->S b->F b)(hl:¬S lm):Ef F w' lm lg:=by
 obtain⟨m,d,f,g,i⟩:=h;exact⟨m,d.bR hc hl,f,λe j=>by obtain⟨a,cap,k,l,c⟩:=g e j;exact⟨a,cap,k,l.bW (λb off s e n=>(c b off s e).2 (hS b (c b off s e).1 n)) hc,c.bR hc hS⟩,i⟩
theorem Ef.bQ{F:Nat->Prop}{w:dD}(h:Ef F w lm lg)(hF:∀z,F' z->F z\/w.heap.size<=z):Ef F' w lm lg:=by
 obtain⟨m,d,f,g,i⟩:=h;exact⟨m,d,f,λe j=>by
  obtain⟨a,cap,k,l,c⟩:=g e j;exact⟨a,cap,k,l,λb off s e=>⟨(c b off s e).1,λn=>(hF b n).elim (c b off s e).2 (λh=>xH (Eo (c b off s e).1))⟩⟩,i⟩
def Tv(F:Nat->Prop)(w:dD)(R:Rm)(shs:List Sm)(pl:PlM):Prop:=∃G:Nat->Nat->Pg,
 (∀k x,shs[k]?=some x->(R.S k).P=R.P/\Qx w (R.S k) (G k) x pl/\∀z,Qn (R.S k) (G k) x.pg z->F z/\z≠R.lm)/\
 ∀j k x y,j≠k->shs[j]?=some x->shs[k]?=some y -> ∀z,Qn (R.S j) (G j) x.pg z -> ¬Qn (R.S k) (G k) y.pg z
def Rm.FX(R:Rm)(F:Nat->Prop):Nat->Prop:=λz=>F z\/R.xX z
structure Zu(F:Nat->Prop)(w:dD)(R:Rm)(M:RmM):Prop where
 ok:M.Ok R.c
 obj:w.heap[R.rb]?=some (.cells (rmL R M.shs.length).toArray 221 (0,0))
 cL:A5 F w R.p.ca R.c.bT
 kee:A5 F w R.p.ka R.c.bV
 may:Xy R.c=true
 met:∀b,R.mo=some b->F b/\Bi w b M.tot R.dA
 sl:∀k,k<M.shs.length->w.cell? ⟨R.sb,k,none⟩=some (Cl (R.S k))
 pool:Z6 w R.P M.pl
 pf:∀z,Az R.P z->F z
 sh:Tv F w R M.shs M.pl
 lg:Ef (R.FX F) w R.lm M.lg
 lf:F R.lm
 rf:¬F R.rb
 sf:¬F R.sb
 low:∀z,F z->z<w.heap.size
 tab:Bk w
 tf:¬F 1
 xl:∀z,R.xX z->z<w.heap.size/\¬F z
def H9(F:Nat->Prop)(w w':dD)(R:Rm)(M:RmM):Prop:=∃F',Zu F' w' R M/\(∀z,F' z->F z\/w.heap.size<=z)/\Xc F w w'
theorem H9.of{F:Nat->Prop}{w w':dD}{R:Rm}{M:RmM}(h:Zu F w' R M)(hc:Xc F w w'):H9 F w w' R M:=⟨F,h,λ_ h=>.inl h,hc⟩
theorem H9.trans{F:Nat->Prop}{w:dD}{R:Rm}{M:RmM}{F1:Nat->Prop}(hF:∀z,F1 z->F z\/w.heap.size<=z)(hc:Xc F w w1)(h:H9 F1 w1 w2 R M):H9 F w w2 R M:=by
 obtain⟨f,a,b,c⟩:=h;refine⟨f,a,λz d=>?_,hc.bU c λz d g=>?_⟩
 .rcases b z d with h|h
  .exact hF z h
  .have:=hc.size;exact .inr X
 .rcases hF z g with h|h
  .exact h
  .omega
section
variable {F:Nat->Prop}{w w':dD}{R:Rm}{M:RmM}
theorem Tv.bQ{shs:List Sm}{pl:PlM}(h:Tv F w R shs pl)(hc:Xc Xf w w'):Tv F w' R shs pl:=by
 obtain⟨G,a,b⟩:=h;exact⟨G,λk x c=>by obtain⟨d,f,g⟩:=a k x c;exact⟨d,f.bQ hc,g⟩,b⟩
theorem Zu.bQ(h:Zu F w R M)(hc:Xc Xf w w'):Zu F w' R M:=
 ⟨h.ok,hc.bP h.obj,h.cL.bR hc (λ_ h=>h.elim),h.kee.bR hc (λ_ h=>h.elim),h.may,λb c=>by obtain⟨d,f⟩:=h.met b c;exact⟨d,f.bR hc⟩,
  λk g=>hc.cell (h.sl k g) id,h.pool.bQ hc,h.pf,h.sh.bQ hc,h.lg.bR hc (λ_ _ h=>h.elim) id,h.lf,h.rf,h.sf,λz a=>xI (h.low z a) hc.size,h.tab.bQ hc,h.tf,λz a=>⟨xI (h.xl z a).1 hc.size,(h.xl z a).2⟩⟩
theorem Nf{t l:Int}(h:Bi w b t l):kd w b=some (some 240):=X2 h.1
theorem Il{F:Nat->Prop}(h:Ef F w lm lg):kd w lm=some none:=by
 obtain⟨m,hm,_⟩:=h;exact Sb hm
theorem Zu.cT(h:Zu F w R M)(hb:R.mo=some b){t:Int}(hm:Bi w' b t R.dA)(hc:Xc (λz=>z=b) w w'):Zu F w' R {M with tot:=t}:=by
 obtain⟨m,o⟩:=h.met b hb;have kb:=Nf o;have f:∀z,z=b->F z:=λz e=>e▸m;have kp:=h.pool.kds;have i:=Xr kp.1 kb xD;have j:=Xr kp.2 kb xD;have ht:1≠b:=λe=>h.tf (e▸m);refine⟨{h.ok with tot:=by have:=hm.2;show 0<=t/\t<=4611686018427387904;omega},hc.heap h.obj (λe=>h.rf (f _ e)),h.cL.bR hc f,h.kee.bR hc f,h.may,λb' l=>?_,λk p=>hc.cell (h.sl k p) (λe=>h.sf (f _ e)),h.pool.bR hc i j,h.pf,?_,h.lg.bR hc (λz _ h=>.inl (f z h)) (Xr (Il h.lg) kb xS),h.lf,h.rf,h.sf,λz g=>xI (h.low z g) hc.size,h.tab.bR hc ht,h.tf,λz g=>⟨xI (h.xl z g).1 hc.size,(h.xl z g).2⟩⟩
 .rw[hb] at l;cases l;exact⟨m,hm⟩
 .obtain⟨G,a,d⟩:=h.sh;refine⟨G,λk x q=>?_,d⟩;obtain⟨n,c,r⟩:=a k x q;have ap:=c.at'.apart kb xD;exact⟨n,⟨c.ok,c.pos,c.of,c.at'.bR hc (λz e=>e▸ap.1) (λz e=>e▸ap.2) ht,c.pool.bR hc (by rw[n];exact i) (by rw[n];exact j)⟩,r⟩
theorem Qx.beside{S S':Sh}{G':Nat->Pg}{pl:PlM}(h:Qx w S G x pl)(h':Qx w S' G' x' pl)(hd:∀z,Qn S' G' x'.pg z -> ¬Qn S G x.pg z)(hc:Xc (Bm S' G' x'.pg) w w')(hP:S.P=S'.P)(hp:Z6 w' S'.P pl')(hof:x.Of pl'):Qx w' S G x pl':=by
 have k':=h'.at'.kds;obtain⟨d,f⟩:=h'.pool.kds;have kx:∀{z:Nat},Bm S' G' x'.pg z->kd w z≠some (some 352)/\kd w z≠some (some 348):=λ{z} a=>by
  rcases a with(e|e|(e|e)|⟨e,b,e1|e1⟩)|e|e
  .subst e;rw[k'.sb];exact⟨xD,xD⟩
  .subst e;rw[k'.sm];exact⟨xS,xS⟩
  .subst e;rw[k'.ab];exact⟨xD,xD⟩
  .subst e;rw[k'.nb];exact⟨xD,xD⟩
  .subst e1;rw[(h'.at'.bS e b).kds.bb];exact⟨xD,xD⟩
  .subst e1;rw[(h'.at'.bS e b).kds.mb];exact⟨xS,xS⟩
  .subst e;rw[d];exact⟨xD,xD⟩
  .subst e;rw[f];exact⟨xD,xD⟩
 have out:∀z,Qn S G x.pg z -> ¬Bm S' G' x'.pg z:=λz a hz'=>by
  rcases hz' with hz'|hz'
  .exact hd z hz' a
  .have c:=hz';have n:=h.at'.notpool (hP▸h'.pool);rw[hP] at n;rcases c with e|e
   .subst e;exact n.1 a
   .subst e;exact n.2 a
 refine⟨h.ok,h.pos,hof,h.at'.bR hc (λz a=>⟨λe=>out z (.inl e) a,λe=>out z (.inr (.inl e)) a,λe=>(kx a).1 (e▸h.at'.kds.lb),λe=>out z (.inr (.inr (.inl e))) a⟩) (λz a e b=>⟨λe'=>(kx a).2 (e'▸(h.at'.bS e b).kds.p),λe'=>out z (.inr (.inr (.inr ⟨e,b,e'⟩))) a⟩) ?_,hP▸hp⟩;rintro(e|e)
 .rcases e with e|e|e|⟨e,b,e1⟩
  .exact L9 h'.at'.tab (λv e2=>by rw[Yx h'.at'.obj] at e2;simp[Nw] at e2) e
  .obtain⟨m,hm,_⟩:=h'.at'.map;exact XcW hm h'.at'.tab e
  .exact XhT h'.at'.ring h'.at'.tab e
  .exact XcX (h'.at'.bS e b) e1
 .exact XcY h'.at'.tab h'.pool e
theorem Zu.shelf(h:Zu F w R M)(hx:M.shs[k]?=some x):∃Gk,(R.S k).P=R.P/\Qx w (R.S k) Gk x M.pl/\(∀z,Bm (R.S k) Gk x.pg z->F z)/\∀w' G' x' pl',Qx w' (R.S k) G' x' pl'->Xc (Bm (R.S k) Gk x.pg) w w' ->
 (∀z,Qn (R.S k) G' x'.pg z->Qn (R.S k) Gk x.pg z\/w.heap.size<=z)->Gd M.pl pl' x.cL->x'.cL=x.cL->x'.cF=x.cF->Zd pl'+x.pg.length=Zd M.pl+x'.pg.length->H9 F w w' R (Gs M k x' pl'):=by
 obtain⟨G,a,d⟩:=h.sh;obtain⟨s,t,hf⟩:=a k x hx;have p:=(XC.1 hx).1;have f:∀z,Bm (R.S k) (G k) x.pg z->F z:=λz hz=>by
  rcases hz with hz|hz
  .exact(hf z hz).1
  .exact h.pf z (s▸hz)
 refine⟨G k,s,t,f,λw' G' x' pl' o m v B C D O=>?_⟩
 let F':Nat->Prop:=λz=>F z\/(w.heap.size<=z/\Qn (R.S k) G' x'.pg z)
 have q:∀z,F' z->F z\/w.heap.size<=z:=λz hz=>hz.imp id (·.1);have E:¬Bm (R.S k) (G k) x.pg R.lm:=by
  rintro(hz|hz)
  .exact(hf _ hz).2 rfl
  .have kl:=Il h.lg;have kp:=t.pool.kds;rcases hz with e|e
   .exact Xr kl kp.1 xS e
   .exact Xr kl kp.2 xS e
 have N:=h.low _ h.lf;have n:∀(b:Nat),b<w.heap.size -> ¬F b -> ¬F' b:=λb H P hz=>by
  rcases hz with hz|⟨hz,_⟩
  .exact P hz
  .omega
 refine⟨F',⟨h.ok.set h.pool.cV hx B C D O,?_,(h.cL.bQ q).bR m (λz hz=>.inl (f z hz)),(h.kee.bQ q).bR m (λz hz=>.inl (f z hz)),h.may,λb H=>?_,λj A=>?_,s▸o.pool,λz hz=>.inl (h.pf z hz),⟨λj=>if j=k then G' else G j,λj y c=>?_,λi j y y' r c l z hz=>?_⟩,(h.lg.bQ (F':=R.FX F') (λz hz=>hz.elim (λh=>(q z h).imp .inl id) (λh=>.inl (.inr h)))).bR m (λz _ hz=>.inl (.inl (f z hz))) E,.inl h.lf,n _ (Xg h.obj) h.rf,n _ (World.block_lt_of_cell? w _ (h.sl k p)) h.sf,λz hz=>?_,o.at'.tab,n _ (World.block_lt_of_cell? w _ (h.tab 0 xD)) h.tf,λz hz=>⟨xI (h.xl z hz).1 m.size,n z (h.xl z hz).1 (h.xl z hz).2⟩⟩,q,m.mono λz _ hz=>f z hz⟩
 .show w'.heap[R.rb]?=some (.cells (rmL R (M.shs.set k x').length).toArray _ _)
  rw[XG];exact m.heap h.obj (λhz=>h.rf (f _ hz))
 .obtain⟨I,hm⟩:=h.met b H;have kb:=Nf hm;have kp:=t.pool.kds;have ap:=t.at'.apart kb xD;refine⟨.inl I,m.heap hm.1 ?_,hm.2⟩;rintro((e|e|e|⟨e,Q,e1⟩)|e|e)
  .exact ap.1.1 e
  .exact ap.1.2.1 e
  .exact ap.1.2.2.2 e
  .exact(ap.2 e Q).2 e1
  .exact Xr kb kp.1 xD e
  .exact Xr kb kp.2 xD e
 .exact m.cell (h.sl j (by replace A:j<(M.shs.set k x').length:=A;rw[XG] at A;exact A)) (λhz=>h.sf (f _ hz))
 .replace c:(M.shs.set k x')[j]?=some y:=c;by_cases e:j=k
  .subst e;rw[XH p] at c;cases c;simp only[if_true];refine⟨s,o,λz hz=>?_⟩;rcases v z hz with g|g
   .exact⟨.inl (hf z g).1,(hf z g).2⟩
   .exact⟨.inr ⟨g,hz⟩,X⟩
  .rw[XK (Ne.symm e)] at c;simp only[bJ e];obtain⟨J,K,L⟩:=a j y c;obtain⟨S,_⟩:=h.ok.cI j y c;obtain⟨T,_⟩:=h.ok.cI k x hx;exact⟨J,K.beside t (λz o v=>d j k y x e c hx z v o) m (J.trans s.symm) o.pool (B.of h.pool.cV K.of X X),λz hz=>⟨.inl (L z hz).1,(L z hz).2⟩⟩
 .replace c:(M.shs.set k x')[i]?=some y:=c;replace l:(M.shs.set k x')[j]?=some y':=l;have old:∀{i:Nat} {y:Sm},i≠k->M.shs[i]?=some y -> ∀{z:Nat},Qn (R.S i) (G i) y.pg z -> ¬Qn (R.S k) G' x'.pg z:=λ{i y} hi c {z} hz u=>by
   rcases v z u with g|g
   .exact d i k y x hi c hx z hz g
   .have:=h.low z ((a i y c).2.2 z hz).1;omega
  by_cases e:i=k
  .subst e;rw[XH p] at c;cases c;rw[XK r] at l;simp only[if_true] at hz;simp only[bJ (Ne.symm r)];exact λu=>old (Ne.symm r) l u hz
  .rw[XK (Ne.symm e)] at c;simp only[bJ e] at hz;by_cases e':j=k
   .subst e';rw[XH p] at l;cases l;simp only[if_true];exact old e c hz
   .rw[XK (Ne.symm e')] at l;simp only[bJ e'];exact d i j y y' r c l z hz
 .rcases hz with hz|⟨_,hz⟩
  .have:=h.low z hz;have:=m.size;omega
  .exact o.foot_lt z (.inl hz)
theorem Qx.swap{S:Sh}{pl:PlM}(h:Qx w S G x pl)(hlm:kd w lm=some none)(hnl:¬Qn S G x.pg lm)(hc:Xc (λz=>Az S.P z\/z=lm) w w')(hp:Z6 w' S.P pl')(hof:x.Of pl')(ht:1≠lm):Qx w' S G x pl':=by
 obtain⟨f,g⟩:=h.pool.kds;have c:=h.at'.apart f xD;have d:=h.at'.apart g xD;refine⟨h.ok,h.pos,hof,h.at'.bR hc (λz b=>?_) (λz b e a=>?_) ?_,hp⟩
 .rcases b with(e|e)|e
  .exact e▸c.1
  .exact e▸d.1
  .subst e;exact⟨λe=>hnl (.inl e),λe=>hnl (.inr (.inl e)),Xr hlm h.at'.kds.lb xS,λe=>hnl (.inr (.inr (.inl e)))⟩
 .rcases b with(e1|e1)|e1
  .exact e1▸c.2 e a
  .exact e1▸d.2 e a
  .subst e1;exact⟨Xr hlm (h.at'.bS e a).kds.p xS,λe'=>hnl (.inr (.inr (.inr ⟨e,a,e'⟩)))⟩
 .rintro(e|e)
  .exact XcY h.at'.tab h.pool e
  .exact ht e
theorem Zu.swap(h:Zu F w R M){pl':PlM}{lg':List (Nat×List Nat)}(hok:RmM.Ok R.c {M with pl:=pl',lg:=lg'})(hc:Xc (λz=>Az R.P z\/z=R.lm) w w')(hp:Z6 w' R.P pl')(hl:Ef (R.FX F) w' R.lm lg')(hof:∀(k:Nat) (x:Sm),M.shs[k]?=some x->x.Of M.pl->x.Of pl'):Zu F w' R {M with pl:=pl',lg:=lg'}:=by
 have f:∀z,(Az R.P z\/z=R.lm)->F z:=λz c=>c.elim (h.pf z) (λe=>e▸h.lf);have kl:=Il h.lg;have kp:=h.pool.kds;refine⟨hok,hc.heap h.obj (λc=>h.rf (f _ c)),h.cL.bR hc f,h.kee.bR hc f,h.may,λb m=>?_,λk n=>hc.cell (h.sl k n) (λc=>h.sf (f _ c)),hp,h.pf,?_,hl,h.lf,h.rf,h.sf,λz c=>xI (h.low z c) hc.size,h.tab.bR hc (λc=>h.tf (f _ c)),h.tf,λz c=>⟨xI (h.xl z c).1 hc.size,(h.xl z c).2⟩⟩
 .obtain⟨g,hm⟩:=h.met b m;have kb:=Nf hm;refine⟨g,hc.heap hm.1 ?_,hm.2⟩;rintro((e|e)|e)
  .exact Xr kb kp.1 xD e
  .exact Xr kb kp.2 xD e
  .exact Xr kb kl xS e
 .obtain⟨G,a,d⟩:=h.sh;refine⟨G,λk x i=>?_,d⟩;obtain⟨g,j,l⟩:=a k x i;exact⟨g,j.swap kl (λc=>(l _ c).2 rfl) (by rw[g];exact hc) (by rw[g];exact hp) (hof k x i j.of) (λe=>h.tf (e▸h.lf)),l⟩
theorem Zu.note{F0:Nat->Prop}{M0:RmM}(h0:Zu F0 w0 R M0)(h:Zu F w R M){eb:Nat}(hk:kd w eb=some (some t))(hnew:w0.heap.size<=eb)(hF:¬F eb)(hc:Xc (λz=>z=eb) w w')(ht:t≠240/\t≠291/\t≠337/\t≠3/\t≠314/\t≠352/\t≠357/\t≠359/\t≠348/\t≠375):Zu F w' R M:=by
 have d:∀{t':Nat},t≠t'->some (some t)≠some (some t'):=λh e=>h (Option.some.inj (Option.some.inj e));have n:0<M0.shs.length:=by
  have hm:=h0.may;unfold Xy at hm;simp only[XI,decide_eq_true_eq] at hm;have:=Ug hm.1.1.1.1.1.2;have:=h0.ok.n;omega
 have o:R.rb≠eb:=xH (Xg h0.obj)
 have p:R.sb≠eb:=by have:=World.block_lt_of_cell? w0 _ (h0.sl 0 n);simp only at this;omega
 have m:1≠eb:=by have:=World.block_lt_of_cell? w0 _ (h0.tab 0 xD);simp only at this;omega
 have j:∀{a:Option dF} {l:List Int},A5 F0 w0 a l->A5 F w a l->A5 F w' a l:=λ{a l} y g=>by
  refine⟨?_,g.2⟩;by_cases A:0<l.length
  .exact g.1.bW (λb off s e q=>xH (y.1.block A e)) hc
  .have:l=[]:=YH X;subst this;exact Rd.nil _ _ _
 have kp:=h.pool.kds;have r:=Xr kp.1 hk (Ne.symm (d ht.2.1));have u:=Xr kp.2 hk (Ne.symm (d ht.2.2.1));refine⟨h.ok,hc.heap h.obj o,j h0.cL h.cL,j h0.kee h.kee,h.may,λb q=>?_,λk v=>hc.cell (h.sl k v) p,h.pool.bR hc r u,h.pf,?_,h.lg.bR hc (λz c e=>absurd (c.symm.trans (e▸hk)) (Ne.symm (d ht.2.2.2.1))) (Xr (Il h.lg) hk xS),h.lf,h.rf,h.sf,λz c=>xI (h.low z c) hc.size,h.tab.bR hc m,h.tf,λz c=>⟨xI (h.xl z c).1 hc.size,(h.xl z c).2⟩⟩
 .obtain⟨f,hm⟩:=h.met b q;exact⟨f,hc.heap hm.1 (λe=>hF (e▸f)),hm.2⟩
 .obtain⟨G,a,e⟩:=h.sh;refine⟨G,λk x B=>?_,e⟩;obtain⟨f,i,C⟩:=a k x B;have ap:=i.at'.apart hk ht.2.2.2.2;exact⟨f,⟨i.ok,i.pos,i.of,i.at'.bR hc (λz e=>e▸ap.1) (λz e=>e▸ap.2) m,i.pool.bR hc (by rw[f];exact r) (by rw[f];exact u)⟩,C⟩
theorem V8(h:Zu F w R M)(n:Int):Xe prog 175 #[Jj R.mo,W n] w (λ_ w'=>Zu F w' R {M with tot:=Xu M.tot n}/\Xc F w w'):=by
 cases hm:R.mo with
 |none=>
  refine(XbG n w).mono λ_ w' e=>?_;subst e;exact⟨{h with ok:={h.ok with tot:=(Or (n:=n) h.ok.tot)},met:=λb a=>by rw[hm] at a;cases a},Xc.refl _ _⟩
 |some b=>
  obtain⟨d,a⟩:=h.met b hm;exact(XbF b M.tot R.dA n w a).mono λ_ w' ⟨f,c⟩=>⟨h.cT hm f c,c.mono λz _ e=>e▸d⟩
end
variable {R:Rm}
def Gu(R:Rm)(M:RmM)(k:Int):dE:=match Zs M k with|none=>.pointer none|some _=>Cl (R.S k.toNat)
theorem Fz{k:Int}(h:Zs M k=some x):∃n:Nat,k=n/\n<M.shs.length/\M.shs[n]?=some x:=by
 unfold Zs at h;by_cases a:0<=k
 .rw[bK a] at h;exact⟨k.toNat,X,(XC.1 h).1,h⟩
 .rw[bJ a] at h;cases h
theorem Te{k:Int}(h:k<0\/(M.shs.length:Int)<=k):Zs M k=none:=by
 unfold Zs;by_cases a:0<=k
 .rw[bK a,ZF X]
 .rw[bJ a]
theorem Pz(h:k<M.shs.length):Zs M k=some M.shs[k]:=by
 unfold Zs;rw[bK X];exact XD h
theorem P6(h:Zu F w R M)(k:Int):Xe prog 237 #[Ck R,W k] w (X9 (Gu R M k) w):=by
 have g:=h.ok.n;refine aR func237 ntmps237 Y (aT Y (λa=>?_) λa=>?_)
 .have e:Gu R M k=.pointer none:=by unfold Gu;rw[Te (.inl (bL a))]
  rw[e];exact aN Y (bE func237 Y ⟨rfl,rfl⟩)
 .have d:=bM a;refine bB h.obj Y (aT Y (λb=>?_) λb=>?_)
  .have e:Gu R M k=.pointer none:=by unfold Gu;rw[Te (.inr (bL b))]
   rw[e];exact bE func237 Y ⟨rfl,rfl⟩
  .have f:=bM b;obtain⟨n,rfl⟩:=XE (show 0<=k by omega);have c:n<M.shs.length:=X
   have e:Gu R M n=Cl (R.S n):=by unfold Gu;rw[Pz c];rfl
   rw[e];exact bB h.obj Y (aU n Y (aW Y (show w.cell? ⟨R.sb,0+n,none⟩=_ from by rw[XT];exact h.sl n c) Y (bE func237 Y ⟨rfl,rfl⟩)))
theorem Tf(h:Zu F w R M):Xe prog 101 #[Ck R] w (X9 (W (Zd M.pl:Nat)) w):=by
 exact aR func101 ntmps101 Y (bB h.obj Y (bH (XlR R.P M.pl w h.pool) Y (bE func101 Y ⟨rfl,rfl⟩)))
theorem Xnm(h:Zu F w R M)(k n i:Int):Xe prog 199 #[Ck R,W k,W n,W i] w (X9 (W (Zi M k n i)) w):=by
 refine aR func199 ntmps199 Y (bH (P6 h k) Y ?_);unfold Gu Zi;cases a:Zs M k with
 |none=>
  exact bH (XnK n i w) Y (bE func199 Y ⟨rfl,rfl⟩)
 |some x=>
  obtain⟨j,rfl,d,b⟩:=Fz a;obtain⟨G,_,c,_⟩:=h.shelf b;exact bH (XnJ (R.S j) G x M.pl n i w c) Y (bE func199 Y ⟨rfl,rfl⟩)
theorem Xnp(h:Zu F w R M)(k r:Int)(fk:Nat)(hf:Xe prog fk #[Gu R M k] w (X9 (W r) w)):Xe prog 235 #[Ck R,W k,.func (.func fk) #[] #[]] w (X9 (W r) w):=by
 exact aR func235 ntmps235 Y (bH (P6 h k) Y (bH hf Y (bE func235 Y ⟨rfl,rfl⟩)))
theorem V6(h:Zu F w R M)(k:Int):Xe prog 173 #[Ck R,W k] w (X9 (W (Qm M k:Nat)) w):=by
 have hf:Xe prog 236 #[Gu R M k] w (X9 (W (Qm M k:Nat)) w):=by
  unfold Gu Qm;cases a:Zs M k with
  |none=>exact Xhg w
  |some x=>
   obtain⟨j,rfl,d,b⟩:=Fz a;obtain⟨G,_,c,_⟩:=h.shelf b;exact Xhf (R.S j) G x M.pl w c
 exact aR func173 ntmps173 Y (bH (Xnp h k (Qm M k:Nat) 236 hf) Y (bE func173 Y ⟨rfl,rfl⟩))
theorem Xnl(h:Zu F w R M)(k n i who:Int):Xe prog 174 #[Ck R,W k,W n,W i,W who] w
 (λv w'=>v=W (P0 M k n i who)/\H9 F w w' R (Qq M k n i who)):=by
 refine aR func174 ntmps174 Y (bH (P6 h k) Y ?_);unfold Gu P0 Qq;cases d:Zs M k with
 |none=>
  exact bH (XnI n i who w) Y (bE func174 Y ⟨rfl,.of h (Xc.refl _ _)⟩)
 |some x=>
  obtain⟨j,rfl,p,f⟩:=Fz d;obtain⟨G,_,g,_,a⟩:=h.shelf f;refine aP Y (XnH (R.S j) G x M.pl n i who w g) ?_;rintro _ l ⟨rfl,m,b,c⟩;refine aN Y ?_;obtain⟨e1,e2,e3,e4⟩:=XbR x M.pl n i who;exact bE func174 Y ⟨rfl,a l G (Bc x n i who) M.pl m b (λz o=>.inl (c z o)) e1 e2 e3 e4⟩
theorem Xno(h:Zu F w R M)(k:Int):Xe prog 198 #[Ck R,W k] w (Grow (.tuple #[.agg (Nt M k).toArray,.bool (Iw M k)]) w):=by
 refine aR func198 ntmps198 Y (bC Y λb m e1 n g B=>?_);have o:=h.bQ g;refine bH (P6 o k) Y ?_;unfold Gu Nt Iw;cases r:Zs M k with
 |none=>
  exact bG (XnM m) Y λs f=>bF (f.bP n) Y λt i l p=>aK func198 i Y ⟨rfl,(g.trans f).bU l (λz u e=>by subst e1;omega)⟩
 |some x=>
  obtain⟨j,rfl,C,y⟩:=Fz r;obtain⟨G,_,A,_⟩:=o.shelf y;obtain⟨pa,pb,pc,pd,ep⟩:∃a b c d,H5 x=K1 a b c d:=by
   unfold H5;split
   .exact⟨_,_,_,_,rfl⟩
   .exact⟨_,_,_,_,rfl⟩
  have q:=XnL (R.S j) G x M.pl m A;rw[ep] at q;show Xa _ _ (Gh (λv w'=>v=.tuple #[.agg (H5 x).toArray,.bool (Nx x)]/\_)) _ _ _ _ _
  rw[ep];exact bG q Y λs f=>bF (f.bP n) Y λt i l p=>aK func198 i Y ⟨rfl,(g.trans f).bU l (λz u e=>by subst e1;omega)⟩
abbrev XjK(w:dD)(b:Nat)(e:Int):Prop:=w.heap[b]?=some (.cells ([.int .i64 e]:List dE).toArray 53 (0,0))
theorem O7{p:PlM}(h:p.Good):Zd p<=1024:=by have:=Pp p.own;have:=h.len;unfold Zd;omega
theorem V7(h:Zu F w R M)(held:Nat)(b:Nat)(E:Int)(hb:XjK w b E)(hh:held<=1024):Hp prog 251 #[Ck R,W (held:Int),xV b] w
 (λ_ w'=>Zu F w' R (if E=0 then {M with tot:=Xu M.tot (3+(max (Zd M.pl:Int) held-min (Zd M.pl:Int) held)*4)} else M)/\Xc F w w'):=by
 refine Hp.enter func251 rfl ntmps251 rfl rfl ?_;have g:=O7 h.pool.cV;refine aN Y (bB hb Y (aT Y (λc=>?_) λc=>?_))
 .have a:E≠0:=xU c
  rw[bJ a];exact bE func251 Y ⟨h,Xc.refl _ _⟩
 .have a:E=0:=xU c
  rw[bK a];have e1:(if (held:Int)>Zd M.pl then (held:Int) else Zd M.pl)=max (Zd M.pl:Int) held:=by split <;> omega
  have e2:(if (held:Int)<Zd M.pl then (held:Int) else Zd M.pl)=min (Zd M.pl:Int) held:=by split <;> omega
  refine bH (Tf h) Y (bH (Tf h) Y (aV Y ?_));rw[e1,e2];refine bB h.obj Y (aV Y (aV Y (aP Y (V8 h (3+(max (Zd M.pl:Int) held-min (Zd M.pl:Int) held)*4)) ?_)));rintro _ i ⟨f,d⟩;exact aN Y (bE func251 Y ⟨f,d⟩)
theorem Xcy(h:M.shs[k]?=some x):Gs M k x M.pl=M:=by
 have:M.shs.set k x=M.shs:=by rw[<-((XC.1 h).2)];exact List.set_getElem_self ((XC.1 h).1)
 show RmM.mk (M.shs.set k x) M.pl M.lg M.tot=M
 rw[this]
theorem V9{F2:Nat->Prop}{w3 w4:dD}{M2:RmM}(hc01:Xc Xf w w1)(hF2:∀z,F2 z->F z\/w1.heap.size<=z)(hc13:Xc F w w3)(h4:Zu F2 w4 R M2)(hc34:Xc F2 w3 w4):H9 F w w4 R M2:=by
 have c:=hc01.size;refine⟨F2,h4,λz a=>(hF2 z a).imp id (λh=>X),hc13.bU hc34 λz a b=>?_⟩;rcases hF2 z b with h|h
 .exact h
 .omega
theorem Xg2(h:Zu F w R M)(k who:Int):Xe prog 200 #[Ck R,W k,W who] w
 (λv w'=>v=.tuple #[W (Ey M k who),W (Ex M k who),W (Gt M k who)]/\H9 F w w' R (Qe M k who)):=by
 have p:=O7 h.pool.cV;refine aR func200 ntmps200 Y (bC Y λb D e1 m a a1=>?_);have n:=h.bQ a;have f:¬F b:=λd=>xH (h.low b d)
 refine bH (Tf n) Y (Xa.defer rfl rfl (aN Y (bH (P6 n k) Y ?_)));unfold Gu Ey Ex Gt Qe;cases O:Zs M k with
 |none=>
  refine bH (XnO who D) Y (bF m Y λE c q a2=>?_);have g:=V7 (h.note n (X2 m) X f q xD) (Zd M.pl) b 1 c p;refine Xa.retD Xb rfl func200 rfl (O9 (args:=[Ck R,W (Zd M.pl:Nat),xV b]) (captured:=[]) g.fn) (g.mono λ_ P ⟨Q,r⟩=>?_);exact⟨_,.tmp rfl (.tmp rfl (.one rfl rfl rfl (Yx (r.heap c f)) .nil)),rfl,V9 a (λz h=>.inl h) (a.gr.sn q) Q r⟩
 |some x=>
  obtain⟨j,rfl,hj,H⟩:=Fz O;obtain⟨G,_,I,B,J⟩:=n.shelf H;refine aP Y (XnN (R.S j) G x M.pl who D I) ?_;rintro _ E ⟨rfl,G',K,s,L⟩;refine aN Y ?_;obtain⟨e2,e3,e4,e5⟩:=W9 x M.pl who h.pool.cV I.ok.cL;obtain⟨S,T,t,C⟩:=J E G' (Ad x M.pl who) (B2 x M.pl who) K s L e2 e3 e4 e5;have i:¬S b:=λd=>(t b d).elim f (λh=>xH (Xg m));have N:¬Bm (R.S j) G x.pg b:=λd=>f (B b d);have c:=s.heap m N;refine bF c Y λP u y a3=>?_;have g:=V7 (h.note T (X2 c) X i y xD) (Zd M.pl) b (Qr x M.pl who) u p;refine Xa.retD Xb rfl func200 rfl (O9 (args:=[Ck R,W (Zd M.pl:Nat),xV b]) (captured:=[]) g.fn) (g.mono λ_ w4 ⟨U,A⟩=>?_);refine⟨_,.tmp rfl (.tmp rfl (.one rfl rfl rfl (Yx (A.heap u i)) .nil)),rfl,?_⟩;have l:=V9 a t ((a.gr.trans C).sn y) U A;simp only[XA];by_cases o:Qr x M.pl who=0
  .rw[bK o] at l⊢;exact l
  .rw[bJ o] at l⊢;have V:Ad x M.pl who=x:=by unfold Ad;rw[bJ o]
   have t2:B2 x M.pl who=M.pl:=by unfold B2;rw[bJ o]
   rw[V,t2,Xcy H] at l;exact l
theorem XnC{pl:PlM}{n i:Int}(h:Ca x n i≠0):Ag x n i=x/\Bo x pl n i=pl:=by
 unfold Ca at h;unfold Ag Bo;cases a:Zk x.pg n with
 |none=>exact⟨rfl,rfl⟩
 |some p=>
  rw[a] at h;simp only at h⊢
  rw[bJ h,bJ (λe=>h e.1)];exact⟨rfl,rfl⟩
theorem Xg1(h:Zu F w R M)(k n i:Int):Xe prog 204 #[Ck R,W k,W n,W i] w
 (λv w'=>v=W (J9 M k n i)/\H9 F w w' R (Qw M k n i)):=by
 have q:=O7 h.pool.cV;refine aR func204 ntmps204 Y (bC Y λb I e1 o c a3=>?_);have p:=h.bQ c;have f:¬F b:=λa=>xH (h.low b a)
 refine bH (Tf p) Y (Xa.defer rfl rfl (aN Y (bH (P6 p k) Y ?_)));unfold Gu J9 Qw;cases Q:Zs M k with
 |none=>
  refine bH (XnF n i I) Y (bF o Y λJ d r a4=>?_);have g:=V7 (h.note p (X2 o) X f r xD) (Zd M.pl) b 1 d q;refine Xa.retD Xb rfl func204 rfl (O9 (args:=[Ck R,W (Zd M.pl:Nat),xV b]) (captured:=[]) g.fn) (g.mono λ_ S ⟨T,s⟩=>?_);exact⟨_,.one rfl rfl rfl (Yx (s.heap d f)) .nil,rfl,V9 c (λz h=>.inl h) (c.gr.sn r) T s⟩
 |some x=>
  obtain⟨j,rfl,hj,K⟩:=Fz Q;obtain⟨G,_,C,D,L⟩:=p.shelf K;refine aP Y (XnE (R.S j) G x M.pl n i I C) ?_;rintro _ J ⟨rfl,N,t,O⟩;refine aN Y ?_;obtain⟨e2,e3,e4,e5⟩:=Uo x M.pl n i C.ok C.of;obtain⟨U,V,u,E⟩:=L J G (Ag x n i) (Bo x M.pl n i) N t (λz a=>.inl (O z a)) e2 e3 e4 e5;have l:¬U b:=λa=>(u b a).elim f (λh=>xH (Xg o));have P:¬Bm (R.S j) G x.pg b:=λa=>f (D b a);have d:=t.heap o P;refine bF d Y λS y A a5=>?_;have g:=V7 (h.note V (X2 d) X l A xD) (Zd M.pl) b (Ca x n i) y q;refine Xa.retD Xb rfl func204 rfl (O9 (args:=[Ck R,W (Zd M.pl:Nat),xV b]) (captured:=[]) g.fn) (g.mono λ_ w4 ⟨h4,B⟩=>?_);refine⟨_,.one rfl rfl rfl (Yx (B.heap y l)) .nil,rfl,?_⟩;have m:=V9 c u ((c.gr.trans E).sn A) h4 B;simp only[XA];by_cases H:Ca x n i=0
  .rw[bK H] at m⊢;exact m
  .rw[bJ H] at m⊢;obtain⟨t1,t2⟩:=XnC (pl:=M.pl) H;rw[t1,t2,Xcy K] at m;exact m
structure XdD(c:Conf):Prop where
 size:64<=c.size/\c.size<=4096
 bS:1<=c.bS/\c.bS<=1024
 n:1<=c.bT.length/\c.bT.length<=16
 bV:c.bV.length=c.bT.length
 cH:1<=c.cH/\c.cH<=2097152
theorem Zr(h:Xy c=true):XdD c:=by
 unfold Xy at h;simp only[XI,decide_eq_true_eq,Qu] at h;obtain⟨⟨⟨⟨⟨⟨⟨b,f⟩,g⟩,i,_⟩,_⟩,_⟩,_⟩,j⟩:=h;have l:=Ug g;have a:=Nz.1 b;have hm:Fb c<=2097152:=by
  unfold Fb;rw[bK b];have k:c.size/8<=512:=X
  have d:0<=c.size/8:=X
  calc c.size*(c.size/8)<=4096*(c.size/8):=XZ a.2.1 d
   _<=4096*512:=Int.mul_le_mul_of_nonneg_left k X
   _=2097152:=X
 exact⟨⟨a.1,a.2.1⟩,f,X,i,j.1,X⟩
theorem XdL(h:XdD c){n:Int}(hn:n<=c.cH):0<=Zl n c.size/\Zl n c.size<=2097153:=by
 unfold Zl Zj;have b:=h.size;have hm:=h.cH;by_cases a:n<1\/c.size<1
 .rw[bK a];simp
 .rw[bJ a];have d:0<=(n-1)/c.size:=ZY X X;have f:(n-1)/c.size<=n-1:=QL _ X;split <;> omega
theorem Xg0(h:Zu F w R M)(size:Int):Xe prog 122 #[Ck R,W size] w (Grow (W (Ql R.c M size)) w):=by
 have hf:=Zr h.may;have n:=hf.n;have o:=hf.cH;refine aR func122 ntmps122 Y (aT Y (λj=>?_) λj=>?_)
 .have e:Ql R.c M size=3:=by unfold Ql;rw[bK (.inl (bL j))]
  rw[e];exact bE func122 Y ⟨rfl,Xc.refl _ _⟩
 .have p:=bM j;refine bB h.obj Y (aT Y (λk=>?_) λk=>?_)
  .have e:Ql R.c M size=3:=by unfold Ql;rw[bK (.inr (bL k))]
   rw[e];exact bE func122 Y ⟨rfl,Xc.refl _ _⟩
  .have q:=bM k;have e3:Ql R.c M size=if (M.pl.free.length:Int)<Df R.c M size then 5 else 0:=by unfold Ql;rw[bJ X]
   rw[e3];refine aQ 16 Xf xK Y λf=>aE f h.obj Y (aG f (λw' i=>Ov R.p.ca R.p.cc R.c.bT size w' (h.cL.1.bR i) X) Y (aE f h.obj Y (aH f (λw' i=>Xec size R.c.size w' X) Y (aF f Y λl a=>?_))));have b:=h.bQ a;by_cases g:Xl R.c.bT size=-1
   .have e4:Df R.c M size=Zl size R.c.size:=by unfold Df;rw[bK g]
    rw[e4];refine aI Y (by rw[g];rfl) (bB b.obj Y (bG (Xgb R.P M.pl l b.pool) Y λm c=>aT Y (λd=>?_) λd=>?_))
    .rw[bK (bL d)];exact bE func122 Y ⟨rfl,a.trans c⟩
    .rw[bJ (bM d)];exact bE func122 Y ⟨rfl,a.trans c⟩
   .have e4:Df R.c M size=1-min (Qm M (Xl R.c.bT size):Int) 1:=by unfold Df;rw[bJ g]
    rw[e4];refine aM Y (xU g) (bH (V6 b (Xl R.c.bT size)) Y ?_);have e5:(if (1:Int)<(Qm M (Xl R.c.bT size):Nat) then (1:Int) else (Qm M (Xl R.c.bT size):Nat))=min ((Qm M (Xl R.c.bT size):Nat):Int) 1:=by split <;> omega
    rw[e5];refine aV Y (bB b.obj Y (bG (Xgb R.P M.pl l b.pool) Y λm c=>aT Y (λd=>?_) λd=>?_))
    .rw[bK (bL d)];exact bE func122 Y ⟨rfl,a.trans c⟩
    .rw[bJ (bM d)];exact bE func122 Y ⟨rfl,a.trans c⟩
theorem XnZ(a a':Option dF)(c c':Nat)(x y:List Int)(w:dD)(hr:Rd .i64 w a x)(hr':Rd .i64 w a' y)(hl:x.length<=9223372036854775807):Xe prog 226 #[.slice a x.length c,.slice a' y.length c'] w (Grow (.bool (decide (x=y))) w):=by
 refine aR func226 ntmps226 Y (aT Y (λn=>?_) λn=>?_)
 .have q:x.length≠y.length:=by simp at n;omega
  have:x≠y:=λe=>q (by rw[e]);exact bE func226 Y ⟨Q5 (bO this).symm,Xc.refl _ _⟩
 .have o:x.length=y.length:=by simp at n;omega
  refine Xa.loop (α:=Nat) (λk=>[(0,false,.slice a x.length c),(1,false,.slice a' y.length c'),(12,false,W x.length),(13,false,W k)])
   (λk w'=>Xc Xf w w'/\k<=x.length/\∀j,j<k->x.getD j 0=y.getD j 0) (λk=>x.length-k) 0 ⟨rfl,rfl,rfl,rfl,trivial⟩ ⟨Xc.refl _ _,XQ _,λ_ h=>X⟩ ?_
  rintro k A ⟨d,B,f⟩ ih;refine aN Y (aT Y (λh=>?_) λh=>?_)
  .have l:k<x.length:=xU h
   obtain⟨b,off,rfl,s⟩:=(hr.bR d) k l;obtain⟨b',off',rfl,r⟩:=(hr'.bR d) k X;refine aQ 9 Xf xK Y λg=>aB k g Y (aD g s Y (aB k g Y (aD g r Y (aF g Y λC m=>aT Y (λi=>?_) λi=>?_))))
   .have p:x.getD k 0≠y.getD k 0:=xU i
    have:x≠y:=λe=>p (by rw[e]);exact bE func226 Y ⟨Q5 (bO this).symm,d.trans m⟩
   .have t:x.getD k 0=y.getD k 0:=xU i
    refine aV Y ?_;exact ih (k+1) _ _ ⟨d.trans m,l,λj D=>by
     by_cases e:j=k
     .subst e;exact t
     .exact f j X⟩ X ⟨rfl,rfl,rfl,rfl,trivial⟩
  .have z:k=x.length:=by simp at h;omega
   have:x=y:=List.ext_getElem o λj u v=>by
    have:=f j X;rw[Hw u,Hw v] at this;exact this
   exact bE func226 Y ⟨Q5 (bN this).symm,d⟩
theorem XnW(a:Option dF)(cap:Nat)(x:List Int)(w:dD)(hr:Rd .i64 w a x)(hl:x.length<=1048576)(hn:∃a1,a=some a1):Xe prog 115 #[.slice a x.length cap] w
 (λv w'=>∃g c,v=.slice (some ⟨g,0,none⟩) x.length c/\w.heap.size<=g/\Rd .i64 w' (some ⟨g,0,none⟩) x/\kd w' g=some (some 3)/\Xc Xf w w'):=by
 have q:maxLen=9223372036854775807:=rfl;obtain⟨a1,rfl⟩:=hn;refine aR func115 ntmps115 Y (aS Y (Xa.buildSlice Xb rfl λb m e1 n d r=>aN Y ?_));subst e1;have h:Xm w.heap.size 3 1 m (.slice (some ⟨w.heap.size,0,none⟩) 0 0) 0 []:=Xm.empty (XF _) n;refine Xa.append (base:=w.heap.size) (xs:=[]) (news:=x.map W) Xb rfl h X xS (hr.bR d).cells J5 ⟨X,by show(0+x.length)*8<=_;omega⟩ λv s f i j=>aN Y ?_;rw[XT,ZQ] at f;have o:=h.bU d (XF _) i;rcases f.2 with⟨e,_⟩|⟨g,c,cur,rfl,p,k,t,u,_,l⟩
 .have:=(j.1.1 e).1;cases this
 .exact bE func115 Y ⟨g,c,rfl,p,Rd.of_take k (by rw[ZS] at l;exact l),X2 k,o⟩
theorem Xn0(k:Nat)(w:dD)(hk:0<k)(hb:k<=1048576):Xe prog 275 #[.slice none 0 0,W (k:Int)] w
 (λv w'=>Xm w.heap.size 3 1 w' v 0 []/\Xc Xf w w'/\v.ownBlock=some w.heap.size/\v≠.slice none 0 0):=by
 refine aR func275 ntmps275 Y (aS Y (Xa.cap Xb rfl (aN Y (aV Y (aV Y (bI Y (Xa.cap Xb rfl (aN Y ?_))))))));rw[show(k:Int)-(((0:Nat):Int)-((0:Nat):Int))=(k:Nat) from by omega];refine Xa.slice Xb rfl (l:=0) (h:=0) (by first|rfl|omega|simp[Dx]) (by first|rfl|omega|simp[Dr]) X X rfl (Xa.appendZ (k:=k) Xb rfl hk (by show k*8<=_;omega) X λcap cur i a d f b c g=>aN Y (Xa.slice Xb rfl (l:=0) (h:=0) (by first|rfl|omega|simp[Dx]) (by first|rfl|omega|simp[Dr]) X X rfl ?_));have es:Ae (some ⟨w.heap.size,0,none⟩) cap 0 1=some ⟨w.heap.size,0,none⟩:=by
  unfold Ae;split
  .omega
  .rfl
 show Xa _ _ _ _ _ _ ((4,false,.slice (Ae (some ⟨w.heap.size,0,none⟩) cap 0 1) 0 cap)::_) _
 rw[es];exact bE func275 Y ⟨⟨rfl,.inr ⟨w.heap.size,cap,cur,rfl,XF _,c,X,b,X,xS⟩⟩,a,rfl,xS⟩
structure Sl where
 a:Option dF
 cap:Nat
 x:List Int
abbrev slV(l:Sl):dE:=.slice l.a l.x.length l.cap
def C2(ls:List Sl):List Int:=(ls.map (·.x)).flatten
theorem Xa0{ls:List Sl}(h:i<ls.length):C2 (ls.take (i+1))=C2 (ls.take i)++ls[i].x:=by
 unfold C2;rw[ZI,XD h,XM,List.flatten_append]
 simp
theorem Xeb(ls:List Sl)(i:Nat):(C2 (ls.take i)).length<=(C2 ls).length:=by
 have:C2 ls=C2 (ls.take i)++C2 (ls.drop i):=by
  unfold C2;rw[<-List.flatten_append,<-XM,XY]
 rw[this,ZE];omega
theorem XnX(ob:Nat)(ls:List Sl)(w:dD)(h:∀i (hi:i<ls.length),w.cell? ⟨ob,i,none⟩=some (slV ls[i]))(hr:∀l∈ls,Rd .i64 w l.a l.x)(hn:ls.length<=1024)(hpos:0<(C2 ls).length)(hb:(C2 ls).length<=1048576):Xe prog 227 #[.slice (some ⟨ob,0,none⟩) ls.length ls.length] w
 (λv w'=>∃g c,v=.slice (some ⟨g,0,none⟩) (C2 ls).length c/\w.heap.size<=g/\Rd .i64 w' (some ⟨g,0,none⟩) (C2 ls)/\Xc Xf w w'):=by
 have M:maxLen=9223372036854775807:=rfl;refine aR func227 ntmps227 Y ?_;refine Xa.loop (α:=Nat) (λk=>[(0,false,.slice (some ⟨ob,0,none⟩) ls.length ls.length),(3,false,W (C2 (ls.take k)).length),(9,false,.slice (some ⟨ob,0,none⟩) ls.length ls.length),(10,false,W ls.length),(11,false,W k)])
  (λk w'=>w'=w/\k<=ls.length) (λk=>ls.length-k) 0 ⟨rfl,rfl,rfl,rfl,rfl,trivial⟩ ⟨rfl,XQ _⟩ ?_
 rintro k m ⟨G,P⟩ ih;subst G;refine aN Y (aT Y (λr=>?_) λr=>?_)
 .have a:k<ls.length:=xU r
  have t:=Xeb ls (k+1);have q:=congrArg List.length (Xa0 a);rw[ZE] at q;refine aU k Y (aW Y (show m.cell? ⟨ob,0+k,none⟩=_ from by rw[XT];exact h k a) Y (aV Y (aS Y (aV Y ?_))));exact ih (k+1) _ _ ⟨rfl,a⟩ X ⟨rfl,congrArg (λz=>some (W z)) (show((C2 (ls.take k)).length:Int)+(ls[k].x.length:Int)=((C2 (ls.take (k+1))).length:Int) from by rw[q];omega),rfl,rfl,rfl,trivial⟩
 .have n:k=ls.length:=by simp at r;omega
  subst n;rw[ZM];refine aP Y (Xn0 (C2 ls).length m hpos hb) ?_;rintro v Q ⟨H,x,N,y⟩;refine aN Y ?_;refine Xa.loop (α:=Nat×dE) (λp=>[(6,false,p.2),(25,false,.slice (some ⟨ob,0,none⟩) ls.length ls.length),(26,false,W ls.length),(27,false,W p.1)])
   (λp w'=>p.1<=ls.length/\Xm m.heap.size 3 1 w' p.2 (C2 (ls.take p.1)).length ((C2 (ls.take p.1)).map W)/\p.2≠.slice none 0 0/\Xc Xf m w') (λp=>ls.length-p.1) (0,v) ⟨rfl,rfl,rfl,rfl,trivial⟩ ⟨XQ _,H,y,x⟩ ?_
  rintro⟨i,u⟩ I ⟨hi,d,A,f⟩ ih;simp only at hi d A
  refine aN Y (aT Y (λs=>?_) λs=>?_)
  .have a:i<ls.length:=xU s
   have t:=Xeb ls (i+1);have q:=congrArg List.length (Xa0 a);rw[ZE] at q;have o:=(hr ls[i] (XL a)).bR f;refine aU i Y (aW Y (show I.cell? ⟨ob,0+i,none⟩=_ from by rw[XT];exact f.cell (h i a) id) Y ?_);refine Xa.appendA (base:=m.heap.size) (xs:=(C2 (ls.take i)).map W) (news:=ls[i].x.map W) Xb rfl d f.size (λe=>by
    by_cases J:0<ls[i].x.length
    .obtain⟨b,off,e',_⟩:=o 0 J;rw[e] at e';cases e'
    .omega) xS (λj u B=>by
    have O:j<ls[i].x.length:=by have:=(XC.1 B).1;simpa using this
    obtain⟨b,off,e',_⟩:=o 0 X;exact⟨_,e',(Rd.cells (e'▸o)) j u B⟩) J5 ⟨X,by show(_+_)*8<=_;omega⟩ ?_
   intro u' R C D E;exact aN Y (aV Y (ih (i+1,u') _ _ ⟨a,by rw[Xa0 a,ZE,XM];exact C,λe=>A (E.1.1 e).1,d.bU f (XF _) D⟩ xP ⟨rfl,rfl,rfl,rfl,trivial⟩))
  .have n:i=ls.length:=by simp at s;omega
   subst n;rw[ZM] at d;obtain⟨g,c,cur,rfl,K,L,S,T,F⟩:=d.form hpos;exact bE func227 Y ⟨g,c,rfl,K,Rd.of_take L (by rw[ZS] at F;exact F),f⟩
structure Plc where
 cL:Int
 cR:Int
 idx:Int
 pa:Option dF
 pc:Nat
 bS:List Int
def Xw(q:Plc):List dE:=[.int .i64 q.cL,.int .i64 q.cR,.int .i64 q.idx,.slice q.pa q.bS.length q.pc]
structure Zw(w:dD)(q:Plc):Prop where
 rd:Rd .i64 w q.pa q.bS
 len:q.bS.length<=9223372036854775807
abbrev Ji(w:dD)(b:Nat)(q:Plc):Prop:=w.heap[b]?=some (.cells (Xw q).toArray 83 (0,0))
theorem Zw.bQ{q:Plc}(h:Zw w q)(hc:Xc Xf w w'):Zw w' q:=⟨h.rd.bR hc,h.len⟩
variable {q:Plc}
theorem Ef.put{r:List Nat}(h:Ef F w lm lg)(hc:Xc (λz=>z=lm) w w')(hm':∀m,Y7 w lm m->Y7 w' lm (C1 m n (.slice a r.length cap)))(hnew:∀e∈lg,e.1≠n)(hr:Rd .i64 w' a (X3 r))(hmine:Mh F w' a):Ef F w' lm (lg++[(n,r)]):=by
 have l:=Il h;obtain⟨m,o,p,q,i⟩:=h;have c:=i n λe he e'=>hnew e he X;refine⟨_,hm' m o,?_,λe he=>?_,λk d=>?_⟩
 .rw[Xay,bJ (T0.1 c)];exact XR.2 ⟨p,xS,λx t y j e=>by
   rw[QD] at j;subst j;subst e;exact T0.1 c t⟩
 .rcases XS.1 he with he|he
  .obtain⟨a',cap',u,v,g⟩:=q e he;have f:∀b off s,a'=some ⟨b,off,s⟩->b≠lm:=λb off s e'=>Xr (g b off s e').1 l xS;refine⟨a',cap',by rw[Jv,bJ (xH (hnew e he))];exact u,v.bW f hc,λb off s e'=>⟨G6 hc (g b off s e').1 (f b off s e'),(g b off s e').2⟩⟩
  .rw[QD] at he;subst he;exact⟨a,cap,by rw[Jv,bK rfl],hr,hmine⟩
 .rw[Jv,bJ (λe=>d (n,r) xS e.symm)];exact i k λe he=>d e (by simp[he])
theorem Ef.del(h:Ef F w lm lg)(hc:Xc (λz=>z=lm) w w')(hm':∀m,Y7 w lm m->Y7 w' lm (Do m n)):Ef F w' lm (Dw lg n):=by
 have j:=Il h;obtain⟨m,l,c,o,p⟩:=h;refine⟨_,hm' m l,by rw[Xax];exact c.erase _,λe d=>?_,λk g=>?_⟩
 .obtain⟨d,a⟩:=QY.1 d;have q:e.1≠n:=xU a
  obtain⟨a',cap',r,t,f⟩:=o e d;have a:∀b off s,a'=some ⟨b,off,s⟩->b≠lm:=λb off s e'=>Xr (f b off s e').1 j xS;exact⟨a',cap',by rw[Mk c,bJ X];exact r,t.bW a hc,λb off s e'=>⟨G6 hc (f b off s e').1 (a b off s e'),(f b off s e').2⟩⟩
 .rw[Mk c];by_cases e:k=n
  .rw[bK e]
  .rw[bJ e];refine p k λe' i e2=>?_;by_cases e3:e'.1=n
   .exact e X
   .exact g e' (QY.2 ⟨i,xU e3⟩) e2
theorem XnS{l:Nat}{off:Nat}{s}(h:Ae a cap l sz=some ⟨b,off,s⟩):∃off' s',a=some ⟨b,off',s'⟩:=by
 unfold Ae at h;by_cases c:cap=l
 .rw[bK c] at h;exact⟨off,s,h⟩
 .rw[bJ c] at h;cases a with
  |none=>cases h
  |some x=>
   obtain⟨xb,xo,xs⟩:=x;simp only[QZ,Option.some.injEq] at h;have:xb=b:=by
    have:=congrArg Addr.block h;unfold Addr.add at this;split at this <;> exact this
   subst this;exact⟨xo,xs,rfl⟩
theorem XbT{l:List Nat}(h:Xm base 3 1 w v m ((X3 l).map W))(hm:l.length=m)(hp:0<m):∃g cap,v=.slice (some ⟨g,0,none⟩) m cap/\base<=g/\m<=cap/\cap<=maxLen/\kd w g=some (some 3)/\Rd .i64 w (some ⟨g,0,none⟩) (X3 l):=by
 obtain⟨g,cap,cur,e,c,a,d,f,b⟩:=h.form hp;have i:(X3 l).length=m:=by unfold X3;rw[XU];exact hm
 exact⟨g,cap,e,c,d,f,X2 a,Rd.of_take a (by rw[i];rw[ZS] at b;exact b)⟩
theorem XfH(l r:List Nat):X3 (l++r)=X3 l++X3 r:=by unfold X3;rw[XM]
theorem De(l:List Nat):(X3 l).length=l.length:=by unfold X3;rw[XU]
def XiH(F:Nat->Prop)(w w':dD)(R:Rm)(M:RmM)(q:Plc):Prop:=∃F',Zu F' w' R M/\(∀z,F' z->F z\/w.heap.size<=z)/\Xc F w w'/\Zw w' q/\Xj F' q.pa/\∀b off s,q.pa=some ⟨b,off,s⟩->w.heap.size<=b/\kd w' b=some (some 3)
def Xz(q:Plc):PlcM:=⟨q.cL,q.cR,q.idx,q.bS⟩
theorem Xnn(h:Zu F w R M)(who size:Int):Xe prog 176 #[Ck R,W who,W size] w
 (λv w'=>∃q:Plc,v=.tuple #[.agg (Xw q).toArray,W (C5 R.c M who size)]/\Xz q=Bz R.c M who size/\XiH F w w' R (Ai R.c M who size) q):=by
 have d8:maxLen=9223372036854775807:=rfl;have hf:=Zr h.may;have d9:=hf.size;have da:=hf.n;have db:=hf.cH;have noq:∀{F':Nat->Prop} {w':dD} (c i j:Int),Zw w' ⟨c,i,j,none,0,[]⟩/\Xj F' none/\∀b off s,(none:Option dF)=some ⟨b,off,s⟩->w.heap.size<=b/\kd w' b=some (some 3):=λc i j=>⟨⟨Rd.nil _ _ _,xS⟩,⟨(λ_ _ _ e=>by cases e),(λ_ _ _ e=>by cases e)⟩⟩;refine aR func176 ntmps176 Y (bC Y λb w1 e1 hb O dc=>?_);have A:¬F b:=λd=>xH (h.low b d)
 have bm:Xc F w w1:=O.gr;by_cases C:who<0
 .have ad:C5 R.c M who size=1/\Bz R.c M who size=⟨0,0,0,[]⟩/\Ai R.c M who size=M:=by
   unfold C5 Bz Ai;rw[bK C,bK C,bK C];exact⟨rfl,rfl,rfl⟩
  rw[ad.1,ad.2.1,ad.2.2];refine bI Y (aO Y (bF hb Y λD P ae dd=>?_));have h2:=h.note (h.bQ O) (X2 hb) X A ae xD;exact aK func176 P Y ⟨⟨0,0,0,none,0,[]⟩,rfl,rfl,F,h2,λz d=>.inl d,bm.sn ae,noq 0 0 0⟩
 .refine aS Y (bG (Xg0 (h.bQ O) size) Y λD af=>?_);have h2:=(h.bQ O).bQ af;have P:=af.bP hb;have ag:=O.trans af;by_cases n:Ql R.c M size=0
  .have bn:¬(size<1\/R.c.cH<size)/\Df R.c M size<=M.pl.free.length:=by
    unfold Ql at n;split at n
    .cases n
    .split at n
     .cases n
     .refine⟨by assumption,X⟩
   have J:¬(Ql R.c M size≠0):=λh=>h n;refine aI Y (by rw[n];rfl) (bB h2.obj Y (bG (Ov R.p.ca R.p.cc R.c.bT size D h2.cL.1 X) Y λw3 ah=>?_));have o:=h2.bQ ah;have Q:=ah.bP P;have a2:=ag.trans ah;by_cases L:Xl R.c.bT size=-1
   .have G:C5 R.c M who size=0/\Bz R.c M who size=⟨-1,(M.pl.free.getD 0 0:Nat),0,X3 (M.pl.free.take (Zl size R.c.size).toNat).tail⟩/\Ai R.c M who size=Ew M (Zl size R.c.size).toNat:=by
     exact⟨by unfold C5;rw[bJ C,bJ J,bK L],by unfold Bz;rw[bJ C,bJ J,bK L],by unfold Ai;rw[bJ C,bJ J,bK L]⟩
    rw[G.1,G.2.1,G.2.2];have cp:Df R.c M size=Zl size R.c.size:=by unfold Df;rw[bK L]
    have de:2<=Zl size R.c.size:=by
     have h0:0<=(size-1)/R.c.size:=ZY X X;have h9:(size-1)/R.c.size<=size-1:=QL _ X;have e4:Zj size R.c.size=(size-1)/R.c.size+1:=by unfold Zj;rw[bJ X]
     unfold Zl;rw[e4,bJ X];omega
    obtain⟨many,b4⟩:=XE (show 0<=Zl size R.c.size by omega);have df:2<=many:=X
    have K:many<=M.pl.free.length:=xH bn.2
    have dg:M.pl.free.length<=1024:=xI h.pool.cV.many h.pool.cV.len
    refine aI Y (by rw[L];rfl) (bB o.obj Y (bH (Xec size R.c.size w3 X) Y ?_));rw[b4,XA];have ai:¬Az R.P R.rb:=λd=>h.rf (h.pf _ d);refine Xa.loop (α:=Nat×dE) (λp=>[(0,false,Ck R),(6,false,xV b),(13,false,p.2),(58,false,W many),(59,false,W p.1)])
     (λp w'=>p.1<=many/\Xm w3.heap.size 3 1 w' p.2 p.1 ((X3 (M.pl.free.take p.1)).map W)/\Z6 w' R.P (A1 M.pl (M.shs.length:Nat) p.1)/\Xc (Az R.P) w3 w') (λp=>many-p.1) (0,.slice none 0 0) ⟨rfl,rfl,rfl,rfl,rfl,trivial⟩ ⟨XQ _,⟨rfl,.inl ⟨rfl,rfl⟩⟩,o.pool,Xc.refl _ _⟩ ?_
    rintro⟨i,v⟩ w4 ⟨hi,a5,aj,r⟩ ih;simp only at hi a5 aj
    refine aN Y (aT Y (λak=>?_) λak=>?_)
    .have c0:i<many:=xU ak
     have bb:i<M.pl.free.length:=X
     obtain⟨q1,q2,q3,q4,q5⟩:=Nq (who:=(M.shs.length:Nat)) X h.pool.cV i X;have b5:(A1 M.pl (M.shs.length:Nat) i).free=M.pl.free[i]::M.pl.free.drop (i+1):=by rw[q2];exact ZT bb
     obtain⟨t1,t2,t3⟩:=Xb3 (who:=(M.shs.length:Nat)) X b5;have hn:=h.ok.n;have E:=r.heap o.obj ai;refine aQ 16 (Az R.P) xK Y λf=>aE f E Y (aE f E Y (Xd.cK f rfl λw5 t=>?_));have hd:=Xb6 R.P _ (M.shs.length:Nat) w5 (aj.bQ t);rw[t1,t2] at hd;rw[hn] at hd;refine Xo.call rfl hd.fn (Post:=λv D=>v=.tuple #[W (M.pl.free[i]:Nat),W 0]/\Z6 D R.P (A1 M.pl (M.shs.length:Nat) (i+1))/\Xc (Az R.P) w5 D) (λh0=>hd.mono λv D hp=>⟨h0.trans hp.2.2,hp.1,by rw[hn];exact hp.2.1,hp.2.2⟩) ?_;rintro _ w6 _ ⟨rfl,am,u⟩;refine Xd.adv Xb f rfl (aF f Y λw7 B=>Xa.buildSlice Xb rfl λb8 T e8 U bc dh=>aN Y ?_);have a4:Xc (Az R.P) w4 T:=((t.gr.trans u).trans B.gr).trans bc.gr;have cv:=o.pool.lt;have a6:=a5.bR a4 (λz d hP=>by
      have di:=(World.ownsRow.lt a5 z d.symm).1;rcases hP with e|e <;> omega)
     have bp:w3.heap.size<=T.heap.size:=(r.trans a4).size;refine Xa.append (base:=w3.heap.size) (xs:=(X3 (M.pl.free.take i)).map W) (news:=[W (M.pl.free[i]:Nat)]) Xb rfl a6 bp xS (Hs U) (by simp[Value.oneCell']) ⟨X,by show(i+1)*8<=_;omega⟩ λv9 w9 c7 bd dj=>aN Y (aV Y ?_);exact ih (i+1,v9) _ _ ⟨c0,by
      have e:(X3 (M.pl.free.take (i+1))).map W=(X3 (M.pl.free.take i)).map W++[W (M.pl.free[i]:Nat)]:=by
       rw[ZI,XD bb,XfH,XM];rfl
      rw[e];exact c7,(am.bQ (B.trans bc)).bR bd (λe=>xH (World.ownsRow.lt a6 _ e.symm).1) (λe=>xH (World.ownsRow.lt a6 _ e.symm).1),(r.trans a4).bU bd (λz d e=>xH (World.ownsRow.lt a6 z e.symm).1)⟩ xP ⟨rfl,rfl,rfl,rfl,rfl,trivial⟩
    .have bq:i=many:=by simp at ak;omega
     subst bq;have an:(M.pl.free.take i).length=i:=by rw[XX];omega
     obtain⟨g,cap,rfl,hg,cz,dk,c8,be⟩:=XbT a5 an X;have a7:¬F g:=λd=>xH (o.low g d)
     have V:∀{w':dD},Rd .i64 w' (some ⟨g,0,none⟩) (X3 (M.pl.free.take i))->w'.cell? ⟨g,0+0,none⟩=some (W (M.pl.free.getD 0 0:Nat)):=λ{w'} hr=>by
      obtain⟨b',off',e',hc⟩:=hr 0 (by rw[De];omega);cases e'
      have e:(X3 (M.pl.free.take i)).getD 0 0=((M.pl.free.getD 0 0:Nat):Int):=by
       cases ao:M.pl.free with
       |nil=>rw[ao] at K;simp at K;omega
       |cons x y=>
        obtain⟨j,rfl⟩:∃j,i=j+1:=⟨i-1,X⟩;rfl
      rw[e] at hc;exact hc
     have a0:∀{w':dD},Rd .i64 w' (some ⟨g,0,none⟩) (X3 (M.pl.free.take i))->Rd .i64 w' (Ae (some ⟨g,0,none⟩) cap 1 1) (X3 (M.pl.free.take i).tail):=λ{w'} hr=>by
      have:=hr.shift (cap:=cap) (l:=1) (m:=i-1) (by rw[De];omega) (by rw[De];omega);have e:((X3 (M.pl.free.take i)).drop 1).take (i-1)=X3 (M.pl.free.take i).tail:=by
       have e1:(X3 (M.pl.free.take i)).drop 1=X3 (M.pl.free.take i).tail:=by unfold X3;rw[List.drop_one,List.map_tail]
       rw[e1];exact YV (by rw[De,QM];omega)
      rw[e] at this;exact this
     have dl:¬R.rb=R.lm:=λe=>h.rf (e▸h.lf);have bf:¬g=R.lm:=λe=>a7 (e▸h.lf);have E:=r.heap o.obj ai;refine aQ 10 (λz=>z=R.lm) xK Y λf=>aE f E Y (aB 0 f Y (aD f (V be) Y (Xd.slice Xb f rfl (l:=1) (h:=i) (by first|rfl|omega|simp[Dx]) (by first|rfl|omega|simp[Dr]) X X rfl (Xd.cK f rfl λw5 t=>?_))));have bg:=o.lg.bR r (λz _ d=>.inl (o.pf z d)) (λd=>by
      have kl:=Il o.lg;have kp:=o.pool.kds;rcases d with e|e
      .exact Xr kl kp.1 xS e
      .exact Xr kl kp.2 xS e)
     have a8:=bg.bR t (λ_ _ h=>h.elim) id;obtain⟨m,hm,_⟩:=a8;have a8:=bg.bR t (λ_ _ h=>h.elim) id;refine Xo.mapset Xb f rfl (hm) (by first|(intro h;exact rfl)|(intro h;omega)) rfl λw6 ca u dm=>aF f Y λw7 B=>?_;have ap:kd w6 g=some (some 3):=G6 u (G6 t c8 id) bf;have aq:Rd .i64 w6 (some ⟨g,0,none⟩) (X3 (M.pl.free.take i)):=(be.bR t).bW (λb' off s e=>by cases e;exact bf) u;have b9:∀{w':dD},kd w' g=some (some 3)->Mh (R.FX F) w' (Ae (some ⟨g,0,none⟩) cap 1 1):=λ{w'} hk b' off s e=>by
      obtain⟨_,_,e'⟩:=XnS e;cases e'
      exact⟨hk,λd=>d.elim a7 (λhx=>xH (o.xl _ hx).1)⟩
     have a1:(M.pl.free.take i).tail.length=i-1:=by rw[QM,an]
     have ar:M.pl.free.getD 0 0∈M.pl.free:=by
      cases ao:M.pl.free with
      |nil=>rw[ao] at K;simp at K;omega
      |cons x y=>simp
     have cb:Ef (R.FX F) w6 R.lm (M.lg++[(M.pl.free.getD 0 0,(M.pl.free.take i).tail)]):=a8.put (cap:=cap-1) (a:=Ae (some ⟨g,0,none⟩) cap 1 1) u (λm' h'=>by
      rw[h'.uniq hm,a1];exact ca) (λe he e'=>by
       have h8:=(h.ok.lg e.1 (Jb he xS)).2;have h9:=(h.pool.cV.free _ ar).2;rw[e'] at h8;omega) (a0 aq) (b9 ap)
     have bh:=Il a8;have av:=aj.bQ t;have am:Z6 w6 R.P (A1 M.pl (M.shs.length:Nat) i):=av.bR u (Xr av.kds.1 bh xS) (Xr av.kds.2 bh xS);have cc:=h.ok.big h.pool.cV (show 1<=i by omega) K;have h6:=o.swap (pl':=A1 M.pl (M.shs.length:Nat) i) (lg':=M.lg++[(M.pl.free.getD 0 0,(M.pl.free.take i).tail)]) {cc with tot:=h.ok.tot} (((r.mono λ_ _ h=>.inl h).trans t.gr).trans (u.mono λ_ _ h=>.inr h)) am cb (λk x hx cd=>Xf9 X h.pool.cV K (xH (h.ok.cI k x hx).1) cd);have h7:=h6.bQ B;refine bB h7.obj Y (aV Y (aV Y (aV Y (aV Y ?_))));rw[show((i:Nat):Int)*4+(((i:Nat):Int)-1)*1=(i:Int)*4+((i:Int)-1) from by omega];refine aP Y (V8 h7 ((i:Int)*4+((i:Int)-1))) ?_;rintro _ T ⟨h8,a9⟩;refine aN Y ?_;replace h8:Zu F T R (Ew M i):=h8;have aa:=r.heap Q (λd=>A (o.pf b d));have cf:=B.bP (u.heap (t.bP aa) (λe=>A (e▸h.lf)));have U:=a9.heap cf A;have aw:=(aq.bR B).bW (λb' off s e=>by cases e;exact a7) a9;have bs:=G6 a9 (G6 B ap id) a7;have dn:¬g=b:=λe=>by
      have:=X2 U;rw[<-e,bs] at this
      revert this;decide
     have d4:=Xg U;have cg:∀w',Xc Xf T w'->Xe prog 115 #[.slice (Ae (some ⟨g,0,none⟩) cap 1 1) (i-1) (cap-1)] w' (λv D=>Xc (λz=>z=b) w' D/\Xc Xf T D/\∃n c2,v=.slice (some ⟨n,0,none⟩) (i-1) c2/\T.heap.size<=n/\Rd .i64 D (some ⟨n,0,none⟩) (X3 (M.pl.free.take i).tail)/\kd D n=some (some 3)):=λw' ay=>by
      have hd:=XnW (Ae (some ⟨g,0,none⟩) cap 1 1) (cap-1) (X3 (M.pl.free.take i).tail) w' ((a0 aw).bR ay) (by rw[De,a1];omega) (by unfold Ae;split <;> exact⟨_,rfl⟩);rw[De,a1] at hd;exact hd.mono λv D ⟨n,c2,q1,q2,q3,q4,q5⟩=>⟨q5.gr,ay.trans q5,n,c2,q1,xH ay.size,q3,q4⟩
     refine aQ 9 (λz=>z=b) xK Y λf=>aB 0 f Y (aD f (V aw) Y (Xd.slice Xb f rfl (l:=1) (h:=i) (by first|rfl|omega|simp[Dx]) (by first|rfl|omega|simp[Dr]) X X rfl (Xd.callQ f rfl rfl (cg) ?_)));rintro _ w9 _ ⟨az,n,c2,rfl,dp,ch,ci⟩;refine Xd.adv Xb f rfl (Xd.build Xb f rfl rfl (Xd.cK f rfl λdq H=>?_));have b0:=(az.trans H).bP U;refine Xo.store Xb f rfl b0 (by first|(intro h;exact rfl)|(intro h;omega)) rfl rfl rfl λdr bt N d5=>aF f Y λcj I=>?_;have b1:n≠b:=X
     have ck:=h.note (h8.bQ (az.trans H)) (X2 b0) X A N xD;have cl:=ck.bQ I;have bu:=I.bP bt;have bv:=(((ch.bR H).bW (S:=λz=>z=b) (λb' off s e=>by cases e;exact b1) N).bR I);have cm:Xc F w T:=(((((a2.gr.trans (r.mono λz _ d=>o.pf z d)).trans t.gr).trans (u.mono λz _ e=>e▸h.lf)).trans B.gr).trans a9);have ba:Xc F w cj:=((cm.trans ((az.trans H).gr)).sn N).trans I.gr;exact aK func176 bu Y ⟨⟨-1,(M.pl.free.getD 0 0:Nat),0,some ⟨n,0,none⟩,c2,X3 (M.pl.free.take i).tail⟩,by show Value.tuple #[Value.agg _,_]=Value.tuple #[Value.agg (#[_,_,_,Value.slice _ (X3 (M.pl.free.take i).tail).length _]:Array dE),_];rw[De,a1],rfl,F,cl,λz d=>.inl d,ba,⟨bv,by rw[De,a1];omega⟩,λb' off s e d=>by cases e;have:=h.low _ d;omega,λb' off s e=>by cases e;exact⟨X,G6 I (G6 N (G6 H ci id) b1) id⟩⟩
   .have G:C5 R.c M who size=Gt M (Xl R.c.bT size) who/\Bz R.c M who size=⟨Xl R.c.bT size,Ey M (Xl R.c.bT size) who,Ex M (Xl R.c.bT size) who,[]⟩/\Ai R.c M who size=Qe M (Xl R.c.bT size) who:=by
     exact⟨by unfold C5;rw[bJ C,bJ J,bJ L],by unfold Bz;rw[bJ C,bJ J,bJ L],by unfold Ai;rw[bJ C,bJ J,bJ L]⟩
    rw[G.1,G.2.1,G.2.2];refine aM Y (xU L) (aP Y (Xg2 o (Xl R.c.bT size) who) ?_);rintro _ w4 ⟨rfl,F4,h4,bi,r⟩;refine aN Y ?_;have bw:¬F4 b:=λd=>(bi b d).elim A (λh=>xH (Xg Q));have aa:=r.heap Q A;refine aO Y (bF aa Y λw5 co bj ds=>?_);have h5:=h.note h4 (X2 aa) X bw bj xD;exact aK func176 co Y ⟨⟨Xl R.c.bT size,Ey M (Xl R.c.bT size) who,Ex M (Xl R.c.bT size) who,none,0,[]⟩,rfl,rfl,F4,h5,(λz d=>(bi z d).imp id (λh=>xH a2.size)),(a2.gr.trans r).sn bj,noq _ _ _⟩
  .have b2:C5 R.c M who size=Ql R.c M size/\Bz R.c M who size=⟨0,0,0,[]⟩/\Ai R.c M who size=M:=by
    unfold C5 Bz Ai;rw[bJ C,bJ C,bJ C,bK n,bK n,bK n];exact⟨rfl,rfl,rfl⟩
   rw[b2.1,b2.2.1,b2.2.2];refine aM Y (xU n) (aO Y (bF P Y λw3 Q b3 dt=>?_));have o:=h.note h2 (X2 P) X A b3 xD;exact aK func176 Q Y ⟨⟨0,0,0,none,0,[]⟩,rfl,rfl,F,o,λz d=>.inl d,ag.gr.sn b3,noq 0 0 0⟩
theorem XkK(h:Ef F w lm lg):∃m,Y7 w lm m/\(∀n:Int,Dd lg n=none->Br m n=none)/\∀(n:Nat) r,(n,r)∈lg -> ∃a cap,Br m n=some (.slice a r.length cap)/\Rd .i64 w a (X3 r)/\Mh F w a:=by
 obtain⟨m,b,i,c,d⟩:=h;exact⟨m,b,λn f=>d n λe g=>Uz f e g,λn r hm=>c _ hm⟩
theorem Xnj(h:Zu F w R M)(q:Plc)(hq:Zw w q):Xe prog 162 #[Ck R,.agg (Xw q).toArray] w
 (λv w'=>v=W (H3 M (Xz q))/\H9 F w w' R (Yo M (Xz q))):=by
 refine aR func162 ntmps162 Y (bC Y λb w1 e1 C V c1=>?_);have b1:¬F b:=λc=>xH (h.low b c)
 have Q:=h.bQ V;replace C:w1.heap[b]?=some (.cells (Xw q).toArray 83 (0,0)):=C;have O:Xc F w w1:=V.gr;refine bB C Y ?_;by_cases D:q.cL=-1
 .have eD:H3 M (Xz q)=(match Dd M.lg q.cR with|none=>1|some r=>if X3 r=q.bS then 0 else 1)/\Yo M (Xz q)=(match Dd M.lg q.cR with|none=>M|some r=>if X3 r=q.bS then Iv M q.cR.toNat r else M):=by
   unfold H3 Yo Xz;exact⟨bJ (λh=>h D),bJ (λh=>h D)⟩
  rw[eD.1,eD.2];refine aI Y (by simp[D]) ?_;obtain⟨m,hm,b2,a6⟩:=XkK Q.lg;cases hg:Dd M.lg q.cR with
  |none=>
   simp only
   exact aQ 12 Xf xK Y λf=>aE f Q.obj Y (aE f C Y (Xd.lookup Xb f rfl (hm) (by first|(intro b h;cases h;assumption)|(intro b h hs;cases h;omega)) ((show Bv m _ _ true=.tuple #[.slice none 0 0,.bool false] from by unfold Bv;rw[b2 _ hg];rfl)) rfl (aF f Y λw2 d=>bI Y (bE func162 Y ⟨rfl,.of (Q.bQ d) (O.trans d.gr)⟩))))
  |some r=>
   simp only
   obtain⟨n,hn,j⟩:=Pc hg;obtain⟨a,cap,a8,ac,a9⟩:=a6 n r j;refine aQ 12 Xf xK Y λf=>aE f Q.obj Y (aE f C Y (Xd.lookup Xb f rfl (hm) (by first|(intro b h;cases h;assumption)|(intro b h hs;cases h;omega)) ((show Bv m _ _ true=.tuple #[.slice a r.length cap,.bool true] from by unfold Bv;rw[hn,a8];rfl)) rfl (aF f Y λw2 d=>aS Y ?_)));have h2:=Q.bQ d;have ad:=d.bP C;have c2:r.length<=1024:=by
    obtain⟨_,_,p3,_⟩:=Pq (l:=n::r) h.pool.cV (by
     obtain⟨A,B,eA,_⟩:=Pb h.ok.nd j;have e:Qc M.lg=Qc A++((n::r)++Qc B):=by rw[eA,Kt];rfl
     have t:=h.ok.nd;rw[e] at t;exact(XR.1 (XR.1 t).2.1).1) (λm p=>by
     obtain⟨D,g2⟩:=h.ok.lg m (Jb j p);exact⟨D,X⟩)
    have:=O7 h.pool.cV;simp only[XN] at p3;omega
   have hd:=XnZ a q.pa cap q.pc (X3 r) q.bS w2 (ac.bR d) ((hq.rd.bR V).bR d) (by rw[De];omega);rw[De] at hd;refine bB ad Y (bG hd Y λw3 E=>?_);have G:=h2.bQ E;have ae:=E.bP ad;have a0:=d.trans E;by_cases S:X3 r=q.bS
   .rw[bK S,bK S,hn,XA];refine aI Y (by rw[bN S];rfl) ?_;have bu:¬R.rb=R.lm:=λe=>h.rf (e▸h.lf);have b6:¬b=R.lm:=λe=>b1 (e▸h.lf);refine aQ 7 (λz=>z=R.lm) xK Y λf=>aE f G.obj Y (aE f ae Y (Xd.cK f rfl λw4 y=>?_));have T:=G.bQ y;obtain⟨m4,af,_⟩:=T.lg;refine Xo.mapdel Xb f rfl (af) (by first|(intro h;exact rfl)|(intro h;omega)) rfl λw5 b8 H c3=>aF f Y λw6 ag=>?_;have b9:=ag.bP (H.heap (y.bP ae) b6);refine bB b9 Y (Xa.buildSlice Xb rfl λb7 w7 e7 ba bb c4=>aN Y (Xa.buildSlice Xb rfl λob w8 e8 ah ai c5=>aN Y ?_));have bc:Ef (R.FX F) w5 R.lm (Dw M.lg n):=T.lg.del H (λm' h'=>by
     rw[h'.uniq af,<-hn];exact b8)
    have au:Xc Xf w6 w8:=bb.trans ai;have u:Xc Xf w5 w8:=ag.trans au;have bd:=bc.bR u (λ_ _ h=>h.elim) id;have a1:=Il T.lg;have be:Z6 w8 R.P M.pl:=(T.pool.bR H (Xr T.pool.kds.1 a1 xS) (Xr T.pool.kds.2 a1 xS)).bQ u;have bf:Rd .i64 w5 a (X3 r):=(((ac.bR d).bR E).bR y).bW (λb' off s e=>by
     have hk:=(a9 b' off s e).1;exact Xr (G6 y (G6 E (G6 d hk id) id) id) a1 xS) H
    have bh:=bf.bR u
    let ls:List Sl:=[⟨some ⟨b7,0,none⟩,1,[(n:Int)]⟩,⟨a,cap,X3 r⟩]
    have a2:C2 ls=X3 (n::r):=by show [(n:Int)]++(X3 r++[])=_;rw[QR];rfl
    have bi:(C2 ls).length=r.length+1:=by rw[a2,De];rfl
    have aj:=XnX ob ls w8 (λi hi=>by
     replace hi:i<2:=hi;rcases(show i=0\/i=1 by omega) with rfl|rfl
     .rw[Yx ah];rfl
     .rw[Yx ah];show some (Value.slice a r.length cap)=some (Value.slice a (X3 r).length cap)
      rw[De]) (λl hl=>by
     rcases ZC.1 hl with rfl|hl
     .have av:=ai.bP ba;exact Rd.of_cells λi hi=>by
       have:i=0:=by replace hi:i<1:=hi;omega
       subst this;rw[Yx av,hn];rfl
     .rw[QD] at hl;subst hl;exact bh) (by show 2<=1024;omega) X X
    rw[bi] at aj;refine aP Y (aj) ?_;rintro _ w9 ⟨g,c9,rfl,c6,ak,a3⟩;refine aN Y ?_;rw[a2] at ak;have bk:=be.bQ a3;have I:Xc (λz=>Az R.P z\/z=R.lm) w3 w9:=(((y.gr.trans (H.mono λ_ _ h=>.inr h)).trans u.gr).trans a3.gr);have al:∀z,(Az R.P z\/z=R.lm)->F z:=λz c=>c.elim (h.pf z) (λe=>e▸h.lf);have ab:=I.heap G.obj (λc=>h.rf (al _ c));have aw:¬Az R.P R.rb:=λc=>h.rf (h.pf _ c);refine Xa.loop (α:=Nat) (λi=>[(0,false,Ck R),(5,false,.slice a r.length cap),(54,false,.slice (some ⟨g,0,none⟩) (r.length+1) c9),(55,false,W ((r.length+1:Nat):Int)),(56,false,W i)])
     (λi w'=>i<=r.length+1/\Z6 w' R.P (A0 M.pl ((n::r).take i))/\Xc (Az R.P) w9 w') (λi=>r.length+1-i) 0 ⟨rfl,rfl,rfl,rfl,rfl,trivial⟩ ⟨XQ _,bk,Xc.refl _ _⟩ ?_
    rintro i bm ⟨hi,J,o⟩ ih;refine aN Y (aT Y (λa4=>?_) λa4=>?_)
    .have am:i<r.length+1:=xH (bL a4)
     have K:i<(n::r).length:=am;obtain⟨b',off',e',P⟩:=ak i (by rw[De];exact K);cases e'
     have ev:(X3 (n::r)).getD i 0=((n::r)[i]:Int):=by
      unfold X3;rw[XB,XO,XD K];rfl
     rw[ev] at P;have U:=o.cell P (λc=>by
      have:=G.pool.lt;have:=y.size;have:=u.size;rcases c with e|e <;> omega)
     refine aU i Y (aW Y U Y (bB (o.heap ab aw) Y (aP Y (Xb5 R.P _ (((n::r)[i]:Nat):Int) bm J) ?_)));rintro _ an ⟨_,ax,L⟩;refine aN Y (aV Y ?_);exact ih (i+1) _ _ ⟨am,by
      have e:A0 M.pl ((n::r).take (i+1))=H1 (A0 M.pl ((n::r).take i)) (((n::r)[i]:Nat):Int):=by
       rw[ZI,XD K];unfold A0;rw[List.foldl_append];rfl
      rw[e];exact ax,o.trans L⟩ X ⟨rfl,rfl,rfl,rfl,rfl,trivial⟩
    .have bn:i=r.length+1:=xH (bM a4)
     subst bn;have etk:(n::r).take (r.length+1)=n::r:=ZM (l:=n::r);rw[etk] at J;obtain⟨bo,_⟩:=h.ok.cE h.pool.cV j;have ay:=(bd.bR a3 (λ_ _ h=>h.elim) id).bR o (λz _ c=>.inl (h.pf z c)) (λc=>by
      have ao:=Il G.lg;have kp:=G.pool.kds;rcases c with e|e
      .exact Xr ao kp.1 xS e
      .exact Xr ao kp.2 xS e)
     have t:(n::r).Nodup:=by
      obtain⟨A,B,eA,_⟩:=Pb h.ok.nd j;have e:Qc M.lg=Qc A++((n::r)++Qc B):=by rw[eA,Kt];rfl
      have t:=h.ok.nd;rw[e] at t;exact(XR.1 (XR.1 t).2.1).1
     have N:∀m∈n::r,m<M.pl.own.length/\M.pl.own.getD m 0=(M.shs.length:Int):=λm p=>h.ok.lg m (Jb j p);have ap:=G.swap (pl':=A0 M.pl (n::r)) (lg':=Dw M.lg n) {bo with tot:=h.ok.tot} (I.trans (o.mono λ_ _ h=>.inl h)) J ay (λk x hx bq=>by
      have hk:k<M.shs.length:=(XC.1 hx).1;have c7:=(h.ok.cI k x hx).1;exact Xf8 h.pool.cV t (λm p=>⟨(N m p).1,xH (N m p).2⟩) bq (λm p=>xH (N m p).2))
     refine bB ap.obj Y (aV Y (aV Y (aV Y (aV Y ?_))));rw[show((r.length:Nat):Int)*1=(r.length:Int) from by omega];refine aP Y (V8 ap ((((r.length:Nat):Int)+1)*4+(r.length:Int))) ?_;rintro _ an ⟨a5,L⟩;refine aN Y ?_;replace a5:Zu F an R (Iv M n r):=a5;have az:Xc F w w3:=O.trans a0.gr;exact bE func162 Y ⟨rfl,.of a5 (((az.trans (I.mono λz _ c=>al z c)).trans (o.mono λz _ c=>h.pf z c)).trans L)⟩
   .rw[bJ S,bJ S];exact aM Y (by rw[bO S];rfl) (bE func162 Y ⟨rfl,.of G (O.trans a0.gr)⟩)
 .have eD:H3 M (Xz q)=J9 M q.cL q.cR q.idx/\Yo M (Xz q)=Qw M q.cL q.cR q.idx:=by
   unfold H3 Yo Xz;exact⟨bK D,bK D⟩
  rw[eD.1,eD.2];refine aM Y (xU D) (bB C Y (bB C Y (bB C Y ?_)));refine aP rfl (Xg1 Q q.cL q.cR q.idx) ?_;rintro _ w2 ⟨rfl,hT⟩;exact aN Y (bE func162 Y ⟨rfl,H9.trans (λz c=>.inl c) O hT⟩)
theorem Qx.note{S:Sh}{pl:PlM}(h:Qx w S G x pl){eb:Nat}(hk:kd w eb=some (some t))(hc:Xc (λz=>z=eb) w w')(htb:1≠eb)(ht:t≠291/\t≠337/\t≠314/\t≠352/\t≠357/\t≠359/\t≠348/\t≠375):Qx w' S G x pl:=by
 have d:∀{t':Nat},t≠t'->some (some t)≠some (some t'):=λh e=>h (Option.some.inj (Option.some.inj e));have kp:=h.pool.kds;have ap:=h.at'.apart hk ht.2.2;exact⟨h.ok,h.pos,h.of,h.at'.bR hc (λz e=>e▸ap.1) (λz e=>e▸ap.2) htb,h.pool.bR hc (Xr kp.1 hk (Ne.symm (d ht.1))) (Xr kp.2 hk (Ne.symm (d ht.2.1)))⟩
theorem Qx.own{S:Sh}{pl:PlM}(h:Qx w S G x pl)(ho:Xm base 245 1 w v m xs)(hc:Xc (J3 v) w w')(htb:1<base):Qx w' S G x pl:=by
 rcases ho.2 with⟨rfl,_⟩|⟨g,cap,cur,rfl,b,a,_⟩
 .exact h.bQ (hc.mono λz _ e=>by cases e)
 .exact h.note (X2 a) (hc.mono λz _ e=>Option.some.inj e) X xD
def Hb(c:Conf)(n:Nat):List Sm:=(List.range n).map λk=>Sk (k:Nat) (A8 c (k:Nat)).toNat
def Io(c:Conf)(tot:Int):RmM:=⟨Hb c c.bT.length,D0 c.bS.toNat,[],tot⟩
theorem Pk(h:(Hb c n)[k]?=some x):k<n/\x=Sk (k:Nat) (A8 c (k:Nat)).toNat:=by
 unfold Hb at h;rw[XO,QN] at h;obtain⟨j,d,e⟩:=h;obtain⟨a,b⟩:=XC.1 d;simp only[ZK] at a;rw[List.getElem_range] at b;subst b;exact⟨a,e.symm⟩
theorem XfI(c:Conf):∀n,Jl (Hb c n)=0
 |0=>rfl
 |n+1=>by
  have:=XfI c n;unfold Jl Hb at *;rw[YQ,XM,XM,List.sum_append,this];rfl
theorem XaU(h:Xy c=true)(hk:k<c.bT.length):1<=A8 c k/\A8 c k<=512:=by
 have g:=(Zr h).size;have a:A9 c.bT c.size=true:=by
  unfold Xy at h;simp only[XI,decide_eq_true_eq] at h;exact h.1.1.1.1.1.2
 obtain⟨d,_,i⟩:=Ou a k hk;unfold A8;rw[bK X,XA,Xaj X X];constructor
 .exact(Int.le_ediv_iff_mul_le X).2 X
 .have j:c.size/c.bT.getD k 0<=c.size/8:=by
   refine Int.le_ediv_of_mul_le X ?_;have l:=Int.ediv_mul_le c.size (b:=c.bT.getD k 0) X;have f:0<=c.size/c.bT.getD k 0:=ZY X X;have m:=Int.mul_le_mul_of_nonneg_left d f;omega
  omega
theorem Xll(h:Xy c=true){tot:Int}(ht:0<=tot/\tot<=4611686018427387904):(Io c tot).Ok c:=by
 have d:=(Zr h).bS;refine⟨by show(Hb c _).length=_;unfold Hb;simp,λk x a=>?_,?_,(λm hm=>by cases hm),QB,?_,ht⟩
 .obtain⟨b,rfl⟩:=Pk a;have:=XaU h b;exact⟨rfl,by show(((A8 c k).toNat:Nat):Int)=_;omega⟩
 .show(((List.replicate c.bS.toNat (-1:Int)).length:Nat):Int)=_
  rw[XJ];omega
 .show Zd (D0 c.bS.toNat)=Jl (Hb c _)+0
  rw[XfI];exact Ip _
theorem Xnk(c:Conf)(p:Yz)(mo:Option Nat)(tot dA:Int)(xX:Nat->Prop)(w:dD)(hc:Yd w c p)(ht:Bk w)(hX:∀z,xX z->z<w.heap.size/\mo≠some z)(hmo:∀b,mo=some b->Bi w b tot dA/\A5 (λz=>z=b) w p.ca c.bT/\A5 (λz=>z=b) w p.ka c.bV)(htot:0<=tot/\tot<=4611686018427387904):Xe prog 118 #[.agg (X5 c p).toArray,Jj mo] w (λv w'=>Xc Xf w w'/\if Xy c=true then ∃F R,R.c=c/\R.p=p/\R.mo=mo/\v=.tuple #[Ck R,W 0]/\Zu F w' R (Io c tot)/\(∀z,F z->w.heap.size<=z\/mo=some z)/\R.dA=dA/\R.xX=xX else v=.tuple #[.pointer none,W 1]):=by
 have c7:maxLen=9223372036854775807:=rfl;refine aR func118 ntmps118 Y (bC Y λcb w1 e1 ao a8 c8=>?_);refine bB ao Y (bG (Xa8 c p w1 (hc.bR a8)) Y λw2 Q=>?_);have a9:=Q.bP ao;by_cases hm:Xy c=true
 .have em:Bw c=0:=by unfold Bw;rw[bK hm]
  have hf:=Zr hm;have c9:=hf.n;have ca:=hf.bS;rw[em];simp only[hm,if_true];refine aS Y (bB a9 Y ?_);obtain⟨N,hN⟩:=XE (show 0<=c.bS by omega);rw[hN];refine aP Y (XlS N w2 X) ?_;rintro _ w3 ⟨P,rfl,⟨cc,cd⟩,aq,aa⟩;have ab:=aa.bP a9;have br:=aq.lt;refine aN Y (bB ab Y (Xa.mkmap rfl λlm w4 e4 bb ac ce=>aN Y (aO Y (bC Y λrb J e5 ar T cf=>?_))));have cg:=Q.size;have ch:=aa.size;have ad:=T.bP (ac.bP ab);have K:=(((a8.trans Q).trans aa).trans ac).trans T;have bs:1<w.heap.size:=World.block_lt_of_cell? w _ (ht 0 xD);have bc:Z6 J P (D0 N):=(aq.bQ ac).bQ T;refine Xa.cJ Xb rfl ad rfl rfl ?_;refine Xa.loop (α:=Nat×dE×List Sh) (λx=>[(2,false,xV cb),(7,false,Ff P),(8,false,W 0),(9,false,xV rb),(32,false,W c.bT.length),(33,false,W x.1)])
   (λx w'=>x.1<=c.bT.length/\x.2.2.length=x.1/\w'.heap[rb]?=some (.cells (X5 c p++[Jj mo,Ff P,x.2.1,.map (some lm)]).toArray 221 (0,0))/\Xm J.heap.size 245 1 w' x.2.1 x.1 (x.2.2.map Cl)/\
    (∀(k:Nat) (S:Sh),x.2.2[k]?=some S->S.P=P/\(∀G,Qx w' S G (Sk (k:Nat) (A8 c (k:Nat)).toNat) (D0 N))/\∀G z,Qn S G [] z->J.heap.size<=z/\z<w'.heap.size)/\
    (∀(j k:Nat) (S S':Sh),j<k->x.2.2[j]?=some S->x.2.2[k]?=some S' -> ∀G G' z,Qn S G [] z -> ¬Qn S' G' [] z)/\Xc (λz=>z=rb) J w') (λx=>c.bT.length-x.1) (0,.slice none 0 0,[]) ⟨rfl,rfl,rfl,rfl,rfl,rfl,trivial⟩ ⟨XQ _,rfl,ar,⟨rfl,.inl ⟨rfl,rfl⟩⟩,(λk S h=>by cases h),(λj k S S' _ h=>by cases h),Xc.refl _ _⟩ ?_
  rintro⟨i,v,ls⟩ I ⟨hi,ae,B,U,n,C,r⟩ ih;simp only at hi ae B U n C
  have f:Xc Xf w I:=K.sn r;have au:Z6 I P (D0 N):=bc.bR r X X;refine aN rfl ?_;refine Xa.fork Xb rfl rfl rfl (λaf=>?_) (λaf=>?_)
  .have ag:i<c.bT.length:=xH (bL af)
   have ci:=XaU hm ag;obtain⟨bk,ah⟩:=XE (show 0<=A8 c i by omega);refine Xa.loads Xb rfl (r.heap ad X) rfl rfl ?_;refine aP rfl (Xek c p (i:Nat) I (hc.bR f)) ?_;rintro _ w7 ⟨rfl,V⟩;refine aN rfl ?_;rw[ah];refine aP rfl (XnG P (D0 N) (i:Nat) bk w7 (ht.bQ (f.trans V)) X X (au.bQ V)) ?_;rintro _ w8 ⟨S,bd,rfl,av,d,aw⟩;refine aN rfl ?_;have ai:=V.trans aw;refine Xa.cJ Xb rfl (ai.bP B) rfl rfl ?_;refine Xa.buildSlice Xb rfl ?_;intro b9 w9 e9 be ax cj;refine aN rfl ?_;have t:=ai.trans ax;have a0:=U.bR t (λ_ _ h=>h);have bv:=r.size;have bw:=t.size;refine Xa.append (base:=J.heap.size) (xs:=ls.map Cl) (news:=[Cl S]) Xb rfl a0 X xS (Hs be) (by simp[Value.oneCell']) ⟨X,by show(i+1)*8<=_;omega⟩ ?_;intro v' ck L D bx;refine aN rfl ?_;have bn:=Xg ar;have b4:¬J3 v rb:=λe=>xH (World.ownsRow.lt a0 _ e.symm).1
   have a4:=D.heap (t.bP B) b4;obtain⟨g',cap',cur',rfl,_⟩:=L.form X;refine Xa.store Xb rfl a4 rfl rfl ?_;intro aj E M bz;refine aN rfl ?_;replace E:aj.heap[rb]?=some (.cells (X5 c p++[Jj mo,Ff P,.slice (some ⟨g',0,none⟩) (i+1) cap',.map (some lm)]).toArray 221 (0,0)):=E;refine Xa.arith Xb rfl (w64 X) rfl ?_;have bo:=D.size;have ay:∀{S':Sh} {G:Nat->Pg} {x:Sm} {pl:PlM},Qx w9 S' G x pl->Qx aj S' G x pl:=λh=>(h.own a0 D (xH K.size)).note (X2 a4) M (xH K.size) xD;have am:Xc (λz=>z=rb) J aj:=((r.trans t.gr).bU D (λz hz e=>xH (World.ownsRow.lt a0 _ e.symm).1)).trans M;have c0:=aw.size;have c1:=V.size;exact ih (i+1,.slice (some ⟨g',0,none⟩) (i+1) cap',ls++[S]) _ _ ⟨ag,by simp[ae],E,by
    have:=L.bR M (λz hz e=>by
     subst e;have:=(World.ownsRow.lt L _ hz.symm).1;omega)
    simpa using this,λk S' m=>by
    by_cases e:k<ls.length
    .rw[ZA e] at m;obtain⟨a1,a2,a3⟩:=n k S' m;exact⟨a1,λG=>ay ((a2 G).bQ t),λG z hz=>by obtain⟨b1,b2⟩:=a3 G z hz;exact⟨b1,X⟩⟩
    .rw[YC X] at m;have e2:k=ls.length:=by
      have:=(XC.1 m).1;simp only[List.length_singleton] at this;omega
     subst e2;simp only[Nat.sub_self,List.getElem?_cons_zero,Option.some.injEq] at m;subst m;refine⟨bd,λG=>ay ?_,λG z hz=>?_⟩
     .rw[ae,ah,XA];exact(d G).bQ ax
     .have g1:=av G z hz;have g2:=(λG=>(d G).foot_lt) G z (.inl hz);exact⟨X,X⟩,λj k S1 S2 a5 h1 h2 G G' z hz=>by
    by_cases e:k<ls.length
    .rw[ZA e] at h2;rw[ZA X] at h1;exact C j k S1 S2 a5 h1 h2 G G' z hz
    .rw[YC X] at h2;have e2:k=ls.length:=by
      have:=(XC.1 h2).1;simp only[List.length_singleton] at this;omega
     subst e2;simp only[Nat.sub_self,List.getElem?_cons_zero,Option.some.injEq] at h2;subst h2;rw[ZA a5] at h1;have g1:=((n j S1 h1).2.2 G z hz).2;exact λu=>xH (av G' z u),am⟩ xP ⟨rfl,rfl,rfl,rfl,rfl,rfl,trivial⟩
  .have bi:i=c.bT.length:=xH (bM af)
   subst bi;obtain⟨g,cap,cur,rfl,cl,az,_⟩:=U.form X;have cm:=Xg az;have c4:=r.size
   let q:Nat->Pg:=λ_=>⟨0,0,0⟩
   let R:Rm:=⟨rb,c,p,mo,P,g,cap,lm,λk=>ls.getD k ⟨0,0,⟨0,0,0⟩,P⟩,dA,xX⟩
   let F:Nat->Prop:=λz=>(∃(k:Nat) (S:Sh),ls[k]?=some S/\Qn S q [] z)\/Az P z\/z=lm\/mo=some z
   have o:∀z,F z->(w.heap.size<=z/\z<I.heap.size)\/mo=some z:=λz hz=>by
    rcases hz with⟨k,S,d,hz⟩|hz|hz|hz
    .obtain⟨b1,b2⟩:=(n k S d).2.2 q z hz;exact .inl ⟨X,b2⟩
    .rcases hz with e|e <;> exact .inl ⟨X,X⟩
    .exact .inl ⟨X,X⟩
    .exact .inr hz
   have O:∀b,mo=some b->b<w.heap.size:=λb A=>by
    obtain⟨hm,_⟩:=hmo b A;exact Xg hm.1
   have ak:∀{a:Option dF} {l:List Int},Rd .i64 w a l->(∀b,mo=some b->A5 (λz=>z=b) w a l)->A5 F I a l:=λ{a l} hr A=>⟨hr.bR f,λhl b off s e hz=>by
    have ag:=hr.block hl e;rcases o b hz with⟨h,_⟩|h
    .omega
    .exact(A b h).2 hl b off s e rfl⟩
   have a6:∀(k:Nat) (S:Sh),ls[k]?=some S->R.S k=S:=λk S h=>by
    show ls.getD k _=S
    rw[XB,h];rfl
   have H:∀(k:Nat),k<c.bT.length -> ∃S,ls[k]?=some S:=λk m=>⟨_,XD X⟩;have b0:(Hb c c.bT.length).length=c.bT.length:=by unfold Hb;simp
   exact Xa.ret2 Xb rfl func118 rfl rfl rfl ⟨f,F,R,rfl,rfl,rfl,rfl,⟨Xll hm htot,by show I.heap[rb]?=some (.cells (rmL R (Hb c c.bT.length).length).toArray _ _);rw[b0];exact B,ak hc.bT (λb A=>(hmo b A).2.1),ak hc.bV (λb A=>(hmo b A).2.2),hm,
    λb A=>⟨.inr (.inr (.inr A)),by obtain⟨h,_⟩:=hmo b A;exact h.bR f⟩,λk m=>by
     replace m:k<(Hb c c.bT.length).length:=m;rw[b0] at m;obtain⟨S,d⟩:=H k m;have:=(World.ownsRow.cells U (g:=g) rfl) k (Cl S) (by rw[XO,d];rfl);rw[C0] at this;rw[a6 k S d]
     simpa using this,by show Z6 I P (D0 c.bS.toNat);rw[hN,XA];exact au,λz hz=>.inr (.inl hz),⟨λ_=>q,λk x hx=>by
     obtain⟨m,rfl⟩:=Pk hx;obtain⟨S,d⟩:=H k m;obtain⟨a1,a2,a3⟩:=n k S d;rw[a6 k S d];refine⟨a1,by show Qx I S q _ (D0 c.bS.toNat);rw[hN,XA];exact a2 q,λz hz=>⟨.inl ⟨k,S,d,hz⟩,λe=>?_⟩⟩;have:=(a3 q z hz).1;have e':z=lm:=e;omega,λj k x y a5 hx hy z hz u=>by
     obtain⟨hj,rfl⟩:=Pk hx;obtain⟨m,rfl⟩:=Pk hy;obtain⟨S,d⟩:=H j hj;obtain⟨S',al⟩:=H k m;rw[a6 j S d] at hz;rw[a6 k S' al] at u;rcases Nat.lt_or_gt_of_ne a5 with h|h
     .exact C j k S S' h d al q q z hz u
     .exact C k j S' S h al d q q z u hz⟩,⟨[],(bb.bR T id).bR r X,QB,(λe he=>by cases he),λ_ _=>rfl⟩,.inr (.inr (.inl rfl)),λhz=>by
     rcases hz with⟨k,S,d,hz⟩|hz|hz|hz
     .have:=((n k S d).2.2 q _ hz).1;replace this:J.heap.size<=rb:=this;omega
     .rcases hz with e|e
      .replace e:rb=P.pb:=e;omega
      .replace e:rb=P.ab:=e;omega
     .replace hz:rb=lm:=hz;omega
     .have:=O _ hz;replace this:rb<w.heap.size:=this;omega,λhz=>by
     rcases hz with⟨k,S,d,hz⟩|hz|hz|hz
     .have ap:=((n k S d).2.1 q).at'.apart (X2 az) xD;rcases hz with e|e|e|⟨e,he,_⟩
      .exact ap.1.1 e
      .exact ap.1.2.1 e
      .exact ap.1.2.2.2 e
      .cases he
     .rcases hz with e|e
      .replace e:g=P.pb:=e;omega
      .replace e:g=P.ab:=e;omega
     .replace hz:g=lm:=hz;omega
     .have:=O _ hz;replace this:g<w.heap.size:=this;omega,λz hz=>by
     rcases o z hz with⟨_,h⟩|h
     .exact h
     .have:=O z h;have:=f.size;omega,ht.bQ f,λhz=>by
     rcases o _ hz with⟨h,_⟩|h
     .omega
     .obtain⟨bm,_⟩:=hmo _ h;exact L9 ht (λv e=>by rw[Yx bm.1] at e;simp at e) rfl,λz hz=>⟨xI (hX z hz).1 f.size,λu=>by
     rcases o z u with⟨h,_⟩|h
     .have:=(hX z hz).1;omega
     .exact(hX z hz).2 h⟩⟩,λz hz=>(o z hz).imp (·.1) id,rfl,rfl⟩
 .have em:Bw c=1:=by unfold Bw;rw[bJ hm]
  rw[em];simp only[hm];exact bI Y (bE func118 Y ⟨a8.trans Q,rfl⟩)
section
variable {α:Type}{cells:α->List dE}{sz:Nat}
def fl(cells:α->List dE)(xs:List α):List dE:=xs.flatMap cells
theorem O1:fl cells []=[]:=rfl
theorem O0(xs ys:List α):fl cells (xs++ys)=fl cells xs++fl cells ys:=by unfold fl;rw[List.flatMap_append]
theorem R3(x:α):fl cells [x]=cells x:=by unfold fl;simp
theorem Jz(hl:∀x,(cells x).length=sz):∀xs:List α,(fl cells xs).length=xs.length*sz
 |[]=>by simp[fl]
 |x::r=>by
  have:=Jz hl r;unfold fl at *;rw[ZV,ZE,this,hl,XN,An];omega
theorem Un(hl:∀x,(cells x).length=sz){j:Nat}(hj:j<sz):∀(xs:List α) (i:Nat) (x:α),xs[i]?=some x->(fl cells xs)[i*sz+j]?=(cells x)[j]?
 |[],i,x,h=>by simp at h
 |y::r,0,x,h=>by
  cases h
  unfold fl;rw[ZV,Nat.zero_mul,XT,ZA (by rw[hl];exact hj)]
 |y::r,i+1,x,h=>by
  have:=Un hl hj r i x h;unfold fl at *;rw[ZV,YC (by rw[hl,An];omega),hl,<-this]
  congr 1
  rw[An];omega
theorem Rows.news{xs:List α}(h:Rows cells sz w a xs)(hl:∀x,(cells x).length=sz)(hz:0<sz):∀i u,(fl cells xs)[i]?=some u -> ∃a',a=some a'/\w.cell? (a'.add i)=some u:=λi u c=>by
 have hi:i<xs.length*sz:=by rw[<-Jz hl];exact(XC.1 c).1
 have d:i/sz<xs.length:=(QQ hz).2 hi;have hr:i%sz<sz:=YW _ hz;have e:i/sz*sz+i%sz=i:=by rw[YJ];exact YG i sz
 obtain⟨b,off,rfl,g⟩:=h (i/sz) xs[i/sz] (XD d);have f:=Un hl hr xs (i/sz) xs[i/sz] (XD d);rw[e,c] at f;refine⟨_,rfl,?_⟩;rw[C0];have:=g (i%sz) u f.symm;rw[YX,e] at this;exact this
theorem Rows.noneA{xs:List α}(h:Rows cells sz w a xs):a=none->xs.length=0:=λe=>by
 cases xs with
 |nil=>rfl
 |cons l r=>
  obtain⟨b,off,e',_⟩:=h 0 l rfl;rw[e] at e';cases e'
theorem O2(hp:∀x,∀u∈cells x,u.oneCell'=true)(xs:List α):∀u∈fl cells xs,u.oneCell'=true:=λu a=>by
 unfold fl at a;obtain⟨x,_,h⟩:=List.mem_flatMap.1 a;exact hp x u h
theorem P7{xs:List α}(h:w.heap[g]?=some (.cells (fl cells xs++rest).toArray t fz))(hl:∀x,(cells x).length=sz):Rows cells sz w (some ⟨g,0,none⟩) xs:=λi x a=>by
 refine⟨g,0,rfl,λj v b=>?_⟩;have c:j<sz:=by have:=(XC.1 b).1;rw[hl] at this;exact this
 rw[Yx h,XT,QA,ZA,Un hl c xs i x a]
 .exact b
 .rw[Jz hl];have:(i+1)*sz<=xs.length*sz:=Nat.mul_le_mul_right _ ((XC.1 a).1);rw[An] at this;omega
theorem Xm.rowsN{xs:List α}(h:Xm base t sz w v n (fl cells xs))(hl:∀x,(cells x).length=sz)(hn:xs.length=n):∃a cap,v=.slice a xs.length cap/\Rows cells sz w a xs/\Yw w a/\xs.length<=cap/\∀b off s,a=some ⟨b,off,s⟩->base<=b:=by
 rcases h.2 with⟨rfl,m⟩|⟨g,cap,cur,rfl,j,d,c,k,_,f⟩
 .have:xs=[]:=ZZ.1 X;subst this;exact⟨none,0,rfl,(λi l hl=>by simp at hl),(by intro b off s e;cases e),XF _,(by intro b off s e;cases e)⟩
 .subst hn;refine⟨some ⟨g,0,none⟩,cap,rfl,P7 (rest:=cur.toList.drop (xs.length*sz)) (t:=t) (fz:=(0,0)) ?_ hl,(by intro b off s e;cases e;exact Xg d),c,(by intro b off s e;cases e;exact j)⟩;rw[d,<-f,XY]
theorem XcC:∀(A old vs B:List dE),old.length=vs.length->Ya (A++(old++B)) A.length vs=some (A++(vs++B))
 |[],[],[],B,_=>by cases B <;> rfl
 |[],o::old,v::vs,B,h=>by
  have:=XcC [] old vs B (xU h);simp only[ZQ,List.length_nil] at this;show Ya (o::(old++B)) 0 (v::vs)=_
  unfold Ya;rw[this];rfl
 |x::A,old,vs,B,h=>by
  have:=XcC A old vs B h;show Ya (x::(A++(old++B))) (A.length+1) vs=_
  unfold Ya;rw[this];rfl
theorem R4(hl:∀x,(cells x).length=sz){xs:List α}{y:α}(hk:k<xs.length):Ya (fl cells xs++rest) (0+k*sz) (cells y)=some (fl cells (xs.set k y)++rest):=by
 have e1:xs=xs.take k++(xs[k]::xs.drop (k+1)):=by rw[<-ZT hk,XY]
 have a:(fl cells (xs.take k)).length=0+k*sz:=by rw[Jz hl,XX,Nat.min_eq_left X,XT]
 have f1:∀z,fl cells (xs.take k++(z::xs.drop (k+1)))++rest=fl cells (xs.take k)++(cells z++(fl cells (xs.drop (k+1))++rest)):=λz=>by
  rw[O0];unfold fl;rw[ZV];simp only[List.append_assoc]
 rw[(List.set_eq_take_append_cons_drop.trans (bK hk)),f1 y,<-a]
 conv=>lhs;rw[e1,f1 xs[k]]
 rw[show(xs.take k++xs[k]::xs.drop (k+1)).take k=xs.take k from by rw[<-e1]];exact XcC _ _ _ _ (by rw[hl,hl])
end
structure RR where
 c:Conf
 cp:Yz
 p:RP
 ss:List RS
 sa:Option dF
 scap:Nat
 lg:List Plc
 la:Option dF
 lcap:Nat
 cM:Int
def Ba(r:RR):List dE:=X5 r.c r.cp++[Xq r.p.o,Xq r.p.f,.slice r.sa r.ss.length r.scap,.slice r.la r.lg.length r.lcap,.int .i64 r.cM]
def lgP(e:Nat×List Nat):PlcM:=⟨-1,(e.1:Nat),0,X3 e.2⟩
structure Jt(M:RmM):Prop where
 sh:∀(k:Nat) (x:Sm),M.shs[k]?=some x->x.Ok/\x.Of M.pl
 cV:M.pl.Good
theorem Zu.cU(h:Zu F w R M):Jt M:=⟨λk x b=>by
 obtain⟨G,_,a,_⟩:=h.shelf b;exact⟨a.ok,a.of⟩,h.pool.cV⟩
structure Qi(w:dD)(r:RR)(M:RmM):Prop where
 p:At w r.p M.pl
 sr:Rows Ze 7 w r.sa r.ss
 sl:Yw w r.sa
 sc:r.ss.length<=r.scap
 n:r.ss.length=M.shs.length
 few:r.ss.length<=16
 cI:∀(k:Nat) (s:RS) (x:Sm),r.ss[k]?=some s->M.shs[k]?=some x -> ∃pk,Qg w s x pk/\x.Of pk
 lr:Rows Xw 4 w r.la r.lg
 ll:Yw w r.la
 lc:r.lg.length<=r.lcap
 lm:r.lg.length<=1024
 lge:r.lg.map Xz=M.lg.map lgP
 lgo:∀q∈r.lg,Zw w q/\Yw w q.pa
 st:r.cM=M.tot
structure Da(S:Nat->Prop)(r:RR):Prop where
 o:Xj S r.p.o.a
 f:Xj S r.p.f.a
 sa:Xj S r.sa
 cI:∀s∈r.ss,Yq S s
 la:Xj S r.la
 lgo:∀q∈r.lg,Xj S q.pa
theorem Rows.bW{xs:List α}(h:Rows cells sz w a xs)(hs:Xj S a)(hc:Xc S w w'):Rows cells sz w' a xs:=λi x d=>by
 obtain⟨b,off,e,c⟩:=h i x d;exact⟨b,off,e,λj v f=>hc.cell (c j v f) (hs b off _ e)⟩
theorem Qi.bQ{w w':dD}{r:RR}{M:RmM}(h:Qi w r M)(hc:Xc Xf w w'):Qi w' r M:=
 ⟨h.p.bQ hc,h.sr.bR hc,h.sl.bQ hc.size,h.sc,h.n,h.few,λk s x d f=>by obtain⟨pk,a,b⟩:=h.cI k s x d f;exact⟨pk,a.bQ hc,b⟩,h.lr.bR hc,h.ll.bQ hc.size,h.lc,h.lm,h.lge,λq c=>⟨(h.lgo q c).1.bQ hc,(h.lgo q c).2.bQ hc.size⟩,h.st⟩
theorem Qi.bW{w w':dD}{r:RR}{M:RmM}{S:Nat->Prop}(h:Qi w r M)(ho:Da S r)(hc:Xc S w w'):Qi w' r M:=
 ⟨⟨h.p.o.bW ho.o hc,h.p.f.bW ho.f hc,h.p.eo,h.p.ef⟩,h.sr.bW ho.sa hc,h.sl.bQ hc.size,h.sc,h.n,h.few,λk s x d f=>by obtain⟨pk,a,b⟩:=h.cI k s x d f;exact⟨pk,a.bW (ho.cI s (XW d)) hc,b⟩,h.lr.bW ho.la hc,h.ll.bQ hc.size,h.lc,h.lm,h.lge,λq c=>⟨⟨(h.lgo q c).1.rd.bW (ho.lgo q c) hc,(h.lgo q c).1.len⟩,(h.lgo q c).2.bQ hc.size⟩,h.st⟩
theorem Qi.out{w:dD}{r:RR}{M:RmM}{S:Nat->Prop}(h:Qi w r M)(hs:∀z,S z->w.heap.size<=z):Da S r:=
 ⟨h.p.o.lt.out hs,h.p.f.lt.out hs,h.sl.out hs,λs hm=>by
  obtain⟨k,b,rfl⟩:=QV hm;obtain⟨pk,a,_⟩:=h.cI k _ _ (XD b) (XD (by rw[<-h.n];exact b));exact a.out hs,h.ll.out hs,λq c=>(h.lgo q c).2.out hs⟩
def A6(w:dD)(r r':RR):Prop:=r'.c=r.c/\r'.cp=r.cp/\∀S:Nat->Prop,(∀z,S z->z<w.heap.size)->Da S r->Da S r'
theorem A6.refl(w:dD)(r:RR):A6 w r r:=⟨rfl,rfl,λ_ _ h=>h⟩
theorem Qg.setP{s:RS}{pl:PlM}{p':RP}(h:Qg w s x pl)(hp:At w p' pl'):Qg w {s with p:=p'} x pl':=⟨hp,h.cP,h.cG,h.rp,h.plt,h.pcap,h.cI,h.e1,h.e2,h.e3,h.e4,h.e5⟩
abbrev Yv(w:dD)(b:Nat)(r:RR):Prop:=w.heap[b]?=some (.cells (Ba r).toArray 38 (0,0))
theorem Pv(r:RR)(k:Int)(w:dD):Xe prog 216 #[.agg (Ba r).toArray,W k] w (Grow (.bool (decide (0<=k) && decide (k<r.ss.length))) w):=by
 refine aR func216 ntmps216 Y (bC Y λb g e1 d a f=>?_);refine aT Y (λc=>?_) λc=>?_
 .refine bB d Y ?_;rw[bN (bL c),YM];exact bE func216 Y ⟨rfl,a⟩
 .rw[bO (bM c),QE];exact bE func216 Y ⟨rfl,a⟩
theorem Xci(r:RR)(M:RmM)(k:Nat)(s:RS)(w:dD)(h:Qi w r M)(hk:r.ss[k]?=some s):Xe prog 220 #[.agg (Ba r).toArray,W (k:Int)] w (Grow (.agg (Ze {s with p:=r.p}).toArray) w):=by
 have A:=(XC.1 hk).1;refine aR func220 ntmps220 Y (bC Y λb H e1 m n B=>bC Y λob I e2 o c C=>?_);have d:=n.trans c;obtain⟨sb,soff,q,f⟩:=(h.sr.bR d) k s hk;refine bB (c.bP m) Y ?_;rw[q];refine aU (k*7) Y (Xa.loadC Xb (Ze s) rfl xT (f) rfl (bC Y λtb J e3 t u D=>bF t Y λK i v E=>?_));have a:=u.sn v;refine bB (a.bP (c.bP m)) Y (bF i Y λL j g F=>?_);refine bB j Y ?_;refine bF (g.heap (a.bP o) X) Y λN l y G=>?_;exact aK func220 l Y ⟨rfl,((d.trans a).sn g).sn y⟩
theorem Tg(s:RS):(Ze s).length=7:=rfl
theorem XcA(s:RS):∀u∈Ze s,u.oneCell'=true:=λu a=>by
 simp only[Ze,ZC,List.mem_nil_iff,or_false] at a;rcases a with rfl|rfl|rfl|rfl|rfl|rfl|rfl <;> rfl
theorem XmW(r:RR)(k:Nat)(s:RS)(w:dD)(hsr:Rows Ze 7 w r.sa r.ss)(hk:k<r.ss.length)(hl:r.ss.length<=16)(h1:r.p.f.x.length<=1024)(h2:s.p.f.x.length<=1024)(h3:0<=r.cM/\r.cM<=4611686018427387904):Xe prog 221 #[.agg (Ba r).toArray,W (k:Int),.agg (Ze s).toArray] w
 (λv w'=>∃sa' scap',v=.agg (Ba {r with sa:=sa',scap:=scap',ss:=r.ss.set k s,p:=s.p,cM:=r.cM+(3+(max (r.p.f.x.length:Int) s.p.f.x.length-min (r.p.f.x.length:Int) s.p.f.x.length)*4)}).toArray/\Rows Ze 7 w' sa' (r.ss.set k s)/\Yw w' sa'/\(r.ss.set k s).length<=scap'/\Bg w sa'/\Xc Xf w w'):=by
 have aj:maxLen=9223372036854775807:=rfl;obtain⟨c,cp,p,ss,sa,scap,lg,la,lcap,cM⟩:=r;simp only at hk hl hsr h1 h3
 refine aR func221 ntmps221 Y (bC Y λrb w1 e1 f H ak=>bC Y λqb w2 e2 m n al=>bC Y λob K e3 a3 i am=>?_);replace f:w1.heap[rb]?=some (.cells (X5 c cp++[Xq p.o,Xq p.f,.slice sa ss.length scap,.slice la lg.length lcap,W cM]).toArray 38 (0,0)):=f;replace m:w2.heap[qb]?=some (.cells (Ze s).toArray 253 (0,0)):=m;refine Xa.buildSlice Xb rfl ?_;intro b4 w4 e4 a4 o an;refine aN rfl ?_;have q:=(n.trans i).trans o;have L:=H.trans q;have M:=q.bP f;refine Xa.cJ Xb rfl M rfl rfl ?_;have ho:Xm K.heap.size 253 7 w4 (.slice (some ⟨b4,0,none⟩) 0 0) 0 (fl Ze []):=Xm.empty X a4;refine Xa.appendA (base:=K.heap.size) (xs:=fl Ze []) (news:=fl Ze ss) Xb rfl ho o.size hsr.noneA (Jz Tg ss) ((hsr.bR L).news Tg xD) (O2 XcA ss) ⟨X,by show(0+ss.length)*136<=_;omega⟩ ?_;intro v5 w5 t a7 ao;replace t:Xm K.heap.size 253 7 w5 v5 ss.length (fl Ze ss):=by
  have h:=t;rw[O1,ZQ,XT] at h;exact h
 have d:=ho.bU o (XF _) a7;obtain⟨g,u,cur,rfl,ap,a8,a9,aq,aa⟩:=t.form X;have x:cur.toList=fl Ze ss++cur.toList.drop (ss.length*7):=by
  have e:=XY (ss.length*7) cur.toList;rw[aa] at e;exact e.symm
 obtain⟨rest,F⟩:∃rest,rest=cur.toList.drop (ss.length*7):=⟨_,rfl⟩;rw[<-F] at x;have N:w5.heap[g]?=some (.cells (fl Ze ss++rest).toArray 253 (0,0)):=by rw[<-x];exact a8
 have O:=d.bP (i.bP (n.bP f));have A:=d.bP (i.bP m);have P:=d.bP a3;refine aN Y (bB A Y (aU (k*7) Y (aL Y N (R4 (cells:=Ze) (y:=s) Tg hk) Y λw6 ab j ar=>?_)));have B:=j.heap O X;have Q:=j.heap A X;have R:=j.heap P X;refine bB B Y (bF B Y λw7 S l au=>?_);have T:=l.heap Q X;refine bB T Y (bF S Y λw8 a C av=>?_);replace a:w8.heap[rb]?=some (.cells (X5 c cp++[Xq s.p.o,Xq s.p.f,.slice (some ⟨g,0,none⟩) ss.length u,.slice la lg.length lcap,W cM]).toArray 38 (0,0)):=a;refine bB a Y (bB a Y (aV Y ?_));have em:(if ((s.p.f.x.length:Nat):Int)>(p.f.x.length:Nat) then ((s.p.f.x.length:Nat):Int) else (p.f.x.length:Nat))=max ((p.f.x.length:Nat):Int) (s.p.f.x.length:Nat):=by split <;> omega
 have en:(if ((s.p.f.x.length:Nat):Int)<(p.f.x.length:Nat) then ((s.p.f.x.length:Nat):Int) else (p.f.x.length:Nat))=min ((p.f.x.length:Nat):Int) (s.p.f.x.length:Nat):=by split <;> omega
 rw[em,en];refine aV Y (aV Y (aV Y ?_));rw[show cM+3+4*(max ((p.f.x.length:Nat):Int) (s.p.f.x.length:Nat)-min ((p.f.x.length:Nat):Int) (s.p.f.x.length:Nat))=cM+(3+(max ((p.f.x.length:Nat):Int) (s.p.f.x.length:Nat)-min ((p.f.x.length:Nat):Int) (s.p.f.x.length:Nat))*4) from by omega];refine bF a Y λw9 U D aw=>bB U Y ?_;have V:=D.heap (C.heap (l.heap R X) X) X;refine bF V Y λwa a0 E ax=>?_;have I:=E.heap (D.heap (C.heap (l.heap ab X) X) X) X;have J:(ss.set k s).length=ss.length:=XG;have a1:Xc Xf w w6:=(((H.trans n).trans i).trans d).sn j;have a2:Xc Xf w wa:=(((a1.sn l).sn C).sn D).sn E;exact aK func221 a0 Y ⟨some ⟨g,0,none⟩,u,by show _=Value.agg (X5 c cp++[Xq s.p.o,Xq s.p.f,.slice _ (ss.set k s).length _,_,_]).toArray;rw[J];rfl,P7 I Tg,(by intro b off s e;cases e;exact Xg I),by rw[J];exact a9,(by intro b off s e;cases e;omega),a2⟩
theorem Qi.sout{r:RR}(h:Da S r){s:RS}(hk:r.ss[k]?=some s)(_:Qi w r M):Yq S {s with p:=r.p}:=by
 have:=h.cI s (XW hk);exact⟨h.o,h.f,this.cP,this.cG,this.pa,this.cI⟩
theorem Qi.put{r:RR}(h:Qi w r M)(hc:Xc Xf w w'){s:RS}{t:Int}{sa':Option dF}{scap':Nat}(hk:k<r.ss.length)(hs:Qg w' s x' pl')(hof:x'.Of pl')(hrow:Rows Ze 7 w' sa' (r.ss.set k s))(hlt:Yw w' sa')(hcap:(r.ss.set k s).length<=scap'):Qi w' {r with sa:=sa',scap:=scap',ss:=r.ss.set k s,p:=s.p,cM:=t} {M with shs:=M.shs.set k x',pl:=pl',tot:=t}:=by
 have a:=h.bQ hc;refine⟨hs.p,hrow,hlt,hcap,by show(r.ss.set k s).length=(M.shs.set k x').length;rw[XG,XG];exact h.n,by show(r.ss.set k s).length<=16;rw[XG];exact h.few,λj d f b c=>?_,a.lr,a.ll,a.lc,a.lm,a.lge,a.lgo,rfl⟩;by_cases e:k=j
 .subst e;rw[XH hk] at b;rw[XH (by rw[<-h.n];exact hk)] at c;cases b;cases c
  exact⟨pl',hs,hof⟩
 .rw[XK e] at b c;exact a.cI j d f b c
theorem A6.put{r:RR}(h:Qi w r M){s0 s:RS}{t:Int}{sa':Option dF}{scap':Nat}(hk:r.ss[k]?=some s0)(hs:w.heap.size<=w1.heap.size)(hkeep:E2 w1 {s0 with p:=r.p} s)(hf:Bg w' sa')(hs':w.heap.size<=w'.heap.size):A6 w r {r with sa:=sa',scap:=scap',ss:=r.ss.set k s,p:=s.p,cM:=t}:=⟨rfl,rfl,λS f b=>by
 have a:=hkeep S (λz c=>xH (f z c)) (Qi.sout b hk h);refine⟨a.o,a.f,hf.out (λz c=>xH (f z c)),λg d=>?_,b.la,b.lgo⟩;rcases ZN d with d|rfl
 .exact b.cI g d
 .exact a⟩
theorem Xjq{p q:PlM}(hp:p.Good)(hq:q.Good)(ho:q.own.length=p.own.length){t:Int}(ht:0<=t/\t<=4611686018427000000):Xu t (Ek p q)=t+(3+(max (p.free.length:Int) q.free.length-min (p.free.length:Int) q.free.length)*4):=by
 have a:=hp.many;have b:=hq.many;have c:=hp.len;have e:max (Zd q:Int) (Zd p)-min (Zd q:Int) (Zd p)=max (p.free.length:Int) q.free.length-min (p.free.length:Int) q.free.length:=by unfold Zd;omega
 unfold Ek Xu;rw[e,bJ X];have:max (p.free.length:Int) q.free.length-min (p.free.length:Int) q.free.length<=1024:=X
 omega
theorem Gd.cV{p q:PlM}{c:Int}(h:Gd p q c)(hg:p.Good)(hc:0<=c):q.Good:=by
 rcases h with rfl|⟨n,r,hf,rfl⟩|⟨n,a,b,rfl⟩
 .exact hg
 .exact hg.take hc hf
 .exact hg.give a X
theorem P5(r:RR)(M:RmM)(k:Int)(hn:r.ss.length=M.shs.length):(Zs M k=none/\(decide (0<=k) && decide (k<r.ss.length))=false)\/∃(j:Nat) (x:Sm) (s:RS),k=j/\Zs M k=some x/\M.shs[j]?=some x/\r.ss[j]?=some s/\(decide (0<=k) && decide (k<r.ss.length))=true:=by
 by_cases h:0<=k/\k<r.ss.length
 .obtain⟨j,rfl⟩:=XE h.1;have a:j<M.shs.length:=X
  refine .inr ⟨j,M.shs[j],r.ss[j],rfl,Pz a,XD a,XD X,?_⟩;rw[bN h.1,bN h.2];rfl
 .refine .inl ⟨Te X,?_⟩;by_cases b:0<=k
  .rw[bO (λe:k<r.ss.length=>h ⟨b,e⟩),YD]
  .rw[bO b];rfl
theorem A6.dC{r r':RR}(h:A6 w2 r r')(hs:w.heap.size<=w2.heap.size):A6 w r r':=⟨h.1,h.2.1,λS a b=>h.2.2 S (λz c=>xH (a z c)) b⟩
theorem XhW(x:Sm)(pl:PlM)(who:Int)(hof:x.Of pl)(hg:pl.Good):(Ad x pl who).Of (B2 x pl who):=by
 rcases L5 x pl who with⟨_,a,b⟩|⟨_,_,⟨n,r,_,a,b,_⟩|⟨n,r,_,hf,a,b,_⟩⟩
 .rw[a,b];exact hof
 .rw[a,b];exact hof.set rfl (λe c=>P9 c)
 .rw[a,b];exact(hof.fresh hg hf).set rfl (λe c=>P9 c)
theorem XeU(x:Sm)(pl:PlM)(n i:Int)(hok:x.Ok)(hof:x.Of pl):(Ag x n i).Of (Bo x pl n i):=by
 unfold Ag Bo;cases c:Zk x.pg n with
 |none=>exact hof
 |some p=>
  simp only
  by_cases a:Q6 p i=0
  .rw[bK a];have:=Sm.Of.giveAt hok hof (n:=n.toNat) (p:=p) (i:=i);by_cases b:Xt (Yr p i)=0
   .rw[bK b] at this;rw[bK ⟨a,b⟩];exact this
   .rw[bJ b] at this;rw[bJ (λh=>b h.2)];exact this
  .rw[bJ a,bJ (λh=>a h.1)];exact hof
theorem XfV(x:Sm)(pl:PlM)(n i who:Int)(hof:x.Of pl):(Bc x n i who).Of pl:=by
 unfold Bc;split
 .exact hof.set rfl (λe a=>P9 a)
 .exact hof
theorem Xcj(r:RR)(M:RmM)(j:Nat)(x x':Sm)(s s5:RS)(pl':PlM)(w0 w1 w:dD)(h:Qi w0 r M)(hc:Xc Xf w0 w)(hm:Jt M)(ht:0<=M.tot/\M.tot<=4611686018427000000)(hs:r.ss[j]?=some s)(hx:M.shs[j]?=some x)(hS:Qg w s5 x' pl')(hof':x'.Of pl')(hE:Gd M.pl pl' x.cL)(hk:E2 w1 {s with p:=r.p} s5)(hw1:w0.heap.size<=w1.heap.size):Xe prog 221 #[.agg (Ba r).toArray,W (j:Int),.agg (Ze s5).toArray] w (λv w'=>∃r',v=.agg (Ba r').toArray/\Qi w' r' (Ix M j x' pl')/\A6 w0 r r'/\Xc Xf w w'):=by
 obtain⟨i,o⟩:=hm.sh j x hx;have c:=(XC.1 hs).1;have k:r.p.f.x.length=M.pl.free.length:=by rw[h.p.ef,XU]
 have d:s5.p.f.x.length=pl'.free.length:=by rw[hS.p.ef,XU]
 have a:=hE.cV hm.cV i.cL;have q:=hm.cV.many;have u:=hm.cV.len;have y:=a.many;have z:=a.len;refine(XmW r j s5 w (h.sr.bR hc) c h.few X X (by rw[h.st];omega)).mono λv w' ⟨sa',scap',e,f,l,g,m,b⟩=>?_;have n:Xu M.tot (Ek M.pl pl')=r.cM+(3+(max (r.p.f.x.length:Int) s5.p.f.x.length-min (r.p.f.x.length:Int) s5.p.f.x.length)*4):=by
  rw[Xjq hm.cV a (hE.own hm.cV).1 ht,k,d,h.st]
 rw[<-n] at e;exact⟨_,e,h.put (t:=Xu M.tot (Ek M.pl pl')) (hc.trans b) c (hS.bQ b) hof' f l g,A6.put (M:=M) h hs hw1 hk m hc.size,b⟩
theorem Xgx(r:RR)(M:RmM)(k who:Int)(w:dD)(h:Qi w r M)(hm:Jt M)(ht:0<=M.tot/\M.tot<=4611686018427000000):Xe prog 148 #[.agg (Ba r).toArray,W k,W who] w
 (λv w'=>∃r',v=.tuple #[.agg (Ba r').toArray,W (Ey M k who),W (Ex M k who),W (Gt M k who)]/\Qi w' r' (Qe M k who)/\A6 w r r'/\Xc Xf w w'):=by
 refine aR func148 ntmps148 Y (bC Y λrb w1 e1 Q R ad=>bC Y λob S e2 T A ae=>?_);have d:=R.trans A;have i:=A.bP Q;refine bB i Y (bG (Pv r k S) Y λw3 c=>?_);have l:=c.bP T;have f:=c.bP i;have a:=d.trans c;unfold Ey Ex Gt Qe;rcases P5 r M k h.n with⟨F,G⟩|⟨j,x,s,rfl,F,H,I,G⟩
 .rw[F,G];simp only
  refine bI Y (bB f Y (bF l Y λJ K U af=>?_));have m:=a.sn U;exact aK func148 K Y ⟨r,rfl,h.bQ m,A6.refl w r,m⟩
 .rw[F,G];simp only[XA];refine aS Y ?_;obtain⟨pk,V,_⟩:=h.cI j s x I H;obtain⟨B,C⟩:=hm.sh j x H;refine bB f Y (bG (Xci r M j s w3 (h.bQ a) I) Y λJ o=>aP Y (XmD {s with p:=r.p} x M.pl who J (((V.setP h.p).bQ a).bQ o) B C hm.cV) ?_);rintro _ w5 ⟨s5,rfl,a0,a1,a2⟩;refine aN Y (bC Y λqb w6 e6 a3 a4 ag=>bF a3 Y λw7 L a5 ah=>?_);have q:=a4.sn a5;have b:=(o.trans a2).trans q;have t:=b.bP f;have u:=b.bP l;have y:=a.trans b;by_cases g:Qr x M.pl who=0
  .rw[bK g,g];refine aS Y (bB t Y (bB L Y ?_));obtain⟨e2,_⟩:=W9 x M.pl who hm.cV B.cL;refine aP Y (Xcj r M j x _ s s5 _ S J w7 (h.bQ d) (c.trans b) hm ht I H (a0.bQ q) (XhW x M.pl who C hm.cV) e2 a1 (c.trans o).size) ?_;rintro _ w8 ⟨r',rfl,hR,hK,D⟩;refine aN Y ?_;have N:Da (λz=>z=ob) r':=hK.2.2 _ (λz n=>X) (h.out (λz n=>X));exact bF (D.bP u) Y λw9 O E ai=>aK func148 O Y ⟨r',rfl,hR.bW N E,hK.dC d.size,((y.trans D).sn E)⟩
  .rw[bJ g];have eN:B1 x M.pl who=0/\B0 x M.pl who=0:=by unfold B1 B0;rw[bJ g,bJ g];exact⟨rfl,rfl⟩
   rw[eN.1,eN.2];refine aM Y (xU g) (bB t Y (bF u Y λw8 P a7 aj=>?_));have m:=y.sn a7;exact aK func148 P Y ⟨r,rfl,h.bQ m,A6.refl w r,m⟩
theorem Xgw(r:RR)(M:RmM)(k n i:Int)(w:dD)(h:Qi w r M)(hm:Jt M)(ht:0<=M.tot/\M.tot<=4611686018427000000):Xe prog 154 #[.agg (Ba r).toArray,W k,W n,W i] w
 (λv w'=>∃r',v=.tuple #[.agg (Ba r').toArray,W (J9 M k n i)]/\Qi w' r' (Qw M k n i)/\A6 w r r'/\Xc Xf w w'):=by
 refine aR func154 ntmps154 Y (bC Y λrb w1 e1 S T af=>bC Y λob U e2 V E ag=>?_);have d:=T.trans E;have g:=E.bP S;refine bB g Y (bG (Pv r k U) Y λw3 c=>?_);have l:=c.bP V;have f:=c.bP g;have a:=d.trans c;unfold J9 Qw;rcases P5 r M k h.n with⟨H,I⟩|⟨j,x,s,rfl,H,J,K,I⟩
 .rw[H,I];simp only
  refine bI Y (bB f Y (bF l Y λL N a0 ah=>?_));have m:=a.sn a0;exact aK func154 N Y ⟨r,rfl,h.bQ m,A6.refl w r,m⟩
 .rw[H,I];simp only[XA];refine aS Y ?_;obtain⟨pk,a1,_⟩:=h.cI j s x K J;obtain⟨q,t⟩:=hm.sh j x J;refine bB f Y (bG (Xci r M j s w3 (h.bQ a) K) Y λL u=>aP Y (Xmz {s with p:=r.p} x M.pl n i L (((a1.setP h.p).bQ a).bQ u) q t hm.cV) ?_);rintro _ w5 ⟨s5,rfl,a2,a3,a4⟩;refine aN Y (bC Y λqb w6 e6 a5 a6 ai=>bF a5 Y λw7 O a7 aj=>?_);have y:=a6.sn a7;have b:=(u.trans a4).trans y;have A:=b.bP f;have B:=b.bP l;have C:=a.trans b;by_cases D:Ca x n i=0
  .rw[bK D,D];refine aS Y (bB A Y (bB O Y ?_));obtain⟨e2,_⟩:=Uo x M.pl n i q t;refine aP Y (Xcj r M j x _ s s5 _ U L w7 (h.bQ d) (c.trans b) hm ht K J (a2.bQ y) (XeU x M.pl n i q t) e2 a3 (c.trans u).size) ?_;rintro _ w8 ⟨r',rfl,hR,hK,F⟩;refine aN Y ?_;have P:Da (λz=>z=ob) r':=hK.2.2 _ (λz o=>X) (h.out (λz o=>X));exact bF (F.bP B) Y λw9 Q G ak=>aK func154 Q Y ⟨r',rfl,hR.bW P G,hK.dC d.size,((C.trans F).sn G)⟩
  .rw[bJ D];refine aM Y (xU D) (bB A Y (bF B Y λw8 R a9 al=>?_));have m:=C.sn a9;exact aK func154 R Y ⟨r,rfl,h.bQ m,A6.refl w r,m⟩
theorem XnD{n i:Int}(hok:x.Ok)(h:H4 x n i who≠0):Bc x n i who=x:=by
 unfold H4 at h;unfold Bc;cases a:Zk x.pg n with
 |none=>rfl
 |some p=>
  rw[a] at h;obtain⟨m,rfl,hm⟩:=Iy a;have e:By p i who=p:=by unfold By;exact bJ h
  show x.ownAt (m:Int).toNat p i who=x
  unfold Sm.ownAt;rw[e,XA,Xhr hok.nodup hm]
theorem XmR(r:RR)(M:RmM)(k n i who:Int)(w:dD)(h:Qi w r M)(hm:Jt M)(ht:0<=M.tot/\M.tot<=4611686018427000000):Xe prog 205 #[.agg (Ba r).toArray,W k,W n,W i,W who] w
 (λv w'=>∃r',v=.tuple #[.agg (Ba r').toArray,W (P0 M k n i who)]/\Qi w' r' (Qq M k n i who)/\A6 w r r'/\Xc Xf w w'):=by
 refine aR func205 ntmps205 Y (bC Y λrb w1 e1 a5 a6 av=>bC Y λob N e2 a7 I aw=>?_);have f:=a6.trans I;have q:=I.bP a5;refine bB q Y (bG (Pv r k N) Y λw3 d=>?_);have t:=d.bP a7;have g:=d.bP q;have b:=f.trans d;unfold P0 Qq;rcases P5 r M k h.n with⟨O,P⟩|⟨j,x,s,rfl,O,F,Q,P⟩
 .rw[O,P];simp only
  refine bI Y (bB g Y (bF t Y λR T a8 ax=>?_));have u:=b.sn a8;exact aK func205 T Y ⟨r,rfl,h.bQ u,A6.refl w r,u⟩
 .rw[O,P];simp only[XA];refine aS Y ?_;obtain⟨pk,a9,_⟩:=h.cI j s x Q F;have U:=(a9.setP h.p).bQ b;obtain⟨J,K⟩:=hm.sh j x F;refine bB g Y (bG (Xci r M j s w3 (h.bQ b) Q) Y λR y=>aP Y (XmA {s with p:=r.p} x M.pl n i who R (U.bQ y) J K) ?_);rintro _ w5 ⟨s5,rfl,aa,ab,ac⟩;refine aN Y (bC Y λqb w6 e6 ad ae ay=>bF ad Y λw7 V af az=>?_);have A:=ae.sn af;have c:=(y.trans ac).trans A;have m:=c.bP g;have B:=c.bP t;have C:=b.trans c;by_cases hE:H4 x n i who=0
  .rw[hE];refine aS Y (bB m Y (bB V Y ?_));obtain⟨e2,_⟩:=XbR x M.pl n i who;refine aP Y (Xcj r M j x _ s s5 _ N R w7 (h.bQ f) (d.trans c) hm ht Q F (aa.bQ A) (XfV x M.pl n i who K) e2 ab (d.trans y).size) ?_;rintro _ w8 ⟨r',rfl,hR,G,D⟩;refine aN Y ?_;refine bC Y λtb w9 e9 ah ai b0=>bF ah Y λwa a1 aj b1=>?_;have E:=ai.sn aj;refine bB (E.bP (D.bP m)) Y (bF a1 Y λwb a2 ak b2=>?_);have o:=E.sn ak;refine bB a2 Y (bF (o.bP (D.bP B)) Y λwc a3 L b3=>?_);have a:Da (λz=>z=ob) r':=G.2.2 _ (λz l=>X) (h.out (λz l=>X));have al:Qi w8 {r' with cM:=r.cM} (Gs M j (Bc x n i who) M.pl):={hR with st:=h.st};have H:Da (λz=>z=ob) {r' with cM:=r.cM}:=⟨a.o,a.f,a.sa,a.cI,a.la,a.lgo⟩;have am:A6 N r {r' with cM:=r.cM}:=⟨G.1,G.2.1,λS U ho=>by have:=G.2.2 S U ho;exact⟨this.o,this.f,this.sa,this.cI,this.la,this.lgo⟩⟩;exact aK func205 a3 Y ⟨{r' with cM:=r.cM},rfl,(al.bQ o).bW H L,am.dC f.size,(((C.trans D).trans o).sn L)⟩
  .rw[XnD J hE,Xcy F];refine aM Y (xU hE) (bB m Y (bF B Y λw8 a4 an b4=>?_));have u:=C.sn an;exact aK func205 a4 Y ⟨r,rfl,h.bQ u,A6.refl w r,u⟩
theorem Xgj(a:Option dF)(cap:Nat)(zs:List Int)(n:Int)(w:dD)(hr:Rd .i64 w a zs)(hl:zs.length<=9223372036854775806):Xe prog 156 #[.slice a zs.length cap,W n] w (X9 (W (Xl zs n)) w):=by
 refine aR func156 ntmps156 Y ?_;refine Xa.loop (α:=Nat) (λk=>[(0,false,.slice a zs.length cap),(1,false,W n),(5,false,W k)])
  (λk w'=>w'=w/\k<=zs.length/\∀j (h:j<zs.length),j<k->n<1\/decide (n<=zs[j])=false) (λk=>zs.length-k) 0 ⟨rfl,rfl,rfl,trivial⟩ ⟨rfl,XQ _,λ_ _ h=>X⟩ ?_
 rintro k s ⟨q,t,d⟩ ih;subst q;refine aN Y (aT Y (λh=>?_) λh=>?_)
 .have c:k<zs.length:=xU h
  refine aT Y (λf=>?_) λf=>?_
  .have m:1<=n:=xH (bL f)
   obtain⟨b,off,rfl,p⟩:=hr k c;rw[Hw c] at p;refine aU k Y (aW Y p Y (aT Y (λo=>?_) λo=>?_))
   .have i:n<=zs[k]:=xH (bL o)
    have e:Xl zs n=k:=by
     unfold Xl;rw[bJ X];exact J1 c (λj g l=>(d j g l).elim (λh=>X) id) (bN i)
    exact bE func156 Y ⟨X0 e.symm,rfl⟩
   .have i:¬n<=zs[k]:=xH (bM o)
    refine aV Y ?_;exact ih (k+1) _ _ ⟨rfl,c,λj g l=>by
     by_cases e:j=k
     .subst e;exact .inr (bO i)
     .exact d j g X⟩ X ⟨rfl,rfl,rfl,trivial⟩
  .have m:n<1:=xH (bM f)
   exact aV Y (ih (k+1) _ _ ⟨rfl,c,λj g l=>.inl m⟩ X ⟨rfl,rfl,rfl,trivial⟩)
 .have r:k=zs.length:=by simp at h;omega
  have e:Xl zs n=-1:=by
   unfold Xl;by_cases f:n<1
   .rw[bK f]
   .rw[bJ f];exact Ij (λj g=>(d j g X).elim (λh=>absurd h f) id)
  exact bE func156 Y ⟨X0 e.symm,rfl⟩
theorem J7(n q:Int)(w:dD)(hn:n<=9223372036854775807):Xe prog 93 #[W n,W q] w (X9 (W (Zj n q)) w):=by
 exact aR func93 ntmps93 Y (bH (Xmb n q w hn) Y (bE func93 Y ⟨rfl,rfl⟩))
theorem V0(n q:Int)(w:dD)(hn:n<=9223372036854775807):Xe prog 92 #[W n,W q] w (X9 (W (Zl n q)) w):=by
 have f:=XfA (q:=q) hn;refine aR func92 ntmps92 Y (bH (J7 n q w hn) Y (aT Y (λa=>?_) λa=>?_))
 .have e:Zl n q=0:=by unfold Zl;rw[bK (.inl (bL a))]
  exact bE func92 Y ⟨X0 e.symm,rfl⟩
 .have c:=bM a;refine bH (J7 n q w hn) Y (aT Y (λb=>?_) λb=>?_)
  .have e:Zl n q=0:=by unfold Zl;rw[bK (.inr (bL b))]
   exact bE func92 Y ⟨X0 e.symm,rfl⟩
  .have d:=bM b;have e:Zl n q=Zj n q+1:=by unfold Zl;rw[bJ X]
   exact bH (J7 n q w hn) Y (aV Y (bE func92 Y ⟨X0 e.symm,rfl⟩))
theorem K3(c:Conf)(p:Yz)(n:Int)(w:dD):Xe prog 89 #[.agg (X5 c p).toArray,W n] w (Grow (.bool (decide (1<=n) && decide (n<=c.cH))) w):=by
 refine aR func89 ntmps89 Y (bC Y λb h e1 f a g=>?_);refine aT Y (λd=>?_) λd=>?_
 .refine bB f Y ?_;rw[bN (show 1<=n from bL d),YM];exact bE func89 Y ⟨rfl,a⟩
 .rw[bO (show ¬1<=n from bM d),QE];exact bE func89 Y ⟨rfl,a⟩
theorem Sy(r:RR)(n:Int)(w:dD)(hr:Rd .i64 w r.cp.ca r.c.bT)(hl:r.c.bT.length<=9223372036854775806):Xe prog 132 #[.agg (Ba r).toArray,W n] w (Grow (W (Xl r.c.bT n)) w):=by
 refine aR func132 ntmps132 Y (bC Y λb c e1 d a f=>?_);exact bB d Y (bH (Xgj r.cp.ca r.cp.cc r.c.bT n c (hr.bR a) hl) Y (bE func132 Y ⟨rfl,a⟩))
theorem V1(r:RR)(M:RmM)(k:Int)(w:dD)(h:Qi w r M):Xe prog 145 #[.agg (Ba r).toArray,W k] w (Grow (W (Qm M k:Nat)) w):=by
 refine aR func145 ntmps145 Y (bC Y λrb o e1 c l q=>?_);refine bB c Y (bG (Pv r k o) Y λu d=>?_);have a:=l.trans d;unfold Qm;rcases P5 r M k h.n with⟨f,g⟩|⟨j,x,s,rfl,f,p,i,g⟩
 .rw[f,g];exact bI Y (bE func145 Y ⟨rfl,a⟩)
 .rw[f,g];refine aS Y ?_;have t:=(XC.1 i).1;obtain⟨pk,m,_⟩:=h.cI j s x i p;have e5:s.cG.x.length=x.cG.length:=by rw[m.e5,XU]
  obtain⟨sb,soff,n,b⟩:=(h.sr.bR a) j s i;refine bB (d.bP c) Y ?_;rw[n];exact aU (j*7) Y (aW Y (b 6 _ rfl) Y (bE func145 Y ⟨X0 (by rw[e5]),a⟩))
theorem XmS(r:RR)(M:RmM)(k n i:Int)(w:dD)(h:Qi w r M)(hm:Jt M):Xe prog 147 #[.agg (Ba r).toArray,W k,W n,W i] w (Grow (W (Zi M k n i)) w):=by
 refine aR func147 ntmps147 Y (bC Y λrb y e1 c m A=>?_);refine bB c Y (bG (Pv r k y) Y λz d=>?_);have a:=m.trans d;unfold Zi;rcases P5 r M k h.n with⟨f,g⟩|⟨j,x,s,rfl,f,o,l,g⟩
 .rw[f,g];exact bI Y (bE func147 Y ⟨rfl,a⟩)
 .rw[f,g];refine aS Y ?_;have B:=(XC.1 l).1;obtain⟨pk,p,q⟩:=h.cI j s x l o;obtain⟨t,_⟩:=hm.sh j x o;obtain⟨sb,soff,u,b⟩:=(h.sr.bR a) j s l;refine bB (d.bP c) Y ?_;rw[u];exact aU (j*7) Y (Xa.loadC Xb (Ze s) rfl xT (b) rfl (bG (XmB s x pk n i z (p.bQ a) t q) Y λC v=>bE func147 Y ⟨rfl,a.trans v⟩))
theorem XmU(r:RR)(M:RmM)(k:Int)(w:dD)(h:Qi w r M)(hm:Jt M):Xe prog 146 #[.agg (Ba r).toArray,W k] w (Grow (.tuple #[.agg (Nt M k).toArray,.bool (Iw M k)]) w):=by
 refine aR func146 ntmps146 Y (bC Y λrb V e1 A B P=>bC Y λob K e2 C n Q=>?_);have g:=n.bP A;refine bB g Y (bG (Pv r k K) Y λL i=>?_);have l:=i.bP C;have f:=(B.trans n).trans i;unfold Nt Iw;rcases P5 r M k h.n with⟨p,q⟩|⟨j,x,s,rfl,p,D,t,q⟩
 .rw[p,q];exact bI Y (aO Y (bF l Y λN u E R=>aK func146 u Y ⟨rfl,f.sn E⟩))
 .rw[p,q];refine aS Y ?_;have S:=(XC.1 t).1;obtain⟨pk,F,T⟩:=h.cI j s x t D;obtain⟨G,_⟩:=hm.sh j x D;obtain⟨sb,soff,H,m⟩:=(h.sr.bR f) j s t;refine bB (i.bP g) Y ?_;rw[H];refine aU (j*7) Y (Xa.loadC Xb (Ze s) rfl xT (m) rfl ?_);obtain⟨pa,pb,pc,pd,ep⟩:∃a b c d,H5 x=K1 a b c d:=by
   unfold H5;split
   .exact⟨_,_,_,_,rfl⟩
   .exact⟨_,_,_,_,rfl⟩
  have I:=XmC s x pk L (F.bQ f) G;rw[ep] at I;show Xa _ _ (Gh (λv w'=>v=.tuple #[.agg (H5 x).toArray,.bool (Nx x)]/\_)) _ _ _ _ _
  rw[ep];exact bG I Y λN o=>bF (o.bP l) Y λw5 y J U=>aK func146 y Y ⟨rfl,(f.trans o).sn J⟩
theorem Xo4{n a b:Int}:Qu n a b=true↔a<=n/\n<=b:=by unfold Qu;simp
theorem Fc:Xy c=true↔Fh c.size=true/\(1<=c.bS/\c.bS<=1024)/\A9 c.bT c.size=true/\c.bV.length=c.bT.length/\(∀k,k∈c.bV->0<=k/\k<=1024)/\
 (1<=c.step/\c.step<=65536)/\(1<=c.cN/\c.cN<=4096)/\(1<=c.cS/\c.cS<=1023)/\(1<=c.cH/\c.cH<=Fb c):=by
 unfold Xy Ng;simp only[XI,Xo4,decide_eq_true_eq,Bool.not_eq_true',QI,Bool.not_eq_false,and_assoc]
theorem Gp(h:Xy c=true->False):W 1=W (Bw c):=by unfold Bw;rw[bJ h]
theorem Xk6(h:Xy c=true):W 0=W (Bw c):=by unfold Bw;rw[bK h]
theorem Xfc:Fb c=0↔Fh c.size=false:=by
 unfold Fb;by_cases h:Fh c.size=true
 .rw[bK h,h];have a:=Nz.1 h;have b:64*8<=c.size*(c.size/8):=ZH a.1 X X X;constructor
  .intro;omega
  .intro h;cases h
 .rw[bJ h];simpa using h
theorem Xgl(c:Conf)(p:Yz)(w:dD):Xe prog 74 #[.agg (X5 c p).toArray] w (Grow (W (Fb c)) w):=by
 have no:(64<=c.size/\c.size<=4096/\c.size%8=0->False)->W 0=W (Fb c):=λh=>by unfold Fb;rw[bJ (λj=>h (Nz.1 j))]
 refine aR func74 ntmps74 Y (bC Y λb m e1 f d l=>bB f Y (aT Y (λg=>?_) λg=>?_))
 .exact bE func74 Y ⟨no (λh=>xH (bL g)),d⟩
 .have n:=bM g;refine bB f Y (aT Y (λi=>?_) λi=>?_)
  .exact bE func74 Y ⟨no (λh=>xH (bL i)),d⟩
  .have o:=bM i;refine bB f Y (Xa.div Xb rfl X (Hg X) rfl (aT Y (λa=>?_) λa=>?_))
   .exact bE func74 Y ⟨no (λh=>by have:=h.2.2;simp[this] at a),d⟩
   .have k:c.size%8=0:=xU a
    have a:0<=c.size/8/\c.size/8<=512:=X
    have q:0<=c.size*(c.size/8):=ZG X a.1;have r:c.size*(c.size/8)<=4096*512:=ZH X a.2 a.1 X;refine Xa.cJ Xb rfl f rfl rfl ?_;refine Xa.cJ Xb rfl f rfl rfl ?_;refine Xa.div Xb rfl X (Gr X X) rfl ?_;refine Xa.arith Xb rfl (w64 X) rfl ?_;exact bE func74 Y ⟨X0 (by unfold Fb;rw[bK (Nz.2 ⟨X,X,k⟩)]),d⟩
theorem Xmf(c:Conf)(p:Yz)(w:dD)(hc:Yd w c p):Xe prog 155 #[.agg (X5 c p).toArray] w (Grow (W (D2 c)) w):=by
 have j:=hc.lc;refine aR func155 ntmps155 Y (bC Y λb k e1 f a i=>bB f Y (aT Y (λh=>?_) λh=>?_))
 .have g:c.bT.length=0:=xU h
  exact bE func155 Y ⟨X0 (by unfold D2;rw[bK g]),a⟩
 .have g:¬c.bT.length=0:=xU h
  obtain⟨l,off,ea,d⟩:=(hc.bR a).bT (c.bT.length-1) X;obtain⟨ca,cc,ka,kc⟩:=p;simp only at ea
  subst ea;exact bB f Y (bB f Y (aV Y (aU (c.bT.length-1) Y (aW Y d Y (bE func155 Y ⟨X0 (by unfold D2;rw[bJ g]),a⟩)))))
theorem Xgk(c:Conf)(p:Yz)(k:Int)(w:dD)(hc:Yd w c p):Xe prog 196 #[.agg (X5 c p).toArray,W k] w (Grow (W (A8 c k)) w):=by
 have i:=hc.size;unfold Oc at i;refine aR func196 ntmps196 Y (bC Y λb r e1 f a o=>aT Y (λh=>?_) λh=>?_)
 .have m:=bL h;exact bE func196 Y ⟨X0 (by unfold A8;rw[bJ X]),a⟩
 .have m:=bM h;refine bB f Y (aT Y (λg=>?_) λg=>?_)
  .have n:=bL g;exact bE func196 Y ⟨X0 (by unfold A8;rw[bJ X]),a⟩
  .have n:=bM g;obtain⟨s,off,ea,d⟩:=(hc.bR a).bT k.toNat X;obtain⟨ca,cc,ka,kc⟩:=p;simp only at ea
   subst ea;exact Xa.quiet rfl Xn xK (Xk.adv Xb rfl (Xk.cJ Xb rfl f rfl rfl (Xk.cJ Xb rfl f rfl rfl (Xk.index Xb rfl (j:=k.toNat) X X (by first|rfl|omega|(simp;done)|(simp;omega)) rfl (Xk.load Xb rfl d rfl (Xk.call Xb rfl (λw' q=>(Xmc c.size (c.bT.getD k.toNat 0) w' i.2).bQ) rfl (Xk.nil λt l=>aN Y (bE func196 Y ⟨X0 (by unfold A8;rw[bK X]),a.trans l⟩))))))))
theorem Xcb(c:Conf)(p:Yz)(w:dD)(hc:Yd w c p):Xe prog 28 #[.agg (X5 c p).toArray] w (Grow (W (Bw c)) w):=by
 have S:=hc.lc;refine aR func28 ntmps28 Y (bC Y λb T e1 N O ad=>bB N Y (bG (Xgl c p T) Y λwL P=>?_));have i:=O.trans P;have l:=P.bP N;have v:=hc.bR i;refine aT Y (λs=>?_) λs=>?_
 .exact bE func28 Y ⟨Gp (λh=>by have:=(Fc.1 h).1;rw[Xfc.1 (xU s)] at this;cases this),i⟩
 .have U:Fh c.size=true:=by
   cases h:Fh c.size with
   |true=>rfl
   |false=>rw[Xfc.2 h] at s;cases s
  refine bB l Y (aT Y (λy=>?_) λy=>?_)
  .exact bE func28 Y ⟨Gp (λh=>xI (Fc.1 h).2.1 (bL y)),i⟩
  .refine bB l Y (aT Y (λz=>?_) λz=>?_)
   .exact bE func28 Y ⟨Gp (λh=>xI (Fc.1 h).2.1 (bL z)),i⟩
   .refine bB l Y (bB l Y (bG (Xmd p.ca p.cc c.bT c.size wL v.bT S) Y λV A=>?_));have o:=i.trans A;have q:=A.bP l;have Q:=v.bR A;refine aT Y (λt=>?_) λt=>?_
    .exact bE func28 Y ⟨Gp (λh=>by have:=(Fc.1 h).2.2.1;simp[Ic,this] at t),o⟩
    .refine bB q Y (bB q Y (aT Y (λB=>?_) λB=>?_))
     .exact bE func28 Y ⟨Gp (λh=>by have:=(Fc.1 h).2.2.2.1;simp[this] at B),o⟩
     .have g2:=bM y;have g3:=bM z;have g4:A9 c.bT c.size=true:=by unfold Ic at t;cases hh:A9 c.bT c.size <;> simp[hh] at t⊢
      have g5:c.bV.length=c.bT.length:=by simp at B;omega
      refine Xa.loop (α:=Nat) (λk=>[(1,false,xV b),(3,false,W k)])
       (λk w'=>Xc Xf V w'/\k<=c.bV.length/\∀j (h:j<c.bV.length),j<k->0<=c.bV[j]/\c.bV[j]<=1024) (λk=>c.bV.length-k) 0 ⟨rfl,rfl,trivial⟩ ⟨Xc.refl _ _,XQ _,λ_ _ h=>X⟩ ?_
      rintro k w4 ⟨u,hk,r⟩ ih;have f:=o.trans u;have d:=u.bP q;have R:=Q.bR u;refine aN Y (bB d Y (aT Y (λh=>?_) λh=>?_))
      .have m:k<c.bV.length:=xU h
       obtain⟨b1,off,ea,g⟩:=R.bV k m;rw[Hw m] at g;obtain⟨ca,cc,ka,kc⟩:=p;simp only at ea
       subst ea;refine bB d Y (aU k Y (aW Y g Y (aT Y (λC=>?_) λC=>?_)))
       .exact bE func28 Y ⟨Gp (λh=>xI ((Fc.1 h).2.2.2.2.1 _ (XL m)) (bL C)),f⟩
       .refine bB d Y (aU k Y (aW Y g Y (aT Y (λD=>?_) λD=>?_)))
        .exact bE func28 Y ⟨Gp (λh=>xI ((Fc.1 h).2.2.2.2.1 _ (XL m)) (bL D)),f⟩
        .refine aV Y ?_;exact ih (k+1) _ _ ⟨u,m,λj E ae=>by
          by_cases e:j=k
          .subst e;exact⟨xH (bM C),xH (bM D)⟩
          .exact r j E X⟩ X ⟨rfl,rfl,trivial⟩
      .have af:k=c.bV.length:=by simp at h;omega
       have g6:∀x,x∈c.bV->0<=x/\x<=1024:=λx hx=>by obtain⟨j,E,rfl⟩:=List.mem_iff_getElem.1 hx;exact r j E X
       refine Xa.quiet rfl Xn xK (Xk.adv Xb rfl (Xk.cJ Xb rfl d rfl rfl ?_));refine Xk.fork Xb rfl rfl rfl (λF=>?_) (λF=>?_)
       .exact Xk.nil λn a=>aN Y (bE func28 Y ⟨Gp (λh=>xI (Fc.1 h).2.2.2.2.2 (bL F)),f.trans a⟩)
       refine Xk.cJ Xb rfl d rfl rfl ?_;refine Xk.fork Xb rfl rfl rfl (λG=>?_) (λG=>?_)
       .exact Xk.nil λn a=>aN Y (bE func28 Y ⟨Gp (λh=>xI (Fc.1 h).2.2.2.2.2 (bL G)),f.trans a⟩)
       refine Xk.cJ Xb rfl d rfl rfl ?_;refine Xk.fork Xb rfl rfl rfl (λH=>?_) (λH=>?_)
       .exact Xk.nil λn a=>aN Y (bE func28 Y ⟨Gp (λh=>xI (Fc.1 h).2.2.2.2.2 (bL H)),f.trans a⟩)
       refine Xk.cJ Xb rfl d rfl rfl ?_;refine Xk.fork Xb rfl rfl rfl (λI=>?_) (λI=>?_)
       .exact Xk.nil λn a=>aN Y (bE func28 Y ⟨Gp (λh=>xI (Fc.1 h).2.2.2.2.2 (bL I)),f.trans a⟩)
       refine Xk.cJ Xb rfl d rfl rfl ?_;refine Xk.fork Xb rfl rfl rfl (λJ=>?_) (λJ=>?_)
       .exact Xk.nil λn a=>aN Y (bE func28 Y ⟨Gp (λh=>xI (Fc.1 h).2.2.2.2.2 (bL J)),f.trans a⟩)
       refine Xk.cJ Xb rfl d rfl rfl ?_;refine Xk.fork Xb rfl rfl rfl (λK=>?_) (λK=>?_)
       .exact Xk.nil λn a=>aN Y (bE func28 Y ⟨Gp (λh=>xI (Fc.1 h).2.2.2.2.2 (bL K)),f.trans a⟩)
       refine Xk.cJ Xb rfl d rfl rfl ?_;refine Xk.fork Xb rfl rfl rfl (λL=>?_) (λL=>?_)
       .exact Xk.nil λn a=>aN Y (bE func28 Y ⟨Gp (λh=>xI (Fc.1 h).2.2.2.2.2 (bL L)),f.trans a⟩)
       refine Xk.cJ Xb rfl d rfl rfl (Xk.loads Xb rfl d rfl rfl (Xk.call Xb rfl (λw' ag=>Xgl c p w') rfl (Xk.nil λn a=>aN Y (aT Y (λM=>?_) λM=>?_))))
       .exact bE func28 Y ⟨Gp (λh=>xI (Fc.1 h).2.2.2.2.2 (bL M)),f.trans a⟩
       have:=bM F;have:=bM G;have:=bM H;have:=bM I;have:=bM J;have:=bM K;have:=bM L;have:=bM M;exact bE func28 Y ⟨Xk6 (Fc.2 ⟨U,X,g4,g5,g6,X,X,X,X⟩),f.trans a⟩
theorem Rd.of{k:IntKind}{c:Array dE}{t:TypeId}(h:w.heap[b]?=some (.cells c t fz))(hc:c=(zs.map (Value.int k)).toArray):Rd k w (some ⟨b,0,none⟩) zs:=λi hi=>
 ⟨b,0,rfl,by rw[Yx h,hc];simp[hi]⟩
theorem Su(zs:List Int)(n:Int):-1<=Xl zs n:=by
 unfold Xl;split
 .omega
 .by_cases h:zs.any (λs=>decide (n<=s))=true
  .have:=Xbp.2 h;omega
  .rw[Ij (λj b=>by
    by_cases a:n<=zs[j]
    .exact absurd (QU.2 ⟨zs[j],XL b,bN a⟩) h
    .exact bO a)]
   omega
theorem XjS(c:Conf)(M:RmM)(size:Int)(h:¬(size<1\/c.cH<size)):Ql c M size=if (0<=Xl c.bT size/\Qm M (Xl c.bT size)=0/\M.pl.free.length=0)\/(Xl c.bT size<0/\(M.pl.free.length:Int)<Zl size c.size) then 5 else 0:=by
 have b:=Su c.bT size;unfold Ql Df;rw[bJ h];by_cases e:Xl c.bT size=-1
 .rw[bK e];by_cases a:(M.pl.free.length:Int)<Zl size c.size
  .rw[bK a,bK (.inr ⟨X,a⟩)]
  .rw[bJ a,bJ X]
 .rw[bJ e];by_cases a:Qm M (Xl c.bT size)=0/\M.pl.free.length=0
  .rw[bK X,bK (.inl ⟨X,a⟩)]
  .rw[bJ X,bJ X]
theorem Xch(r:RR)(M:RmM)(size:Int)(w:dD)(h:Qi w r M)(hr:Rd .i64 w r.cp.ca r.c.bT)(hl:r.c.bT.length<=16)(hmost:r.c.cH<=2097152):Xe prog 133 #[.agg (Ba r).toArray,W size] w (Grow (W (Ql r.c M size)) w):=by
 have j:r.p.f.x.length=M.pl.free.length:=by rw[h.p.ef,XU]
 have A:=Su r.c.bT size;refine aR func133 ntmps133 Y (bC Y λrb s e1 k p x=>?_);refine bB k Y (bG (K3 r.c r.cp size s) Y λt l=>?_);have i:=l.bP k;have f:=p.trans l;by_cases h0:size<1\/r.c.cH<size
 .have e:Ql r.c M size=3:=by unfold Ql;rw[bK h0]
  rw[e];have y:(!(decide (1<=size) && decide (size<=r.c.cH)))=true:=by
   rcases h0 with h0|h0
   .rw[bO (show ¬1<=size by omega)];rfl
   .rw[bO (show ¬size<=r.c.cH by omega),YD];rfl
  exact bI Y (bE func133 Y ⟨rfl,f⟩)
 .rw[XjS r.c M size h0];refine aI Y (by rw[bN (show 1<=size by omega),bN (show size<=r.c.cH by omega)];rfl) (bB i Y (bG (Sy r size t (hr.bR f) X) Y λu m=>?_));have c:=m.bP i;have d:=f.trans m;by_cases v:0<=Xl r.c.bT size
  .refine bI Y (bB c Y (bG (V1 r M (Xl r.c.bT size) u (h.bQ d)) Y λB n=>?_));have g:=d.trans n;by_cases o:Qm M (Xl r.c.bT size)=0
   .refine aM Y (by rw[o];rfl) (bB (n.bP c) Y ?_);rw[j];by_cases hf:M.pl.free.length=0
    .rw[bK (.inl ⟨v,o,hf⟩)];exact aM Y (by rw[hf];rfl) (bE func133 Y ⟨rfl,g⟩)
    .rw[bJ X];exact aI Y (xU hf) (aQ 14 Xf xK Y λa=>Xd.no Xb a rfl (bO X) rfl (aF a Y λq b=>bE func133 Y ⟨rfl,g.trans b⟩))
   .rw[bJ X];exact aI Y (xU o) (aQ 14 Xf xK Y λa=>Xd.no Xb a rfl (bO X) rfl (aF a Y λq b=>bE func133 Y ⟨rfl,g.trans b⟩))
  .refine aS Y (aQ 14 Xf xK Y λa=>Xd.yes Xb a rfl (bN X) rfl (aE a c Y (aE a c Y (aH a (λw' z=>V0 size r.c.size w' X) Y (aF a Y λq b=>?_)))));rw[j];by_cases hf:(M.pl.free.length:Int)<Zl size r.c.size
   .rw[bK (.inr ⟨X,hf⟩)];exact bI Y (bE func133 Y ⟨rfl,d.trans b⟩)
   .rw[bJ X];exact aS Y (bE func133 Y ⟨rfl,d.trans b⟩)
def nilIL:IL:=⟨none,0,[]⟩
def Ka(k:Int)(b:Nat):RS:=⟨⟨nilIL,nilIL⟩,k,b,nilIL,none,0,[],nilIL⟩
def F7(c:Conf)(n:Nat):List RS:=(List.range n).map λk=>Ka (k:Nat) (A8 c (k:Nat)).toNat
theorem Xg3{s:RS}(h:(F7 c n)[k]?=some s):k<n/\s=Ka (k:Nat) (A8 c (k:Nat)).toNat:=by
 unfold F7 at h;rw[XO,QN] at h;obtain⟨j,d,e⟩:=h;obtain⟨a,b⟩:=XC.1 d;simp only[ZK] at a;rw[List.getElem_range] at b;subst b;exact⟨a,e.symm⟩
theorem Xg4(c:Conf)(n:Nat):F7 c (n+1)=F7 c n++[Ka (n:Nat) (A8 c (n:Nat)).toNat]:=by
 unfold F7;rw[YQ,XM];rfl
theorem Xns(w:dD)(k:Int)(b:Nat):Qg w (Ka k b) (Sk k b) ⟨[],[]⟩:=by
 have a:Q9 w nilIL:=⟨⟨Rd.nil _ _ _,by simp[nilIL]⟩,XF _,(by intro b off s e;cases e)⟩;exact⟨⟨a,a,rfl,rfl⟩,a,a,(λi l c=>by simp[Ka] at c),(by intro b off s e;cases e),XF _,(λl c=>by simp[Ka] at c),rfl,rfl,rfl,rfl,rfl⟩
theorem Xnt(S:Nat->Prop)(k:Int)(b:Nat):Yq S (Ka k b):=by
 have a:Xj S (none:Option dF):=λb off s e=>by cases e
 exact⟨a,a,a,a,a,λl c=>by simp[Ka] at c⟩
theorem Rq{l:List dE}{t:TypeId}(h:w.heap[b]?=some (.cells l.toArray t fz)):∀i u,l[i]?=some u -> ∃a',(some ⟨b,0,none⟩:Option dF)=some a'/\w.cell? (a'.add i)=some u:=λi u a=>
 ⟨_,rfl,by rw[C0,Yx h,XT];simpa using a⟩
theorem XmQ(c:Conf)(p:Yz)(w:dD)(hc:Yd w c p)(hm:Xy c=true)(hp:c.bS<=512):Xe prog 128 #[.agg (X5 c p).toArray] w
 (λv w'=>∃r,v=.tuple #[.agg (Ba r).toArray,W 0]/\r.c=c/\r.cp=p/\Qi w' r (Io c 0)/\(∀S:Nat->Prop,(∀z,S z->z<w.heap.size)->Da S r)/\Xc Xf w w'):=by
 have bn:maxLen=9223372036854775807:=rfl;have hf:=Zr hm;have bo:=hf.n;have bp:=hf.bS;obtain⟨N,hN⟩:=XE (show 0<=c.bS by omega);have em:Bw c=0:=by unfold Bw;rw[bK hm]
 refine aR func128 ntmps128 Y (bC Y λcb w1 e1 ap aq bq=>bC Y λob w2 e2 ar ac br=>?_);have y:=aq.trans ac;have V:=ac.bP ap;refine bB V Y (bG (Xcb c p w2 (hc.bR y)) Y λw3 D=>?_);rw[em];have a0:=D.bP V;refine aS Y (bB a0 Y ?_);rw[hN];refine aP Y (Xmk N w3 X) ?_;rintro _ w4 ⟨rp,rfl,a1,ad,ae,P⟩;refine aN Y (bC Y λpb w5 e5 au av bs=>bF au Y λw6 af aw bt=>?_);have g:=av.sn aw;have a2:=g.bP (P.bP a0);refine bB a2 Y (bB af Y (aO Y (bC Y λtb w7 e7 ax ay bu=>bF ax Y λw8 ag az bv=>?_)));have A:=ay.sn az;have L:=(((y.trans D).trans P).trans g).trans A;have ba:=((D.trans P).trans g).size;refine Xa.loop (α:=Nat×dE) (λx=>[(1,false,xV cb),(2,false,xV ob),(6,false,xV tb),(7,false,W x.1)])
  (λx w'=>x.1<=c.bT.length/\w'.heap[tb]?=some (.cells (X5 c p++[Xq rp.o,Xq rp.f,x.2,.slice none 0 0,W 0]).toArray 38 (0,0))/\Xm w8.heap.size 253 7 w' x.2 x.1 (fl Ze (F7 c x.1))/\Xc (λz=>z=tb) w8 w') (λx=>c.bT.length-x.1) (0,.slice none 0 0) ⟨rfl,rfl,rfl,rfl,trivial⟩ ⟨XQ _,ag,⟨rfl,.inl ⟨rfl,rfl⟩⟩,Xc.refl _ _⟩ ?_
 rintro⟨i,v⟩ w9 ⟨hi,j,Q,m⟩ ih;simp only at hi j Q
 have a4:=m.heap (A.bP a2) X;have a5:=L.bU m (λz a e=>xH L.size);have bb:=m.size;refine aN Y (bB a4 Y (aT Y (λa6=>?_) λa6=>?_))
 .have E:i<c.bT.length:=xH (bL a6)
  have bw:=XaU hm E;obtain⟨bk,B⟩:=XE (show 0<=A8 c i by omega);refine aQ 11 (λz=>z=tb\/w8.heap.size<=z) xK Y λd=>Xd.loadsAt (3) Xb d rfl rfl rfl a4 (by first|exact λh=>h|(intro h;omega)|assumption) rfl rfl (aG d (λw' b0=>Xgk c p (i:Nat) w' (hc.bR (a5.bU b0 (λz a e=>by have:=L.size;rcases e with e|e <;> omega)))) Y (Xd.build Xb d rfl rfl ?_));refine Xd.turn2 d rfl ?_ ?_
  .intro wa F;refine Xo.cJ Xb d rfl (F.bP j) rfl rfl (Xd.cK d rfl λwb T=>Xo.buildSlice Xb d rfl (λ_=>rfl) λb7 wc ec a7 G bx=>Xd.cK d rfl λwd H=>?_);have f:=((F.trans T).trans G).trans H;have l:=Q.bR f (λ_ _ h=>h);have n:=H.bP a7;rw[B] at n;refine Xo.appendS Xb d rfl (base:=w8.heap.size) (xs:=fl Ze (F7 c i)) (news:=Ze (Ka (i:Nat) bk)) l (xH f.size) (λe=>by cases e) (λb M _=>.inr (World.ownsRow.lt l b M.symm).1) rfl (Rq n) (XcA _) ⟨X,by show(i+1)*136<=_;omega⟩ (λ_=>rfl) ?_;intro v2 wf o I b1;obtain⟨va,vn,vc,rfl⟩:=Xm.isSlice o;refine Xd.cK d rfl ?_;intro wg t;refine Xo.store Xb d rfl (t.bP (I.heap (f.bP j) (λe=>xH (World.ownsRow.lt l tb (Eq.symm e)).1))) (by first|(intro h;exact rfl)|(intro h;omega)) rfl rfl rfl λwh O J b2=>aF d Y λwi u=>?_;exact aV Y (ih (i+1,.slice va vn vc) _ _ ⟨E,u.bP O,by rw[Xg4,O0,R3,B,XA];exact(((o.bR t (λ_ _ h=>h)).bR J (λb M e=>by have:=(World.ownsRow.lt o b M.symm).1;replace e:b=tb:=e;omega)).bR u (λ_ _ h=>h)),(((((m.trans f.gr).bU I (λz a e=>xH (World.ownsRow.lt l z e.symm).1)).trans t.gr).trans J).trans u.gr)⟩ xP ⟨rfl,rfl,rfl,rfl,trivial⟩)
  .intro wa F;refine Xo.buildSlice Xb d rfl (λ_=>rfl) λb7 wb eb a7 T bz=>Xd.cK d rfl λwc G=>Xo.cJ Xb d rfl (((F.trans T).trans G).bP j) rfl rfl (Xd.cK d rfl λwd H=>?_);have f:=((F.trans T).trans G).trans H;have l:=Q.bR f (λ_ _ h=>h);have n:=H.bP (G.bP a7);rw[B] at n;refine Xo.appendS Xb d rfl (base:=w8.heap.size) (xs:=fl Ze (F7 c i)) (news:=Ze (Ka (i:Nat) bk)) l (xH f.size) (λe=>by cases e) (λb M _=>.inr (World.ownsRow.lt l b M.symm).1) rfl (Rq n) (XcA _) ⟨X,by show(i+1)*136<=_;omega⟩ (λ_=>rfl) ?_;intro v2 wf o I b1;obtain⟨va,vn,vc,rfl⟩:=Xm.isSlice o;refine Xd.cK d rfl ?_;intro wg t;refine Xo.store Xb d rfl (t.bP (I.heap (f.bP j) (λe=>xH (World.ownsRow.lt l tb (Eq.symm e)).1))) (by first|(intro h;exact rfl)|(intro h;omega)) rfl rfl rfl λwh O J b2=>aF d Y λwi u=>?_;exact aV Y (ih (i+1,.slice va vn vc) _ _ ⟨E,u.bP O,by rw[Xg4,O0,R3,B,XA];exact(((o.bR t (λ_ _ h=>h)).bR J (λb M e=>by have:=(World.ownsRow.lt o b M.symm).1;replace e:b=tb:=e;omega)).bR u (λ_ _ h=>h)),(((((m.trans f.gr).bU I (λz a e=>xH (World.ownsRow.lt l z e.symm).1)).trans t.gr).trans J).trans u.gr)⟩ xP ⟨rfl,rfl,rfl,rfl,trivial⟩)
 .have b3:i=c.bT.length:=xH (bM a6)
  subst b3;have C:(F7 c c.bT.length).length=c.bT.length:=by unfold F7;simp
  obtain⟨sa,scap,rfl,ai,E,a8,U⟩:=Xm.rowsN Q Tg C;rw[C] at j a8
  let R:RR:=⟨c,p,rp,F7 c c.bT.length,sa,scap,[],none,0,0⟩
  have a9:Yv w9 tb R:=by
   show w9.heap[tb]?=some (.cells (X5 c p++[Xq rp.o,Xq rp.f,.slice sa (F7 c c.bT.length).length scap,.slice none 0 0,W 0]).toArray _ _)
   rw[C];exact j
  refine bB a9 Y ?_;refine bF (m.heap ((((D.trans P).trans g).trans A).bP ar) X) Y λwa aj K c0=>?_;have b4:∀S:Nat->Prop,Xj S (none:Option dF):=λS b off s e=>by cases e
  have be:=D.size;have b5:At wa rp (D0 N):=by
   have h9:At w9 rp (D0 N):=by
    have h8:=(a1.bQ g).bQ A;exact⟨h8.o.bW (λb off s e a=>by have:=a1.o.lt b off s e;have:=g.size;replace a:b=tb:=a;omega) m,h8.f.bW (λb off s e a=>by have:=a1.f.lt b off s e;have:=g.size;replace a:b=tb:=a;omega) m,h8.eo,h8.ef⟩
   exact⟨h9.o.bW (λb off s e a=>by have:=ad b off s e;replace a:b=ob:=a;omega) K,h9.f.bW (λb off s e a=>by have:=ae b off s e;replace a:b=ob:=a;omega) K,h9.eo,h9.ef⟩
  have ak:Xj (λz=>z=ob) sa:=λb off s e a=>by have:=U b off s e;replace a:b=ob:=a;omega
  have al:∀S:Nat->Prop,(∀z,S z->z<w.heap.size)->Da S R:=λS hS=>⟨ad.out (λz a=>xI (hS z a) y.size),ae.out (λz a=>xI (hS z a) y.size),λb off s e a=>xI (U b off s e) (hS b a),λs hs=>by
   obtain⟨k,hk,rfl⟩:=QV hs;obtain⟨_,e⟩:=Xg3 (XD hk);rw[e];exact Xnt S _ _,b4 S,λq hq=>by cases hq⟩
  have b6:Qi wa R (Io c 0):=by
   refine⟨by show At wa rp (D0 c.bS.toNat);rw[hN,XA];exact b5,ai.bW ak K,E.bQ K.size,by show(F7 c c.bT.length).length<=scap;rw[C];exact a8,by show(F7 c _).length=(Hb c _).length;unfold F7 Hb;simp,by show(F7 c c.bT.length).length<=16;omega,λk s x h1 h2=>?_,(λi x hx=>by simp[R] at hx),(by intro b off s e;cases e),XF _,by show 0<=1024;omega,rfl,(λq hq=>by cases hq),rfl⟩;obtain⟨_,rfl⟩:=Xg3 h1;obtain⟨_,rfl⟩:=Pk h2;exact⟨⟨[],[]⟩,Xns _ _ _,λe he=>by cases he⟩
  exact aK func128 aj Y ⟨R,rfl,rfl,rfl,b6,al,(a5.sn K)⟩
theorem XkL(h:M.Ok c)(hg:M.pl.Good):M.lg.length<=1024:=by
 have d:=h.sum;have f:=O7 hg;have b:∀l:List (Nat×List Nat),l.length<=Ep l:=λl=>by
  induction l with
  |nil=>simp
  |cons a r ih=>unfold Ep at *;rw[ZL,QJ,XN];omega
 have:=b M.lg;omega
theorem Lx(q:Plc):(Xw q).length=4:=rfl
theorem Pr(q:Plc):∀u∈Xw q,u.oneCell'=true:=λu a=>by
 simp only[Xw,ZC,List.mem_nil_iff,or_false] at a;rcases a with rfl|rfl|rfl|rfl <;> rfl
structure XdG(w w':dD)(q:Plc):Prop where
 ok:Zw w' q
 lt:Yw w' q.pa
 fresh:Bg w q.pa
theorem Xb4{a b c:Int}:XdG w w' ⟨a,b,c,none,0,[]⟩:=⟨⟨Rd.nil _ _ _,xS⟩,(by intro b off s e;cases e),(by intro b off s e;cases e)⟩
theorem A6.out{w w2:dD}{r r':RR}{M:RmM}(hK:A6 w2 r r')(h:Qi w r M){S:Nat->Prop}(h1:∀z,S z->w.heap.size<=z)(h2:∀z,S z->z<w2.heap.size):Da S r':=hK.2.2 S h2 (h.out h1)
theorem XmT(r:RR)(M:RmM)(who size:Int)(w:dD)(h:Qi w r M)(hm:Jt M)(hMok:M.Ok r.c)(ht:0<=M.tot/\M.tot<=4611686018427000000)(hr:Rd .i64 w r.cp.ca r.c.bT)(hmay:Xy r.c=true):Xe prog 206 #[.agg (Ba r).toArray,W who,W size] w
 (λv w'=>∃r' q,v=.tuple #[.agg (Ba r').toArray,.agg (Xw q).toArray,W (C5 r.c M who size)]/\Xz q=Bz r.c M who size/\Qi w' r' (Ai r.c M who size)/\A6 w r r'/\XdG w w' q/\Xc Xf w w'):=by
 have ga:maxLen=9223372036854775807:=rfl;have hf:=Zr hmay;have gb:=hf.size;have cz:=hf.n;have d0:=hf.cH;refine aR func206 ntmps206 Y (bC Y λrb w1 e1 f1 f2 gd=>bC Y λob w2 e2 f3 d1 ge=>bC Y λqb w3 e3 d2 bt gf=>?_);have a6:=(f2.trans d1).trans bt;have aq:=bt.bP (d1.bP f1);have bu:=bt.bP f3;by_cases H:who<0
 .have bv:C5 r.c M who size=1/\Bz r.c M who size=⟨0,0,0,[]⟩/\Ai r.c M who size=M:=by
   exact⟨by unfold C5;rw[bK H],by unfold Bz;rw[bK H],by unfold Ai;rw[bK H]⟩
  rw[bv.1,bv.2.1,bv.2.2];refine bI Y (bB aq Y (aO Y (bF bu Y λw4 a7 d3 gg=>?_)));have a8:=d3.heap d2 X;refine bF a8 Y λw5 a9 d4 gh=>?_;have aa:=d4.heap a7 X;have hc:=(a6.sn d3).sn d4;exact bD rfl func206 (Xi.cell rfl rfl rfl aa rfl (.cell rfl rfl rfl a9 rfl (.tmp rfl .nil))) ⟨r,⟨0,0,0,none,0,[]⟩,rfl,rfl,h.bQ hc,A6.refl w r,Xb4,hc⟩
 .refine aS Y (bB aq Y (bG (Xch r M size w3 (h.bQ a6) (hr.bR a6) cz.2 d0.2) Y λw4 ak=>?_));have I:=a6.trans ak;have ab:=ak.bP aq;have a7:=ak.bP bu;have a8:=ak.bP d2;have fx:=ak.size;by_cases y:Ql r.c M size=0
  .have a2:¬(Ql r.c M size≠0):=λh=>h y;have dr:¬(size<1\/r.c.cH<size)/\Df r.c M size<=M.pl.free.length:=by
    have y:=y;unfold Ql at y;split at y
    .cases y
    .split at y
     .cases y
     .refine⟨by assumption,X⟩
   refine aI Y (by rw[y];rfl) (bB ab Y (bG (Sy r size w4 (hr.bR I) X) Y λw5 o=>?_));have ac:=I.trans o;have bw:=o.bP ab;have aa:=o.bP a7;have a9:=o.bP a8;have fy:=o.size;by_cases g3:Xl r.c.bT size=-1
   .have K:C5 r.c M who size=0/\Bz r.c M who size=⟨-1,(M.pl.free.getD 0 0:Nat),0,X3 (M.pl.free.take (Zl size r.c.size).toNat).tail⟩/\Ai r.c M who size=Ew M (Zl size r.c.size).toNat:=by
     exact⟨by unfold C5;rw[bJ H,bJ a2,bK g3],by unfold Bz;rw[bJ H,bJ a2,bK g3],by unfold Ai;rw[bJ H,bJ a2,bK g3]⟩
    rw[K.1,K.2.1,K.2.2];have fu:Df r.c M size=Zl size r.c.size:=by unfold Df;rw[bK g3]
    have gi:2<=Zl size r.c.size:=by
     have h0:0<=(size-1)/r.c.size:=ZY X X;have h9:(size-1)/r.c.size<=size-1:=QL _ X;have e4:Zj size r.c.size=(size-1)/r.c.size+1:=by unfold Zj;rw[bJ X]
     unfold Zl;rw[e4,bJ X];omega
    obtain⟨many,cw⟩:=XE (show 0<=Zl size r.c.size by omega);have gj:2<=many:=X
    have d5:many<=M.pl.free.length:=xH dr.2
    have gk:M.pl.free.length<=1024:=xI hm.cV.many hm.cV.len
    refine aS Y (aO Y (bC Y λtb w6 e6 f5 b8 f6=>bF f5 Y λw7 ds f7 f8=>?_));have ad:=b8.sn f7;have A:=ac.trans ad;have bx:=ad.bP bw;have dt:=ad.bP aa;have aw:=ad.bP a9;refine bB bx Y (bH (V0 size r.c.size w7 X) Y ?_);rw[cw,XA];have hn:=hMok.n;obtain⟨B,a⟩:∃B:Nat->Prop,B=λz=>z=rb\/z=ob\/z=qb\/z=tb:=⟨_,rfl⟩;have L:∀z,B z->w.heap.size<=z/\z<w7.heap.size:=λz c=>by rw[a] at c;rcases c with e|e|e|e <;> omega
    have b9:=h.out (S:=B) (λz c=>(L z c).1);refine Xa.loop (α:=Nat×RP×dE) (λx=>[(3,false,xV rb),(6,false,xV ob),(7,false,xV qb),(14,false,xV tb),(15,false,W many),(16,false,W x.1)])
     (λx w'=>x.1<=many/\Yv w' rb {r with p:=x.2.1}/\w'.heap[tb]?=some (.cells ([W (-1),W (if x.1=0 then 0 else (M.pl.free.getD 0 0:Nat)),W 0,x.2.2]:List dE).toArray 83 (0,0))/\At w' x.2.1 (A1 M.pl (M.shs.length:Nat) x.1)/\Xj B x.2.1.o.a/\Xj B x.2.1.f.a/\
      (∀S:Nat->Prop,(∀z,S z->z<w.heap.size)->Xj S r.p.o.a->Xj S r.p.f.a->Xj S x.2.1.o.a/\Xj S x.2.1.f.a)/\Yw w x.2.1.f.a/\Xm w7.heap.size 3 1 w' x.2.2 (x.1-1) ((X3 (M.pl.free.take x.1).tail).map W)/\Xc (λz=>z=rb\/z=tb) w7 w') (λx=>many-x.1) (0,r.p,.slice none 0 0) ⟨rfl,rfl,rfl,rfl,rfl,rfl,trivial⟩
     ⟨XQ _,bx,ds,h.p.bQ A,b9.o,b9.f,λS _ h1 h2=>⟨h1,h2⟩,h.p.f.lt,⟨rfl,.inl ⟨rfl,rfl⟩⟩,Xc.refl _ _⟩ ?_
    rintro⟨i,rp,v⟩ w8 ⟨hi,N,ae,a3,d6,c2,ba,d7,a4,al⟩ ih;simp only at hi N ae a3 d6 c2 ba d7 a4
    have fz:=al.size;refine aN Y (aT Y (λc3=>?_) λc3=>?_)
    .have d8:i<many:=xH (bL c3)
     have c4:i<M.pl.free.length:=X
     obtain⟨q1,q2,q3,q4,q5⟩:=Nq (who:=(M.shs.length:Nat)) X hm.cV i X;have bb:(A1 M.pl (M.shs.length:Nat) i).free=M.pl.free[i]::M.pl.free.drop (i+1):=by rw[q2];exact ZT c4
     obtain⟨t1,t2,t3⟩:=Xb3 (who:=(M.shs.length:Nat)) X bb;have etk:=t3;refine bB N Y (bB N Y ?_);have hd:=Xgn rp (M.shs.length:Nat) _ _ _ w8 a3 q1 X bb;rw[<-etk,hn] at hd;refine aP Y (hd) ?_;rintro _ C ⟨l9,rfl,d9,ay,da⟩;refine aN Y ?_;rw[<-hn] at d9;refine bC Y λxb wa ea c5 O fb=>bF c5 Y λwb du fc db=>?_;have g6:=da.size;have c6:=O.sn fc;have af:=da.trans c6;refine bB du Y (bF (af.bP N) Y λwc c7 bc gl=>?_);have fd:=d9.bQ c6;have c8:=ay.out (λz c=>xH (L z c).2);have c9:Xj B (rp.f.sl 1 rp.f.x.length).a:=IL.sl_out c2;have dc:∀S:Nat->Prop,(∀z,S z->z<w.heap.size)->Xj S r.p.o.a->Xj S r.p.f.a->Xj S l9.a/\Xj S (rp.f.sl 1 rp.f.x.length).a:=λS hS h1 h2=>⟨ay.out (λz c=>xI (hS z c) A.size),IL.sl_out (ba S hS h1 h2).2⟩;have ca:Yw w (rp.f.sl 1 rp.f.x.length).a:=λb off s e=>by
      obtain⟨_,_,e'⟩:=XcF e;exact d7 b _ _ e'
     have F:B rb:=by rw[a];exact .inl rfl
     have dd:B tb:=by rw[a];exact .inr (.inr (.inr rfl))
     have bW:∀{w1 w2:dD} {z0:Nat},B z0->Xc (λz=>z=z0) w1 w2->At w1 ⟨l9,rp.f.sl 1 rp.f.x.length⟩ (A1 M.pl (M.shs.length:Nat) (i+1))->At w2 ⟨l9,rp.f.sl 1 rp.f.x.length⟩ (A1 M.pl (M.shs.length:Nat) (i+1)):=λa5 k be=>⟨be.o.bW (c8.mono (λz e=>by subst e;exact a5)) k,be.f.bW (c9.mono (λz e=>by subst e;exact a5)) k,be.eo,be.ef⟩;have de:=bW F bc fd;have ag:=bc.heap (af.bP ae) X;have df:=(a4.bR af (λ_ _ h=>h)).bR bc (λb D e=>by have:=(World.ownsRow.lt a4 b D.symm).1;replace e:b=rb:=e;omega);have cb:=(al.trans af.gr).trans (bc.mono λ_ _ e=>.inl e);by_cases dg:i=0
     .subst dg;refine bI Y (bF ag Y λwd dv bf cc=>aV Y ?_);have dw:((M.pl.free[0]:Nat):Int)=(M.pl.free.getD 0 0:Nat):=by rw[XB,XD c4];rfl
      exact ih (1,⟨l9,rp.f.sl 1 rp.f.x.length⟩,v) _ _ ⟨X,bf.heap c7 X,by rw[bJ (show ¬(1=0) by omega),<-dw];exact dv,bW dd bf de,c8,c9,dc,ca,by
       have e:(M.pl.free.take 1).tail=[]:=YH (by rw[QM,XX];omega);have e0:(M.pl.free.take 0).tail=[]:=xS
       have:=df.bR bf (λb D e=>by have:=(World.ownsRow.lt a4 b D.symm).1;replace e:b=tb:=e;omega);rw[e0] at this;show Xm _ _ _ _ _ 0 _
       rw[e];exact this,cb.trans (bf.mono λ_ _ e=>.inr e)⟩ xP ⟨rfl,rfl,rfl,rfl,rfl,rfl,trivial⟩
     .rw[bJ dg] at ag;refine aI Y xQ (bB ag Y (Xa.buildSlice Xb rfl λbd wd ed ff d cc=>aN Y ?_));have dh:=df.bR d (λ_ _ h=>h);refine Xa.append (base:=w7.heap.size) (xs:=(X3 (M.pl.free.take i).tail).map W) (news:=[W (M.pl.free[i]:Nat)]) Xb rfl dh X xS (Hs ff) (by simp[Value.oneCell']) ⟨X,by show(i-1+1)*8<=_;omega⟩ ?_;intro v2 we m am gm;obtain⟨va,vn,vc,rfl⟩:=Xm.isSlice m;refine aN Y ?_;have ah:=λ(b:Nat) (D:some b=v.ownBlock)=>(World.ownsRow.lt dh b D.symm).1;have dx:=am.heap (d.bP c7) (λe=>xH (ah rb e));have dy:=am.heap (d.bP ag) (λe=>xH (ah tb e));have bg:=de.bQ d;have fg:At we ⟨l9,rp.f.sl 1 rp.f.x.length⟩ (A1 M.pl (M.shs.length:Nat) (i+1)):=by
       have fh:=λ(b:Nat) (D:some b=v.ownBlock)=>(World.ownsRow.lt a4 b D.symm).2;exact⟨bg.o.bW (λb off s e D=>xI (ay b off s e) (fh b D)) am,bg.f.bW (λb off s e D=>xI (ca b off s e) (ah b D)) am,bg.eo,bg.ef⟩
      refine bF dy Y λwf dz bh gn=>aV Y ?_;exact ih (i+1,⟨l9,rp.f.sl 1 rp.f.x.length⟩,.slice va vn vc) _ _ ⟨X,bh.heap dx X,by rw[bJ (show ¬(i+1=0) by omega)];exact dz,bW dd bh fg,c8,c9,dc,ca,by
       have e:(M.pl.free.take (i+1)).tail=(M.pl.free.take i).tail++[M.pl.free[i]]:=by
        rw[ZI,XD c4,List.tail_append_of_ne_nil]
        .rfl
        .intro e;have:=congrArg List.length e;rw[XX,List.length_nil] at this;omega
       have:=m.bR bh (λb D e=>by have:=(World.ownsRow.lt m b D.symm).1;replace e:b=tb:=e;omega);rw[e,XfH,XM];have e2:i-1+1=i+1-1:=X
       rw[e2] at this;exact this,((cb.trans d.gr).bU am (λz c e=>xH (ah z e))).trans (bh.mono λ_ _ e=>.inr e)⟩ xP ⟨rfl,rfl,rfl,rfl,rfl,rfl,trivial⟩
    .have e5:i=many:=xH (bM c3)
     subst e5;have bi:=a
     clear a
     have cd:(M.pl.free.take i).tail.length=i-1:=by rw[QM,XX];omega
     obtain⟨g,gc,rfl,gp,gq,gs,fi,fj⟩:=XbT a4 cd X;obtain⟨q0,ai⟩:∃q0:Plc,q0=⟨-1,(M.pl.free.getD 0 0:Nat),0,some ⟨g,0,none⟩,gc,X3 (M.pl.free.take i).tail⟩:=⟨_,rfl⟩;have cx:w8.heap[tb]?=some (.cells (Xw q0).toArray 83 (0,0)):=by
      rw[bJ (show ¬i=0 by omega)] at ae;have e:Xw q0=[W (-1),W (M.pl.free.getD 0 0:Nat),W 0,.slice (some ⟨g,0,none⟩) (i-1) gc]:=by
       rw[ai];show [_,_,_,Value.slice _ (X3 (M.pl.free.take i).tail).length _]=_
       rw[De,cd]
      rw[e];exact ae
     have ce:Xz q0=⟨-1,(M.pl.free.getD 0 0:Nat),0,X3 (M.pl.free.take i).tail⟩:=by rw[ai];rfl
     have aj:q0.pa=some ⟨g,0,none⟩:=by rw[ai]
     have cf:q0.bS=X3 (M.pl.free.take i).tail:=by rw[ai]
     have gt:=h.st;have cg:=A.bU al (λz c e=>by rcases e with e|e <;> omega);have P:=al.heap dt X;have Q:=al.heap aw X;obtain⟨t,ch⟩:∃t,t=Xu M.tot (((i:Nat):Int)*4+(((i:Nat):Int)-1)):=⟨_,rfl⟩;have fk:r.cM+4*(i:Int)+(i:Int)-1=t:=by
      rw[ch];unfold Xu;rw[bJ X];omega
     have e8:=hMok.big hm.cV (show 1<=i by omega) d5;have fm:(r.lg++[q0]).length<=1024:=by
      have h1:=XkL e8 (Nq (who:=(M.shs.length:Nat)) X hm.cV i d5).1;have h2:(M.lg++[(M.pl.free.getD 0 0,(M.pl.free.take i).tail)]).length<=1024:=h1;have fv:r.lg.length=M.lg.length:=by have:=congrArg List.length h.lge;simpa using this
      simp only[ZE,XN,List.length_nil] at h2⊢;omega
     have bj:w8.heap[rb]?=some (.cells (X5 r.c r.cp++[Xq rp.o,Xq rp.f,.slice r.sa r.ss.length r.scap,.slice r.la r.lg.length r.lcap,W r.cM]).toArray 38 (0,0)):=N;refine Xa.cJ Xb rfl bj rfl rfl ?_;refine Xa.arith Xb rfl (w64 X) rfl ?_;refine Xa.arith Xb rfl (w64 X) rfl ?_;refine aV Y (aV Y ?_);rw[fk];refine bF bj Y λC ci u fn=>?_;have cj:=u.heap cx X;have b1:=u.heap P X;have b2:=u.heap Q X;have e9:Xc B w8 C:=u.mono λ_ _ e=>by rw[bi];exact .inl e
     have b3:=cg.sn u;have cy:=ci;apply Xa.cut (α:=dE×Nat) (λx=>[(3,false,xV rb),(6,false,xV ob),(7,false,xV qb),(14,false,xV tb),(99,false,x.1),(101,false,.slice (some ⟨x.2,0,none⟩) 1 1)]) (λx w'=>Xc Xf C w'/\Xm C.heap.size 83 4 w' x.1 r.lg.length (fl Xw r.lg)/\w'.heap[x.2]?=some (.cells (Xw q0).toArray 83 (0,0)))
     .intro J;refine aQ 6 Xf xK Y λa=>aE a cy Y (aE a cj Y ?_);refine Xd.turn2 a rfl ?_ ?_
      .intro wa O;refine Xo.buildSlice Xb a rfl (λ_=>rfl) ?_;intro b0 wb eb a5 bk db;have k:=O.trans bk;have R:Xm C.heap.size 83 4 wb (.slice (some ⟨b0,0,none⟩) 0 0) 0 (fl Xw []):=Xm.empty (xH O.size) a5;refine Xd.turn2 a rfl ?_ ?_
       .intro wc f;refine Xo.appendA Xb a rfl (base:=C.heap.size) (xs:=fl Xw []) (news:=fl Xw r.lg) (R.bR f (λ_ _ h=>h)) ((k.trans f)).size h.lr.noneA (XF _) (Jz Lx r.lg) ((h.lr.bR (b3.trans (k.trans f))).news Lx xD) (O2 Pr r.lg) ⟨xH h.lm,by have:=h.lm;show(0+r.lg.length)*48<=_;omega⟩ (λ_=>rfl) ?_;intro v1 wx n T di;have an:=((R.bR f (λ_ _ h=>h))).bU (k.trans f) (XF _) T;rw[O1,ZQ,XT] at n;exact Xd.cK a rfl λwd d=>Xo.buildSlice Xb a rfl (λ_=>rfl) λb5 we ee G j gu=>aF a Y λwf l=>J (v1,b5) _ _ ⟨(((an.trans d).trans j).trans l),(((n.bR d (λ_ _ h=>h)).bR j (λ_ _ h=>h)).bR l (λ_ _ h=>h)),(l.bP G)⟩ ⟨rfl,rfl,rfl,rfl,rfl,rfl,trivial⟩
       .intro wc f;refine Xo.buildSlice Xb a rfl (λ_=>rfl) λb5 wd ed G d cc=>Xd.cK a rfl λwe j=>Xo.appendA Xb a rfl (base:=C.heap.size) (xs:=fl Xw []) (news:=fl Xw r.lg) (((R.bR f (λ_ _ h=>h)).bR d (λ_ _ h=>h)).bR j (λ_ _ h=>h)) ((((k.trans f).trans d).trans j)).size h.lr.noneA (XF _) (Jz Lx r.lg) ((h.lr.bR (b3.trans (((k.trans f).trans d).trans j))).news Lx xD) (O2 Pr r.lg) ⟨xH h.lm,by have:=h.lm;show(0+r.lg.length)*48<=_;omega⟩ (λ_=>rfl) λv1 wx n T di=>?_;have an:=((((R.bR f (λ_ _ h=>h)).bR d (λ_ _ h=>h)).bR j (λ_ _ h=>h))).bU (((k.trans f).trans d).trans j) (XF _) T;rw[O1,ZQ,XT] at n;refine aF a Y λwf l=>?_;have ck:¬J3 (.slice (some ⟨b0,0,none⟩) 0 0) b5:=by
         intro h;have e:some b5=some b0:=h;have:=Option.some.inj e;have:=f.size;omega
        exact J (v1,b5) _ _ ⟨(an.trans l),(n.bR l (λ_ _ h=>h)),(l.bP (T.heap (j.bP G) ck))⟩ ⟨rfl,rfl,rfl,rfl,rfl,rfl,trivial⟩
      .intro wa O;refine Xo.buildSlice Xb a rfl (λ_=>rfl) λb5 wb eb G bk db=>Xd.cK a rfl λwc f=>Xo.buildSlice Xb a rfl (λ_=>rfl) λb0 wd ed a5 d cc=>?_;have k:=((O.trans bk).trans f).trans d;have R:Xm C.heap.size 83 4 wd (.slice (some ⟨b0,0,none⟩) 0 0) 0 (fl Xw []):=Xm.empty (xH ((O.trans bk).trans f).size) a5;refine Xd.cK a rfl λwe j=>Xo.appendA Xb a rfl (base:=C.heap.size) (xs:=fl Xw []) (news:=fl Xw r.lg) (R.bR j (λ_ _ h=>h)) ((k.trans j)).size h.lr.noneA (XF _) (Jz Lx r.lg) ((h.lr.bR (b3.trans (k.trans j))).news Lx xD) (O2 Pr r.lg) ⟨xH h.lm,by have:=h.lm;show(0+r.lg.length)*48<=_;omega⟩ (λ_=>rfl) λv1 wx n T di=>?_;have an:=((R.bR j (λ_ _ h=>h))).bU (k.trans j) (XF _) T;rw[O1,ZQ,XT] at n;refine aF a Y λwf l=>?_;have ck:¬J3 (.slice (some ⟨b0,0,none⟩) 0 0) b5:=by
        intro h;have e:some b5=some b0:=h;have:=Option.some.inj e;have:=f.size;omega
       exact J (v1,b5) _ _ ⟨(an.trans l),(n.bR l (λ_ _ h=>h)),(l.bP (T.heap ((d.trans j).bP (f.bP G)) ck))⟩ ⟨rfl,rfl,rfl,rfl,rfl,rfl,trivial⟩
     .rintro⟨v1,b5⟩ wf ⟨dj,m,G⟩;simp only at m G
      have ec:=dj.size;obtain⟨a1,n1,c1,rfl⟩:=Xm.isSlice m;refine Xa.appendA (base:=C.heap.size) (xs:=fl Xw r.lg) (news:=Xw q0) Xb rfl m ec (λe=>by cases e) rfl (Rq G) (Pr q0) ⟨xH h.lm,by have:=h.lm;show(r.lg.length+1)*48<=_;omega⟩ ?_;intro v3 wy fo fp gv;have U:=m.bU dj (XF _) fp;have ef:Xm C.heap.size 83 4 wy v3 (r.lg.length+1) (fl Xw (r.lg++[q0])):=by
       rw[O0,R3];exact fo
      obtain⟨la,lcap,rfl,eg,d8,eh,bm⟩:=Xm.rowsN ef Lx xS;refine aN Y (bF (U.bP ci) Y λwz ei ao gw=>?_);have ej:=ao.heap (U.bP cj) X;have ek:=ao.heap (U.bP b1) X;have el:=ao.heap (U.bP b2) X;have cl:B ob:=by rw[bi];exact .inr (.inl rfl)
      have cm:B qb:=by rw[bi];exact .inr (.inr (.inl rfl))
      have cn:B rb:=by rw[bi];exact .inl rfl
      have em:Xc B C wz:=U.gr.trans (ao.mono λ_ _ e=>by rw[e];exact cn);refine aQ 3 (λz=>z=ob) xK Y λa=>aE a ei Y (aE a ej Y (Xd.cK a rfl λwu bn=>Xo.store Xb a rfl (bn.bP ek) (by first|(intro h;exact rfl)|(intro h;omega)) rfl rfl rfl λwv en co gx=>?_));refine aF a Y λww bo=>?_;have eo:=bo.bP (co.heap (bn.bP el) X);refine bF eo Y λwr ep cp gy=>?_;have er:=cp.heap (bo.bP en) X;have F:=(((((e9.trans em).trans bn.gr).trans (co.mono λ_ _ e=>by rw[e];exact cl)).trans bo.gr).trans (cp.mono λ_ _ e=>by rw[e];exact cm));have cq:=cg.bU F (λz c e=>xH (L z e).1);have fq:At wr rp (A1 M.pl (M.shs.length:Nat) i):=⟨a3.o.bW d6 F,a3.f.bW c2 F,a3.eo,a3.ef⟩;have fr:¬B g:=λc=>xH (L g c).2
      have es:=fj.bW (S:=B) (λb' off s e=>by cases e;exact fr) F;have V:=h.bQ cq;have cr:Xc B wy wr:=((((ao.mono λ_ _ e=>by rw[e];exact cn).trans bn.gr).trans (co.mono λ_ _ e=>by rw[e];exact cl)).trans bo.gr).trans (cp.mono λ_ _ e=>by rw[e];exact cm);have et:Xj B la:=λb off s e c=>xI (bm b off s e) (L b c).2
      have cs:Yw w8 q0.pa:=λb off s e=>by rw[aj] at e;cases e;exact Eo fi
      have dk:Zw wr q0:=⟨by rw[aj,cf];exact es,by rw[cf,De,cd];omega⟩;exact bD rfl func206 (Xi.cell rfl rfl rfl er rfl (.cell rfl rfl rfl ep rfl (.tmp rfl .nil))) ⟨{r with p:=rp,cM:=t,lg:=r.lg++[q0],la:=la,lcap:=lcap},q0,rfl,ce,⟨fq,V.sr,V.sl,V.sc,V.n,V.few,V.cI,eg.bW et cr,d8.bQ cr.size,eh,fm,by show(r.lg++[q0]).map Xz=(M.lg++[(M.pl.free.getD 0 0,(M.pl.free.take i).tail)]).map lgP;rw[XM,XM,h.lge,ZL,List.map_nil,ce];rfl,λq E=>(XS.1 E).elim (λE=>V.lgo q E) (λE=>by rw[QD] at E;subst E;exact⟨dk,cs.bQ F.size⟩),ch⟩,⟨rfl,rfl,λS hS ho=>⟨(ba S hS ho.o ho.f).1,(ba S hS ho.o ho.f).2,ho.sa,ho.cI,λb off s e c=>by have:=bm b off s e;have:=hS b c;have:=A.size;omega,λq E=>(XS.1 E).elim (λE=>ho.lgo q E) (λE=>by rw[QD] at E;subst E;exact λb off s e c=>by rw[aj] at e;cases e;have:=hS g c;have:=A.size;omega)⟩⟩,⟨dk,cs.bQ F.size,λb off s e=>by rw[aj] at e;cases e;have:=A.size;omega⟩,cq⟩
   .have K:C5 r.c M who size=Gt M (Xl r.c.bT size) who/\Bz r.c M who size=⟨Xl r.c.bT size,Ey M (Xl r.c.bT size) who,Ex M (Xl r.c.bT size) who,[]⟩/\Ai r.c M who size=Qe M (Xl r.c.bT size) who:=by
     exact⟨by unfold C5;rw[bJ H,bJ a2,bJ g3],by unfold Bz;rw[bJ H,bJ a2,bJ g3],by unfold Ai;rw[bJ H,bJ a2,bJ g3]⟩
    rw[K.1,K.2.1,K.2.2];have gz:=Su r.c.bT size;refine bI Y (bB bw Y (aP Y (Xgx r M (Xl r.c.bT size) who w5 (h.bQ ac) hm ht) ?_));rintro _ w6 ⟨r',rfl,hR,hK,b8⟩;refine aN Y (bC Y λxb w7 e7 c5 ap f8=>bF c5 Y λw8 ew bp fs=>?_);have ex:=ac.trans b8;have b7:=ap.sn bp;have ct:=b8.trans b7;have P:=ct.bP aa;have Q:=ct.bP a9;refine bB ew Y (aO Y (bF P Y λC b1 u fn=>?_));have b2:=u.heap Q X;refine bF b2 Y λwa ey cu fb=>?_;have ez:=cu.heap b1 X;have hc:=((ex.trans b7).sn u).sn cu;have n:Da (λz=>z=ob) r':=hK.out h (λz c=>X) (λz c=>X);have m:Da (λz=>z=qb) r':=hK.out h (λz c=>X) (λz c=>X);exact bD rfl func206 (Xi.cell rfl rfl rfl ez rfl (.cell rfl rfl rfl ey rfl (.tmp rfl .nil))) ⟨r',⟨Xl r.c.bT size,Ey M (Xl r.c.bT size) who,Ex M (Xl r.c.bT size) who,none,0,[]⟩,rfl,rfl,((hR.bQ b7).bW n u).bW m cu,hK.dC ac.size,Xb4,hc⟩
  .have cv:C5 r.c M who size=Ql r.c M size/\Bz r.c M who size=⟨0,0,0,[]⟩/\Ai r.c M who size=M:=by
    exact⟨by unfold C5;rw[bJ H,bK y],by unfold Bz;rw[bJ H,bK y],by unfold Ai;rw[bJ H,bK y]⟩
   rw[cv.1,cv.2.1,cv.2.2];refine aM Y (xU y) ?_;have b9:Da (λz=>z=ob) r:=h.out (λz c=>X);have ft:∀w',Xc (λz=>z=ob) w4 w'->Xc Xf w w':=λw' bq=>I.sn bq;refine Xa.drawn (q:=6) (λz=>z=ob) Xb Xn xK rfl ?_;intro a;refine Xd.loads Xb a rfl ab (by first|exact λh=>h|(intro h;omega)|assumption) rfl rfl ?_;refine Xd.build Xb a rfl rfl ?_;refine Xd.loads Xb a rfl ab (by first|exact λh=>h|(intro h;omega)|assumption) rfl rfl ?_;refine Xd.call Xb a rfl (λw' bq=>Xch r M size w' ((h.bQ I).bW b9 bq) (hr.bR (ft w' bq)) cz.2 d0.2) rfl ?_;refine Xd.cK a rfl λw5 o=>Xo.store Xb a rfl (o.bP a7) (by first|(intro h;exact rfl)|(intro h;omega)) rfl rfl rfl λw6 f0 dl f6=>aF a Y λw7 ap=>?_;have aw:=ap.bP (dl.heap (o.bP a8) X);refine bF aw Y λw8 Q bp fs=>?_;have P:=bp.heap (ap.bP f0) X;have hc:=(((I.trans o).sn dl).trans ap).sn bp;exact bD rfl func206 (Xi.cell rfl rfl rfl P rfl (.cell rfl rfl rfl Q rfl (.tmp rfl .nil))) ⟨r,⟨0,0,0,none,0,[]⟩,rfl,rfl,h.bQ hc,A6.refl w r,Xb4,hc⟩
def Kb(a b:Plc):Bool:=decide (a.cR=b.cR/\a.bS=b.bS)
theorem XmV(a b:Plc)(w:dD)(ha:Rd .i64 w a.pa a.bS)(hb:Rd .i64 w b.pa b.bS)(hl:a.bS.length<=9223372036854775807):Xe prog 259 #[.agg (Xw a).toArray,.agg (Xw b).toArray] w (Grow (.bool (Kb a b)) w):=by
 refine aR func259 ntmps259 Y (bC Y λx P e1 H A M=>bC Y λy I e2 r n N=>?_);have g:=n.bP H;have c:=A.trans n;refine bB g Y (bB r Y (aT Y (λs=>?_) λs=>?_))
 .have i:a.cR≠b.cR:=xU s
  have e:Kb a b=false:=bO (λh=>i h.1);rw[e];exact bE func259 Y ⟨rfl,c⟩
 .have i:a.cR=b.cR:=xU s
  refine bB g Y (bB r Y (aT Y (λt=>?_) λt=>?_))
  .have B:a.bS.length≠b.bS.length:=by simp at t;omega
   have e:Kb a b=false:=bO (λh=>B (by rw[h.2]));rw[e];exact bE func259 Y ⟨rfl,c⟩
  .have u:a.bS.length=b.bS.length:=by simp at t;omega
   refine Xa.loop (α:=Nat) (λk=>[(2,false,xV x),(3,false,xV y),(5,false,W k)])
    (λk w'=>Xc Xf I w'/\k<=a.bS.length/\∀j,j<k->a.bS.getD j 0=b.bS.getD j 0) (λk=>a.bS.length-k) 0 ⟨rfl,rfl,rfl,trivial⟩ ⟨Xc.refl _ _,XQ _,λ_ h=>X⟩ ?_
   rintro k Q ⟨d,R,l⟩ ih;have o:=d.bP g;refine aN Y (bB o Y (aT Y (λv=>?_) λv=>?_))
   .have p:k<a.bS.length:=xH (bL v)
    obtain⟨ba,oa,C,D⟩:=((ha.bR c).bR d) k p;obtain⟨bb,obb,E,F⟩:=((hb.bR c).bR d) k X;refine aQ 11 Xf xK Y λf=>aE f o Y ?_;rw[C];refine aB k f Y (aD f D Y (aE f (d.bP r) Y ?_));rw[E];refine aB k f Y (aD f F Y (aF f Y λS q=>aT Y (λm=>?_) λm=>?_))
    .have z:a.bS.getD k 0≠b.bS.getD k 0:=xU m
     have e:Kb a b=false:=bO (λh=>z (by rw[h.2]));rw[e];exact bE func259 Y ⟨rfl,(c.trans d).trans q⟩
    .have J:a.bS.getD k 0=b.bS.getD k 0:=xU m
     refine aV Y ?_;exact ih (k+1) _ _ ⟨d.trans q,p,λj T=>by
      by_cases e:j=k
      .subst e;exact J
      .exact l j X⟩ X ⟨rfl,rfl,rfl,trivial⟩
   .have O:k=a.bS.length:=xH (bM v)
    have G:=List.ext_getElem u λj K L=>by
     have:=l j X;rw[Hw K,Hw L] at this;exact this
    have e:Kb a b=true:=bN ⟨i,G⟩;rw[e];exact bE func259 Y ⟨rfl,c.trans d⟩
def Ch(q x:Plc):Bool:=decide (q.cL=-1) && Kb x q
def Dv(q:Plc)(l:List Plc):List Plc:=l.filter λx=>!Ch q x
theorem Xbs{l:List Plc}(h:i<l.length):Dv q (l.take (i+1))=Dv q (l.take i)++(if Ch q l[i] then [] else [l[i]]):=by
 unfold Dv;rw[ZI,XD h,QP];by_cases e:Ch q l[i]=true
 .rw[bK e];simp[e]
 .rw[bJ e];simp[e]
theorem XaD{l:List Plc}(h:i<l.length):(l.take (i+1)).any (Ch q)=((l.take i).any (Ch q)||Ch q l[i]):=by
 rw[ZI,XD h,List.any_append]
 simp
theorem Xko{ps:List Plc}(hl:ps.map Xz=lg.map lgP)(hq:q.cL=-1):(ps.any (Ch q)=lg.any λe=>decide ((e.1:Int)=q.cR/\X3 e.2=q.bS))/\(Dv q ps).map Xz=(lg.filter λe=>!decide ((e.1:Int)=q.cR/\X3 e.2=q.bS)).map lgP:=by
 induction ps generalizing lg with
 |nil=>
  cases lg with
  |nil=>exact⟨rfl,rfl⟩
  |cons a r=>simp at hl
 |cons x xs ih=>
  cases lg with
  |nil=>simp at hl
  |cons a r=>
   rw[ZL,ZL] at hl;obtain⟨b,f⟩:=List.cons.inj hl;obtain⟨g,c⟩:=ih f;have e1:x.cR=(a.1:Nat):=congrArg PlcM.cR b;have e2:x.bS=X3 a.2:=congrArg PlcM.bS b;have e3:Ch q x=decide ((a.1:Int)=q.cR/\X3 a.2=q.bS):=by
    unfold Ch Kb;rw[bN hq,YM,e1,e2]
   refine⟨by rw[List.any_cons,List.any_cons,e3,g],?_⟩;unfold Dv at *;rw[ZJ,ZJ,e3];by_cases d:decide ((a.1:Int)=q.cR/\X3 a.2=q.bS)=true
   .rw[d];exact c
   .have hf:decide ((a.1:Int)=q.cR/\X3 a.2=q.bS)=false:=xU d
    rw[hf];simp only[Bool.not_false,if_true,ZL];rw[c,b]
theorem Xbt(hn:(Qc lg).Nodup){r r':List Nat}(h:(n,r)∈lg)(h':(n,r')∈lg):r=r':=by
 obtain⟨a,b,e1,e2⟩:=Pb hn h;rw[e1] at h' hn;have c:Qc (a++(n,r)::b)=Qc a++((n::r)++Qc b):=by rw[Kt];rfl
 rw[c] at hn;obtain⟨_,d,f⟩:=XR.1 hn;obtain⟨_,_,i⟩:=XR.1 d;rcases XS.1 h' with g|g
 .exact absurd rfl (f n (Jb g xS) n xS)
 .rcases ZC.1 g with g|g
  .exact((Prod.mk.inj g).2).symm
  .exact absurd rfl (i n xS n (Jb g xS))
theorem Xkp(hn:(Qc lg).Nodup){r:List Nat}(h:(n,r)∈lg){p:Int}{ps:List Int}(hp:p=n)(hps:X3 r=ps):(lg.any λe=>decide ((e.1:Int)=p/\X3 e.2=ps))=true/\(lg.filter λe=>!decide ((e.1:Int)=p/\X3 e.2=ps))=Dw lg n:=by
 refine⟨QU.2 ⟨(n,r),h,bN ⟨hp.symm,hps⟩⟩,?_⟩;unfold Dw;refine List.filter_congr λe a=>?_;by_cases e1:e.1=n
 .have e2:=Xbt hn (n:=n) (by rw[<-e1];exact a) h;rw[bN ⟨by rw[e1];exact hp.symm,by rw[e2];exact hps⟩,e1]
  simp
 .rw[bO (λh=>e1 (xH h.1))];simp[e1]
theorem Xe6{p:Int}{ps:List Int}(h:∀r,Dd lg p=some r->X3 r≠ps)(hn:(Qc lg).Nodup):(lg.any λe=>decide ((e.1:Int)=p/\X3 e.2=ps))=false:=by
 rw[QI];intro e b c;obtain⟨d,f⟩:=bL c;cases a:Dd lg p with
 |none=>exact Uz a e b d
 |some r=>
  obtain⟨n,g,hm⟩:=Pc a;have e1:e.1=n:=X
  have:e.2=r:=Xbt hn (n:=n) (by rw[<-e1];exact b) hm;exact h r a (by rw[<-this];exact f)
def XdC(M:RmM):Prop:=∀(k:Nat) (x:Sm),M.shs[k]?=some x->x.Pos
theorem Zu.mpos(h:Zu F w R M):XdC M:=λk x a=>by
 obtain⟨G,_,b,_⟩:=h.shelf a;exact b.pos
theorem Xe9{p:α->Bool}{l:List α}(_ : -1<=idx p l):idx p l<l.length:=by
 by_cases h:∃k,∃a:k<l.length,p l[k]=true/\∀j (b:j<l.length),j<k->p l[j]=false
 .obtain⟨k,a,d,f⟩:=h;rw[J1 a f d];omega
 .rw[Ij λj b=>?_]
  .omega
  .induction j using QS with
   |ind j ih=>
    cases g:p l[j] with
    |false=>rfl
    |true=>exact absurd ⟨j,b,g,λi hi c=>ih i c hi⟩ h
theorem K0{n:Int}(h:Xl zs n≠-1):0<=Xl zs n/\Xl zs n<zs.length:=by
 have a:=Su zs n;refine⟨X,?_⟩;unfold Xl at *;split at h
 .exact absurd rfl h
 .rename_i b
  rw[bJ b] at a;rw[bJ b];exact Xe9 a
theorem XjU(hok:M.Ok c)(hw:0<=who)(h:Ql c M size=0):C5 c M who size=0:=by
 have a:(Df c M size:Int)<=M.pl.free.length:=by
  unfold Ql at h;split at h
  .exact absurd h xD
  .split at h
   .exact absurd h xD
   .omega
 unfold C5;rw[bJ X,bJ X];split
 .rfl
 .rename_i b
  obtain⟨i,j⟩:=K0 b;obtain⟨k,d⟩:=XE i;rw[d] at j⊢;have f:k<M.shs.length:=xH hok.n
  have g:=Pz f;unfold Gt;rw[g];simp only
  unfold Qr;rw[bJ X,bJ];intro ⟨l,m⟩;unfold Df at a;rw[bJ b,d] at a;unfold Qm at a;rw[g] at a;simp only[l,m] at a;omega
theorem Xnh{q:PlM}{t:Int}:Zs {M with shs:=M.shs.set k x,pl:=q,tot:=t} j=if k=j/\k<M.shs.length then some x else Zs M j:=by
 unfold Zs;rw[bK (Int.natCast_nonneg _),bK (Int.natCast_nonneg _),XA];show(M.shs.set k x)[j]?=_
 by_cases e:k=j
 .subst e;by_cases a:k<M.shs.length
  .rw[bK ⟨rfl,a⟩,XH a]
  .rw[bJ (λh=>a h.2),ZF (by rw[XG];omega),ZF X]
 .rw[bJ (λh=>e h.1),XK e]
theorem XlB{n i:Int}(h:Q0 x n i=-1):Ca x n i≠0:=by
 unfold Q0 at h;unfold Ca;cases a:Zk x.pg n with
 |none=>simp
 |some p=>
  rw[a] at h;simp only at h⊢
  unfold Q6;split
  .decide
  .first|decide|(rw[bK h];decide)
theorem Td{k:Int}(h:k<0):Zs M k=none:=Te (.inl h)
theorem XcH{l:PgL}{q:List Int}(hn:(l.map (·.1)).Nodup)(hq:(n,q)∈l)(m:Int):Zk (Zx l n p) m=if m=n then some p else Zk l m:=by
 by_cases e:m=n
 .rw[bK e,e];exact Xn6 hn hq
 .rw[bJ e]
  clear hn hq
  induction l with
  |nil=>rfl
  |cons a r ih=>
   obtain⟨k,t⟩:=a;by_cases c:k=n
   .have:Zx ((k,t)::r) n p=(n,p)::Zx r n p:=by show(if k=n then (n,p) else (k,t))::Zx r n p=_;rw[bK c]
    rw[this];unfold Zk;rw[bJ (λh=>e h.symm),bJ (λh=>e X)];exact ih
   .have:Zx ((k,t)::r) n p=(k,t)::Zx r n p:=by show(if k=n then (n,p) else (k,t))::Zx r n p=_;rw[bJ c]
    rw[this];unfold Zk;by_cases b:(k:Int)=m
    .rw[bK b,bK b]
    .rw[bJ b,bJ b];exact ih
theorem Xn4{l:PgL}(hn:n∉l.map (·.1))(m:Int):Zk (l++[(n,p)]) m=if m=n then some p else Zk l m:=by
 induction l with
 |nil=>
  show Zk [(n,p)] m=_
  unfold Zk;by_cases e:(n:Int)=m
  .rw[bK e,bK e.symm]
  .rw[bJ e,bJ (λh=>e h.symm)];rfl
 |cons a r ih=>
  obtain⟨k,t⟩:=a;have c:k≠n:=λh=>hn (by simp[h]);have hr:n∉r.map (·.1):=λh=>hn (by simp at h⊢;exact .inr h);show(if (k:Int)=m then some t else Zk (r++[(n,p)]) m)=if m=n then some p else (if (k:Int)=m then some t else Zk r m)
  rw[ih hr];by_cases b:(k:Int)=m
  .rw[bK b,bK b,bJ X]
  .rw[bJ b,bJ b]
theorem Xn5{l:PgL}(m:Int):Zk (Qz l n) m=if m=n then none else Zk l m:=by
 induction l with
 |nil=>show none=_;split <;> rfl
 |cons a r ih=>
  obtain⟨k,t⟩:=a;by_cases c:k=n
  .have:Qz ((k,t)::r) n=Qz r n:=by unfold Qz;rw[ZJ];simp[c]
   rw[this,ih];by_cases e:m=n
   .rw[bK e,bK e]
   .rw[bJ e,bJ e];show _=if (k:Int)=m then some t else Zk r m
    rw[bJ X]
  .have:Qz ((k,t)::r) n=(k,t)::Qz r n:=by unfold Qz;rw[ZJ];simp[c]
   rw[this];show(if (k:Int)=m then some t else Zk (Qz r n) m)=if m=n then none else (if (k:Int)=m then some t else Zk r m)
   rw[ih];by_cases b:(k:Int)=m
   .rw[bK b,bK b,bJ X]
   .rw[bJ b,bJ b]
theorem Vn{v:Int}(h:k<p.length)(j:Int):Yf (p.set k v) j=if j=k then v else Yf p j:=by
 unfold Yf;by_cases a:0<=j
 .obtain⟨j,rfl⟩:=XE a;rw[bK a,bK a];show(p.set k v).getD j (-1)=_
  rw[O6];by_cases e:k=j
  .subst e;rw[bK ⟨rfl,h⟩,bK rfl]
  .rw[bJ (λh=>e h.1),bJ X];rfl
 .rw[bJ a,bJ a,bJ X]
theorem St{j:Int}(h:Yf p j≠-1):0<=j/\j<p.length:=by
 unfold Yf at h;split at h
 .rename_i a
  refine⟨a,?_⟩;refine Int.not_le.1 λb=>h ?_;rw[XB,ZF X];rfl
 .exact absurd rfl h
theorem XbV{n i:Int}(hok:x.Ok)(h:Q0 x n i≠-1):∃(m:Nat) (p:List Int),n=m/\(m,p)∈x.pg/\Zk x.pg n=some p/\0<=i/\i<x.cF/\Q0 x n i=Yf p i:=by
 unfold Q0 at h⊢;cases c:Zk x.pg n with
 |none=>rw[c] at h;exact absurd rfl h
 |some p=>
  rw[c] at h;simp only at h
  obtain⟨m,rfl,hm⟩:=Iy c;have d:=(hok.cI _ hm).2.1;obtain⟨a,b⟩:=St h;exact⟨m,p,rfl,hm,rfl,a,by simp only at d;omega,rfl⟩
theorem Xj2{n i:Int}:Ca x n i=0↔Q0 x n i≠-1:=by
 constructor
 .intro h d;exact XlB d h
 .intro h;unfold Q0 at h;unfold Ca;cases c:Zk x.pg n with
  |none=>rw[c] at h;exact absurd rfl h
  |some p=>
   rw[c] at h;simp only at h⊢
   obtain⟨a,b⟩:=St h;unfold Q6;rw[bJ X,bJ h]
theorem Xlv{n i:Int}(hw:0<=who):H4 x n i who=0↔Q0 x n i≠-1:=by
 unfold Q0 H4;cases d:Zk x.pg n with
 |none=>simp
 |some p=>
  simp only
  unfold Ap;constructor
  .intro h c;split at h
   .cases h
   .first|(rw[bK c] at h;cases h)|(cases h)
  .intro h;obtain⟨a,b⟩:=St h;rw[bJ X,bJ h]
theorem Xj4{n i:Int}(hok:x.Ok)(h:Q0 x n i≠-1)(m j:Int):Q0 (Ag x n i) m j=if m=n/\j=i then -1 else Q0 x m j:=by
 obtain⟨k,p,rfl,o,l,t,A,e⟩:=XbV hok h;obtain⟨i,rfl⟩:=XE t;rw[e] at h;have u:=(hok.cI _ o).2.1;simp only at u
 have q:Q6 p i=0:=by unfold Q6;rw[bJ X,bJ h]
 have w:Ag x (k:Nat) i=x.giveAt k p i:=by unfold Ag;rw[l];simp only;rw[bK q,XA]
 rw[w];have d:Yr p i=p.set i (-1):=by unfold Yr;rw[bK q,XA]
 unfold Sm.giveAt;simp only
 by_cases r:Xt (Yr p i)=0
 .rw[bK r];unfold Q0;simp only
  rw[Xn5];by_cases hm:m=k
  .rw[bK hm];by_cases c:j=i
   .rw[bK ⟨hm,c⟩]
   .rw[bJ (λh=>c h.2),hm,l];simp only
    have s:Yf (Yr p i) j=-1:=Decidable.byContradiction λf=>by
     obtain⟨a,b⟩:=St f;obtain⟨j,rfl⟩:=XE a;have g:j<(Yr p i).length:=X
     have:=Hd (v:=-1) g;rw[bK rfl] at this;have y:(Yr p i).getD j 0≠-1:=by
      rw[O4 g];intro z;apply f
      unfold Yf;rw[bK a,XA];exact z
     rw[bJ y] at this;omega
    rw[d,Vn X,bJ c] at s;exact s.symm
  .rw[bJ hm,bJ (λh=>hm h.1)]
 .rw[bJ r];unfold Q0;simp only
  rw[XcH hok.nodup o];by_cases hm:m=k
  .rw[bK hm,hm,l];simp only
   rw[d,Vn X];by_cases c:j=i
   .rw[bK c,bK ⟨by trivial,c⟩]
   .rw[bJ c,bJ (λh=>c h.2)]
  .rw[bJ hm,bJ (λh=>hm h.1)]
theorem Xlx{n i:Int}(hok:x.Ok)(hw:0<=who)(h:Q0 x n i≠-1)(m j:Int):Q0 (Bc x n i who) m j=if m=n/\j=i then who else Q0 x m j:=by
 obtain⟨k,p,rfl,b,c,f,q,e⟩:=XbV hok h;obtain⟨i,rfl⟩:=XE f;rw[e] at h;have g:=(hok.cI _ b).2.1;simp only at g
 have l:Ap p i who=0:=by unfold Ap;rw[bJ X,bJ h]
 have o:Bc x (k:Nat) i who=x.ownAt k p i who:=by unfold Bc;rw[c];simp only[XA]
 rw[o];have d:By p i who=p.set i who:=by unfold By;rw[bK l,XA]
 unfold Sm.ownAt Q0;simp only
 rw[XcH hok.nodup b];by_cases hm:m=k
 .rw[bK hm,hm,c];simp only
  rw[d,Vn X];by_cases a:j=i
  .rw[bK a,bK ⟨by trivial,a⟩]
  .rw[bJ a,bJ (λh=>a h.2)]
 .rw[bJ hm,bJ (λh=>hm h.1)]
theorem XhU(hok:x.Ok)(hw:0<=who)(hp:(n,p)∈x.pg)(hf:Xt p≠x.cF)(m j:Int):Q0 (x.takeAt n p who) m j=(if m=n/\j=Yn p then who else Q0 x m j)/\Q0 x n (Yn p)=-1/\0<=Yn p/\Yn p<x.cF:=by
 have d:=(hok.cI _ hp).2.1;simp only at d
 have f:=Cb hok.nodup hp;obtain⟨e1,_⟩:=Np (p:=p) (who:=who) hw (by rw[d];exact hf);have l:¬Yn p<0:=λe=>xH (Vm.1 e)
 obtain⟨b,c⟩:=Vr l;obtain⟨k,g⟩:=XE (show 0<=Yn p by omega);rw[g] at b c⊢;simp only[XA] at b c;have i:Qk p who=p.set k who:=by unfold Qk;rw[bK e1,g,XA]
 refine⟨?_,?_,X,X⟩
 .unfold Sm.takeAt Q0;simp only
  rw[XcH hok.nodup hp,i];by_cases hm:m=n
  .rw[bK hm,hm,f];simp only
   rw[Vn b];by_cases a:j=k
   .rw[bK a,bK ⟨by trivial,a⟩]
   .rw[bJ a,bJ (λh=>a h.2)]
  .rw[bJ hm,bJ (λh=>hm h.1)]
 .unfold Q0;rw[f];simp only
  unfold Yf;rw[bK X,XA];exact c
structure XiL(x:Sm)(pl:PlM)(who:Int):Prop where
 own:∀m j,Q0 (Ad x pl who) m j=if m=B1 x pl who/\j=B0 x pl who then who else Q0 x m j
 free:Q0 x (B1 x pl who) (B0 x pl who)=-1
 n:0<=B1 x pl who/\B1 x pl who<pl.own.length
 a:0<=B0 x pl who/\B0 x pl who<x.cF
 used:Qf (Ad x pl who).pg=Qf x.pg+1
 ok:(Ad x pl who).Ok
theorem XhV{pl:PlM}(hok:x.Ok)(hof:x.Of pl)(hg:pl.Good)(hE:Qr x pl who=0):XiL x pl who:=by
 rcases L5 x pl who with⟨o,_⟩|⟨_,s,⟨n,r,t,d,z,h,i,f⟩|⟨n,r,t,hf,d,z,h,i,f⟩⟩
 .exact absurd hE o
 .obtain⟨p,c⟩:=hok.osub n (by rw[t];simp);rw[Cb hok.nodup c] at h;simp only[YI] at h;rw[h] at d f;have g:=(hok.cI _ c).2.2.1 (by rw[t];simp);simp only at g
  have u:=(hok.cI _ c).2.1;simp only at u
  have T:=λm j=>XhU hok s c g m j;obtain⟨_,e2⟩:=Np (p:=p) (who:=who) s (by rw[u];exact g);refine⟨λm j=>by rw[d,i,f];exact(T m j).1,by rw[i,f];exact(T 0 0).2.1,?_,by rw[f];exact(T 0 0).2.2,?_,by rw[d];exact hok.takeAt s c (by rw[t];simp)⟩
  .rw[i];have:=(hof _ c).1;simp only at this;omega
  .rw[d];have:=Ra (p:=Qk p who) hok.nodup c;show Qf (Zx _ _ _)=_
   omega
 .have l:=O3 hok hof hg (n:=n) (by rw[hf];simp);have C:=(hg.free n (by rw[hf];simp)).1;have w:n<1024:=xH hg.len
  have q:=hok.fresh w l;have c:(n,List.replicate x.cF (-1))∈(x.fresh n).pg:=QC _ xS;rw[Cb q.nodup c] at h;simp only[YI] at h;rw[h] at d f;have D:=hok.blk;have g:Xt (List.replicate x.cF (-1))≠(x.fresh n).cF:=by rw[Ip];show 0≠x.cF;omega
  have T:=λm j=>XhU q s c g m j;have v:∀m j,Q0 (x.fresh n) m j=Q0 x m j:=λm j=>by
   unfold Q0;show(match Zk (x.pg++[(n,List.replicate x.cF (-1))]) m with|some p=>Yf p j|none=>-1)=_
   rw[Xn4 l];by_cases hm:m=n
   .rw[bK hm];have A:Zk x.pg m=none:=by
     cases hg:Zk x.pg m with
     |none=>rfl
     |some p=>
      obtain⟨k,E,y⟩:=Iy hg;have:k=n:=X
      subst this;exact absurd (XP.2 ⟨_,y,rfl⟩) l
    rw[A];simp only
    refine Decidable.byContradiction λo=>?_;obtain⟨a,b⟩:=St o;apply o
    unfold Yf;rw[bK a,XB,ZD];split <;> rfl
   .rw[bJ hm];rfl
  have u:(List.replicate x.cF (-1:Int)).length=x.cF:=XJ;obtain⟨_,e2⟩:=Np (p:=List.replicate x.cF (-1)) (who:=who) s (by rw[Ip,u];omega);refine⟨λm j=>by rw[d,i,f,(T m j).1,v],by rw[i,f,<-v];exact(T 0 0).2.1,by rw[i];omega,by rw[f];exact(T 0 0).2.2,?_,by rw[d];exact q.takeAt s c (by show n∈n::x.cG;simp)⟩;rw[d];have B:=Ra (p:=Qk (List.replicate x.cF (-1)) who) q.nodup c;have F:Qf (x.fresh n).pg=Qf x.pg:=by show Qf (x.pg++_)=_;rw[XcJ,Ip];rfl
  rw[Ip] at B e2;show Qf (Zx _ _ _)=_
  omega
structure Y1(c:Conf)(M:RmM):Prop where
 ok:M.Ok c
 cU:Jt M
 pos:XdC M
theorem XcI(hp:x.Pos)(h:0<Xt p):∀e∈Zx x.pg n p,0<Xt e.2:=λe a=>by
 rcases G9 a with⟨rfl,_⟩|⟨_,a⟩
 .exact h
 .exact hp e a
theorem XoE{pl:PlM}(hok:x.Ok)(hpos:x.Pos)(hof:x.Of pl)(hg:pl.Good):(Ad x pl who).Pos:=by
 rcases L5 x pl who with⟨_,h,_⟩|⟨_,j,⟨n,r,f,g,m,a,_⟩|⟨n,r,f,hf,g,m,a,_⟩⟩
 .rw[h];exact hpos
 .obtain⟨p,b⟩:=hok.osub n (by rw[f];simp);rw[Cb hok.nodup b] at a;simp only[YI] at a;rw[g,a];have c:=(hok.cI _ b).2.1;have d:=(hok.cI _ b).2.2.1 (by rw[f];simp);simp only at c d
  obtain⟨_,e2⟩:=Np (p:=p) (who:=who) j (by rw[c];exact d);exact XcI hpos X
 .have i:=O3 hok hof hg (n:=n) (by rw[hf];simp);have k:n<1024:=xI (hg.free n (by rw[hf];simp)).1 hg.len
  have b:(n,List.replicate x.cF (-1))∈(x.fresh n).pg:=QC _ xS;rw[Cb (hok.fresh k i).nodup b] at a;simp only[YI] at a;rw[g,a];have c:(List.replicate x.cF (-1:Int)).length=x.cF:=XJ;have o:=hok.blk;obtain⟨_,e2⟩:=Np (p:=List.replicate x.cF (-1)) (who:=who) j (by rw[Ip,c];omega);intro e he;rcases G9 he with⟨rfl,_⟩|⟨l,he⟩
  .show 0<Xt (Qk _ _);omega
  .rcases XS.1 he with he|he
   .exact hpos e he
   .have:e=(n,List.replicate x.cF (-1)):=xU he
    subst this;exact absurd rfl l
theorem Xj5{n i:Int}(hpos:x.Pos):(Ag x n i).Pos:=by
 unfold Ag;cases d:Zk x.pg n with
 |none=>exact hpos
 |some p=>
  simp only
  by_cases a:Q6 p i=0
  .rw[bK a];unfold Sm.giveAt;simp only
   by_cases b:Xt (Yr p i)=0
   .rw[bK b];intro e c;exact hpos e (Jc.1 c).2
   .rw[bJ b];exact XcI hpos X
  .rw[bJ a];exact hpos
theorem Xlz{n i:Int}(hpos:x.Pos):(Bc x n i who).Pos:=by
 unfold Bc;cases a:Zk x.pg n with
 |none=>exact hpos
 |some p=>
  obtain⟨m,rfl,hm⟩:=Iy a;exact XcI hpos (by rw[Vo];exact hpos _ hm)
theorem Xj3{n i:Int}(hok:x.Ok):(Ag x n i).Ok:=by
 unfold Ag;cases b:Zk x.pg n with
 |none=>exact hok
 |some p=>
  obtain⟨m,rfl,hm⟩:=Iy b;simp only[XA];by_cases a:Q6 p i=0
  .rw[bK a];exact hok.giveAt hm a
  .rw[bJ a];exact hok
theorem Xlw{n i:Int}(hok:x.Ok):(Bc x n i who).Ok:=by
 unfold Bc;cases a:Zk x.pg n with
 |none=>exact hok
 |some p=>
  obtain⟨m,rfl,hm⟩:=Iy a;simp only[XA];exact hok.ownAt hm
theorem XoD{pl:PlM}(hok:x.Ok)(hof:x.Of pl)(hg:pl.Good):(Ad x pl who).Ok:=by
 by_cases a:Qr x pl who=0
 .exact(XhV hok hof hg a).ok
 .have:Ad x pl who=x:=by unfold Ad;rw[bJ a]
  rw[this];exact hok
section
variable {c:Conf}{M:RmM}
theorem Y1.set{k:Nat}{x x':Sm}{q:PlM}(h:Y1 c M)(hx:M.shs[k]?=some x)(hE:Gd M.pl q x.cL)(hc:x'.cL=x.cL)(hb:x'.cF=x.cF)(hs:Zd q+x.pg.length=Zd M.pl+x'.pg.length)(hok:x'.Ok)(hof:x'.Of q)(hpos:x'.Pos):Y1 c (Gs M k x' q):=by
 have f:=(XC.1 hx).1;obtain⟨e1,_⟩:=h.ok.cI k x hx;have get:∀(j:Nat) (y:Sm),(Gs M k x' q).shs[j]?=some y->(j=k/\y=x')\/(j≠k/\M.shs[j]?=some y):=λj y d=>by
  replace d:(M.shs.set k x')[j]?=some y:=d;by_cases e:k=j
  .subst e;rw[XH f] at d;cases d;exact .inl ⟨rfl,rfl⟩
  .rw[XK e] at d;exact .inr ⟨λh=>e h.symm,d⟩
 refine⟨h.ok.set h.cU.cV hx hE hc hb hs,⟨λj y d=>?_,hE.cV h.cU.cV ((h.cU.sh k x hx).1.cL)⟩,λj y d=>?_⟩
 .rcases get j y d with⟨_,rfl⟩|⟨g,d⟩
  .exact⟨hok,hof⟩
  .obtain⟨a,b⟩:=h.cU.sh j y d;obtain⟨e2,_⟩:=h.ok.cI j y d;exact⟨a,hE.of h.cU.cV b X X⟩
 .rcases get j y d with⟨_,rfl⟩|⟨_,d⟩
  .exact hpos
  .exact h.pos j y d
theorem Y1.tot(h:Y1 c M){t:Int}(ht:0<=t/\t<=4611686018427387904):Y1 c {M with tot:=t}:=⟨{h.ok with tot:=ht},⟨h.cU.sh,h.cU.cV⟩,h.pos⟩
theorem Y1.cT(h:Y1 c M)(n:Int):Y1 c {M with tot:=Xu M.tot n}:=h.tot (Or h.ok.tot)
theorem XgZ(k:Nat)(x:Sm)(q:PlM):Ix M k x q={Gs M k x q with tot:=Xu M.tot (Ek M.pl q)}:=rfl
theorem Y1.take(h:Y1 c M)(k who:Int):Y1 c (Qe M k who):=by
 unfold Qe;cases b:Zs M k with
 |none=>exact h
 |some x=>
  obtain⟨n,rfl,d,a⟩:=Fz b;simp only[XA];split
  .obtain⟨xo,xf⟩:=h.cU.sh n x a;obtain⟨e1,e2,e3,e4⟩:=W9 x M.pl who h.cU.cV xo.cL;rw[XgZ];exact(h.set a e1 e2 e3 e4 (XoD xo xf h.cU.cV) (XhW x M.pl who xf h.cU.cV) (XoE xo (h.pos n x a) xf h.cU.cV)).tot (Or h.ok.tot)
  .exact h
theorem Y1.give(h:Y1 c M)(k n i:Int):Y1 c (Qw M k n i):=by
 unfold Qw;cases b:Zs M k with
 |none=>exact h
 |some x=>
  obtain⟨m,rfl,d,a⟩:=Fz b;simp only[XA];split
  .obtain⟨xo,xf⟩:=h.cU.sh m x a;obtain⟨e1,e2,e3,e4⟩:=Uo x M.pl n i xo xf;rw[XgZ];exact(h.set a e1 e2 e3 e4 (Xj3 xo) (XeU x M.pl n i xo xf) (Xj5 (h.pos m x a))).tot (Or h.ok.tot)
  .exact h
theorem Y1.own(h:Y1 c M)(k n i who:Int):Y1 c (Qq M k n i who):=by
 unfold Qq;cases b:Zs M k with
 |none=>exact h
 |some x=>
  obtain⟨m,rfl,d,a⟩:=Fz b;simp only[XA];obtain⟨xo,xf⟩:=h.cU.sh m x a;obtain⟨e1,e2,e3,e4⟩:=XbR x M.pl n i who;exact h.set a e1 e2 e3 e4 (Xlw xo) (XfV x M.pl n i who xf) (Xlz (h.pos m x a))
theorem Y1.big(h:Y1 c M){many:Nat}(h1:1<=many)(hm:many<=M.pl.free.length):Y1 c (Ew M many):=by
 obtain⟨d,_⟩:=Nq (who:=((M.shs.length:Nat):Int)) X h.cU.cV many hm;exact⟨h.ok.big h.cU.cV h1 hm,⟨λk x f=>by
  obtain⟨a,b⟩:=h.cU.sh k x f;exact⟨a,Xf9 X h.cU.cV hm a.cL b⟩,d⟩,h.pos⟩
theorem XkN(h:M.Ok c){r:List Nat}(hm:(n,r)∈M.lg):(n::r).Nodup:=by
 obtain⟨A,B,eA,_⟩:=Pb h.nd hm;have e:Qc M.lg=Qc A++((n::r)++Qc B):=by rw[eA,Kt];rfl
 have a:=h.nd;rw[e] at a;exact(XR.1 (XR.1 a).2.1).1
theorem Y1.cE(h:Y1 c M){n:Nat}{r:List Nat}(hm:(n,r)∈M.lg):Y1 c (Iv M n r):=by
 obtain⟨a,b⟩:=h.ok.cE h.cU.cV hm;have f:∀m∈n::r,m<M.pl.own.length/\M.pl.own.getD m 0=(M.shs.length:Int):=λm d=>h.ok.lg m (Jb hm d);exact⟨a,⟨λk x g=>by
  obtain⟨xo,xf⟩:=h.cU.sh k x g;have j:k<M.shs.length:=(XC.1 g).1;have i:=(h.ok.cI k x g).1;exact⟨xo,Xf8 h.cU.cV (XkN h.ok hm) (λm d=>⟨(f m d).1,xH (f m d).2⟩) xf (λm d=>xH (f m d).2)⟩,b⟩,h.pos⟩
theorem XjR(hmay:Xy c=true)(h:Ql c M size=0)(hp:Xl c.bT size=-1):2<=(Zl size c.size).toNat/\(Zl size c.size).toNat<=M.pl.free.length/\1<=size/\size<=c.cH:=by
 have hf:=Zr hmay;have d:(Df c M size:Int)<=M.pl.free.length/\¬(size<1\/c.cH<size):=by
  unfold Ql at h;split at h
  .exact absurd h xD
  .split at h
   .exact absurd h xD
   .exact⟨X,by assumption⟩
 have e:Df c M size=Zl size c.size:=by unfold Df;rw[bK hp]
 have a:2<=Zl size c.size:=by
  have f:=hf.size;have b:=hf.cH;have g:0<=(size-1)/c.size:=ZY X X;have i:(size-1)/c.size<=size-1:=QL _ X;have e4:Zj size c.size=(size-1)/c.size+1:=by unfold Zj;rw[bJ X]
  unfold Zl;rw[e4,bJ X];omega
 omega
theorem XgT{q:PlM}(hk:k<M.shs.length)(j:Int):Zs (Gs M k x' q) j=if j=k then some x' else Zs M j:=by
 by_cases a:j<0
 .rw[bJ X,Td a,Td a]
 .obtain⟨j,rfl⟩:=XE (show 0<=j by omega);have:=Xnh (M:=M) (k:=k) (j:=j) (x:=x') (q:=q) (t:=M.tot);have e:Gs M k x' q={M with shs:=M.shs.set k x',pl:=q,tot:=M.tot}:=rfl;rw[e,this];by_cases h:k=j
  .rw[bK ⟨h,hk⟩,bK X]
  .rw[bJ (λb=>h b.1),bJ X]
theorem Xcx{q:PlM}(hx:M.shs[k]?=some x)(j n a:Int):Zi (Gs M k x' q) j n a=if j=k then Q0 x' n a else Zi M j n a:=by
 unfold Zi;rw[XgT ((XC.1 hx).1)];by_cases h:j=k
 .rw[bK h,bK h]
 .rw[bJ h,bJ h]
theorem XgV(k:Nat)(x:Sm)(q:PlM)(j n a:Int):Zi (Ix M k x q) j n a=Zi (Gs M k x q) j n a:=rfl
theorem P4(hx:M.shs[k]?=some x)(n a:Int):Zi M (k:Nat) n a=Q0 x n a:=by
 unfold Zi;rw[Pz ((XC.1 hx).1),((XC.1 hx).2)]
theorem V5(h:Y1 c M){k n a:Int}(ho:Zi M k n a≠-1):∃(j:Nat) (x:Sm),k=j/\j<c.bT.length/\M.shs[j]?=some x/\Q0 x n a=Zi M k n a/\0<=n/\n<c.bS/\0<=a/\a<A8 c k:=by
 unfold Zi at ho;cases d:Zs M k with
 |none=>rw[d] at ho;exact absurd rfl ho
 |some x=>
  rw[d] at ho;simp only at ho
  obtain⟨j,rfl,l,b⟩:=Fz d;obtain⟨xo,xf⟩:=h.cU.sh j x b;obtain⟨m,p,rfl,hm,_,g,o,_⟩:=XbV xo ho;have q:=(h.ok.cI j x b).2;have f:=(xf _ hm).1;have i:=h.ok.own;have r:=h.ok.n;exact⟨j,x,rfl,X,b,(P4 b _ _).symm,X,by simp only at f;omega,g,X⟩
theorem Xni(h:Y1 c M){k:Int}(hE:Gt M k who=0):∃(j:Nat) (x:Sm),k=j/\j<M.shs.length/\M.shs[j]?=some x/\Qr x M.pl who=0/\Qe M k who=Ix M j (Ad x M.pl who) (B2 x M.pl who)/\Ey M k who=B1 x M.pl who/\Ex M k who=B0 x M.pl who:=by
 unfold Gt at hE;cases a:Zs M k with
 |none=>rw[a] at hE;exact absurd (show(1:Int)=0 from hE) xD
 |some x=>
  rw[a] at hE;obtain⟨j,rfl,b,d⟩:=Fz a;simp only at hE
  exact⟨j,x,rfl,b,d,hE,by unfold Qe;rw[a];simp only;rw[bK hE,XA],by unfold Ey;rw[a],by unfold Ex;rw[a]⟩
theorem XcZ(h:Y1 c M){k:Int}(hE:Gt M k who=0):(∀j n a,Zi (Qe M k who) j n a=if j=k/\n=Ey M k who/\a=Ex M k who then who else Zi M j n a)/\Zi M k (Ey M k who) (Ex M k who)=-1:=by
 obtain⟨i,x,rfl,hi,b,g,e1,e2,e3⟩:=Xni h hE;obtain⟨xo,xf⟩:=h.cU.sh i x b;have T:=XhV xo xf h.cU.cV g;refine⟨λj n a=>?_,by rw[e2,e3,P4 b];exact T.free⟩;rw[e1,e2,e3,XgV,Xcx b];by_cases d:j=i
 .rw[bK d,T.own,d,P4 b];by_cases f:n=B1 x M.pl who/\a=B0 x M.pl who
  .rw[bK f,bK ⟨rfl,f⟩]
  .rw[bJ f,bJ (λh=>f h.2)]
 .rw[bJ d,bJ (λh=>d h.1)]
theorem XeV(h:Y1 c M){k n i:Int}(ho:Zi M k n i≠-1):J9 M k n i=0/\∀j m a,Zi (Qw M k n i) j m a=if j=k/\m=n/\a=i then -1 else Zi M j m a:=by
 obtain⟨l,x,rfl,_,b,e,_⟩:=V5 h ho;obtain⟨xo,xf⟩:=h.cU.sh l x b;have g:Zs M (l:Nat)=some x:=by rw[Pz ((XC.1 b).1)];exact congrArg some (XC.1 b).2
 rw[<-e] at ho;have o:=Xj2.2 ho;have e1:Qw M (l:Nat) n i=Ix M l (Ag x n i) (Bo x M.pl n i):=by unfold Qw;rw[g];simp only;rw[bK o,XA]
 refine⟨by unfold J9;rw[g];exact o,λj m a=>?_⟩;rw[e1,XgV,Xcx b];by_cases d:j=l
 .rw[bK d,Xj4 xo ho,d,P4 b];by_cases f:m=n/\a=i
  .rw[bK f,bK ⟨rfl,f⟩]
  .rw[bJ f,bJ (λh=>f h.2)]
 .rw[bJ d,bJ (λh=>d h.1)]
theorem Xly(h:Y1 c M){k n i:Int}(hw:0<=who)(ho:Zi M k n i≠-1):P0 M k n i who=0/\∀j m a,Zi (Qq M k n i who) j m a=if j=k/\m=n/\a=i then who else Zi M j m a:=by
 obtain⟨l,x,rfl,_,b,e,_⟩:=V5 h ho;obtain⟨xo,xf⟩:=h.cU.sh l x b;have g:Zs M (l:Nat)=some x:=by rw[Pz ((XC.1 b).1)];exact congrArg some (XC.1 b).2
 rw[<-e] at ho;have e1:Qq M (l:Nat) n i who=Gs M l (Bc x n i who) M.pl:=by unfold Qq;rw[g];simp only[XA]
 refine⟨by unfold P0;rw[g];exact(Xlv hw).2 ho,λj m a=>?_⟩;rw[e1,Xcx b];by_cases d:j=l
 .rw[bK d,Xlx xo hw ho,d,P4 b];by_cases f:m=n/\a=i
  .rw[bK f,bK ⟨rfl,f⟩]
  .rw[bJ f,bJ (λh=>f h.2)]
 .rw[bJ d,bJ (λh=>d h.1)]
end
theorem Xbk{x:List Bool}(h:j<x.length):x.getD j false=x[j]:=by rw[XB,XD h];rfl
theorem Xkn{x:List Bool}(h:cnt x≠0):∃t,t<x.length/\x.getD t false=true/\R8 x=(t:Int):=by
 have key:∀m,m<=x.length->(∀j,m<=j->x.getD j false=false)->(∀j,x.getD j false=false)\/∃t,t<x.length/\x.getD t false=true/\∀j,t<j->x.getD j false=false:=by
  intro m
  induction m with
  |zero=>intro _ h;exact .inl λj=>h j (XQ _)
  |succ m ihm=>
   intro hm h;cases f:x.getD m false with
   |true=>exact .inr ⟨m,X,f,λj a=>h j a⟩
   |false=>exact ihm X λj a=>(Nat.eq_or_lt_of_le a).elim (λe=>e▸f) (λe=>h j e)
 rcases key x.length (XF _) (λj a=>by rw[XB,ZF a];rfl) with k|⟨t,b,c,g⟩
 .exfalso
  apply h
  have d:x=List.replicate x.length false:=by
   apply List.ext_getElem xS
   intro j l n;rw[<-Xbk l,k j];simp
  rw[d,Xa7]
 .exact⟨t,b,c,Xcs (p:=id) b (λj a i=>by rw[<-Xbk a];exact g j i) (by rw[<-Xbk b];exact c)⟩
theorem XlL(h:0<Xt p):∃t,t<p.length/\Lt p=(t:Int)/\p.getD t (-1)≠-1:=by
 obtain⟨t,a,b,c⟩:=Xkn (x:=Y9 p) (by unfold Xt at h;omega);rw[Fv] at a;rw[Sr] at b;exact⟨t,a,c,xU b⟩
def L4(x:Sm):Int×Int×Int×Int:=if 2<=x.cG.length then (Bu (-1) x.cG,Lt ((Zk x.pg (Bu (-1) x.cG)).getD []),Cg x.cG,Yn ((Zk x.pg (Cg x.cG)).getD [])) else (0,0,0,0)
def Yu(M:RmM)(k:Int):Int×Int×Int×Int:=match Zs M k with|none=>(0,0,0,0)|some x=>L4 x
theorem XgY(M:RmM)(k:Int):Nt M k=K1 (Yu M k).1 (Yu M k).2.1 (Yu M k).2.2.1 (Yu M k).2.2.2:=by
 unfold Nt Yu;cases Zs M k with
 |none=>rfl
 |some x=>
  show H5 x=K1 (L4 x).1 (L4 x).2.1 (L4 x).2.2.1 (L4 x).2.2.2
  unfold H5 L4;split <;> rfl
structure XdF(M:RmM)(k:Nat):Prop where
 own:Zi M k (Yu M k).1 (Yu M k).2.1≠-1
 e:∀who:Int,0<=who->Gt M k who=0
 n:∀who:Int,0<=who->Ey M k who=(Yu M k).2.2.1
 a:∀who:Int,0<=who->Ex M k who=(Yu M k).2.2.2
 ne:(Yu M k).1≠(Yu M k).2.2.1
theorem XlQ(h:Y1 c M)(hB:Iw M k=true):XdF M k:=by
 unfold Iw at hB;cases l:Zs M k with
 |none=>rw[l] at hB;exact absurd hB xD
 |some x=>
  rw[l] at hB;have d:=bL hB;obtain⟨j,K,J,y⟩:=Fz l;obtain rfl:k=j:=X
  obtain⟨xo,xf⟩:=h.cU.sh k x y;obtain⟨f,B,C,l',q⟩:=(Kr (-1) x.cG).resolve_left (λe=>by rw[e.1] at d;simp at d);obtain⟨t,r,hr⟩:∃t r,x.cG=t::r:=by
   cases g:x.cG with
   |nil=>rw[g] at d;simp at d
   |cons t r=>exact⟨t,r,rfl⟩
  obtain⟨p,z⟩:=xo.osub f B;obtain⟨D,u⟩:=xo.osub t (by rw[hr];simp);have o:Yu M k=(((f:Nat):Int),Lt p,((t:Nat):Int),Yn D):=by
   unfold Yu;rw[l];show L4 x=_
   unfold L4;rw[bK d,C,hr];show((f:Int),Lt ((Zk x.pg f).getD []),(t:Int),Yn ((Zk x.pg t).getD []))=_
   rw[Cb xo.nodup z,Cb xo.nodup u];rfl
  have E:∀who:Int,0<=who->Qr x M.pl who=0:=λwho a=>by unfold Qr;rw[bJ X,bJ X]
  have F:∀who:Int,0<=who->B1 x M.pl who=t/\B0 x M.pl who=Yn D:=λwho a=>by
   rcases L5 x M.pl who with⟨v,_⟩|⟨_,_,⟨n,r',g,_,_,A,H,G⟩|⟨n,r',g,_⟩⟩
   .exact absurd (E who a) v
   .rw[hr] at g;obtain⟨e1,_⟩:=List.cons.inj g;subst e1;rw[Cb xo.nodup u] at A;simp only[YI] at A;rw[A] at G;exact⟨H,G⟩
   .rw[hr] at g;cases g
  have v:f≠t:=λe=>by
   have w:=xo.onodup;rw[q] at w d;cases l' with
   |nil=>simp at d
   |cons b s=>
    obtain⟨e1,_⟩:=List.cons.inj (q.symm.trans hr);obtain⟨_,_,I⟩:=XR.1 w;exact I b xS f xS (e1.trans e.symm)
  have m:=l;refine⟨?_,λwho a=>by unfold Gt;rw[m];exact E who a,λwho a=>by unfold Ey;rw[m,o];exact(F who a).1,λwho a=>by unfold Ex;rw[m,o];exact(F who a).2,by rw[o];simp only;omega⟩;rw[o,P4 y];simp only
  obtain⟨i,hi,e1,e2⟩:=XlL ((h.pos k x y) _ z);simp only at hi e1 e2
  unfold Q0;rw[Cb xo.nodup z];simp only
  rw[e1];unfold Yf;rw[bK X,XA];exact e2
structure Ar where
 ab:Nat
 db:Nat
 mc:Nat
 mb:Option Nat
structure ArV where
 bs:List Int
 total:Int
 dA:Int
abbrev Xid(A:Ar):dE:=.func (.func 185) #[] #[.pointer (some ⟨A.mc,0,none⟩)]
structure Zc(w:dD)(A:Ar)(V:ArV):Prop where
 obj:w.heap[A.ab]?=some (.cells #[.slice (some ⟨A.db,0,none⟩) V.bs.length V.bs.length,Xid A] 242 (0,0))
 dat:w.heap[A.db]?=some (.cells (V.bs.map (Value.int .u8)).toArray 5 (0,0))
 cap:w.heap[A.mc]?=some (.cells #[Jj A.mb] 152 (0,0))
 met:∀b,A.mb=some b->Bi w b V.total V.dA
 len:V.bs.length<=4194304
 rng:∀x∈V.bs,0<=x/\x<256
theorem Ib{a t':Nat}{c c':Array dE}{f f':Nat×Nat}(h:w.heap[a]?=some (.cells c t f))(h':w.heap[b]?=some (.cells c' t' f'))(ht:t≠t'):a≠b:=by
 intro e;subst e;rw[h] at h';cases h';exact ht rfl
def Y4(A:Ar):Nat->Prop:=λb=>A.mb=some b
def Z4(A:Ar):Nat->Prop:=λb=>b=A.db\/A.mb=some b
def ArV.cT(V:ArV)(A:Ar)(n:Int):ArV:=match A.mb with
 |none=>V
 |some _=>{V with total:=Xu V.total n}
theorem ArV.charge_bs(V:ArV)(A:Ar)(n:Int):(V.cT A n).bs=V.bs:=by unfold ArV.cT;split <;> rfl
theorem ArV.charge_lap(V:ArV)(A:Ar)(n:Int):(V.cT A n).dA=V.dA:=by unfold ArV.cT;split <;> rfl
theorem Zc.bR{A:Ar}{V:ArV}(h:Zc w A V)(hc:Xc S w w')(hs:∀b,b=A.ab\/b=A.db\/b=A.mc\/A.mb=some b -> ¬S b):Zc w' A V:=
 ⟨hc.heap h.obj (hs _ (.inl rfl)),hc.heap h.dat (hs _ (.inr (.inl rfl))),hc.heap h.cap (hs _ (.inr (.inr (.inl rfl)))),λb a=>⟨hc.heap (h.met b a).1 (hs _ (.inr (.inr (.inr a)))),(h.met b a).2⟩,h.len,h.rng⟩
theorem Zc.bQ{A:Ar}{V:ArV}(h:Zc w A V)(hc:Xc Xf w w'):Zc w' A V:=h.bR hc λ_ _ h=>h
theorem Zc.metered{A:Ar}{V:ArV}{t:Int}(h:Zc w A V)(hb:A.mb=some b)(hm:Bi w' b t V.dA)(hc:Xc (λx=>x=b) w w'):Zc w' A {V with total:=t}:=by
 have c:=(h.met b hb).1;refine⟨hc.heap h.obj (λe=>Ib h.obj c xD e),hc.heap h.dat (λe=>Ib h.dat c xD e),hc.heap h.cap (λe=>Ib h.cap c xD e),λb' a=>?_,h.len,h.rng⟩;rw[hb] at a;cases a;exact hm
def N1(N:Nat)(at' n:Int):Bool:=decide (0<=at') && decide (0<=n) && decide (n<=N) && decide (at'<=N-n)
theorem Xc5{at' n:Int}:N1 N at' n=true↔0<=at'/\0<=n/\n<=N/\at'<=N-n:=by unfold N1;simp[and_assoc]
abbrev Xht(A:Ar)(N at' n:Nat):dE:=.slice (Ae (some ⟨A.db,0,none⟩) N at' 1) n (N-at')
theorem XdQ(A:Ar)(V:ArV)(i n:Nat)(w:dD)(h:Zc w A V)(ht:i+n<=V.bs.length):Xe prog 281 #[.pointer (some ⟨A.ab,0,none⟩),W i,W n] w (X9 (.tuple #[Xht A V.bs.length i n,W 0]) w):=by
 have a:=h.len;exact aR func281 ntmps281 Y (aS Y (aS Y (bB h.obj Y (aS Y (bB h.obj Y (aV Y (aS Y (bB h.obj Y (aV Y (Xa.slice Xb rfl (l:=i) (h:=(i+n)) (by first|rfl|omega|simp[Dx]) (by first|rfl|omega|simp[Dr]) X X rfl (bE func281 Y ⟨by rw[show i+n-i=n from by omega],rfl⟩)))))))))))
theorem Xi1(A:Ar)(V:ArV)(n:Int)(w:dD)(h:Zc w A V):Xe prog 185 #[W n,.pointer (some ⟨A.mc,0,none⟩)] w (λ_ w'=>Zc w' A (V.cT A n)/\Xc (Y4 A) w w'):=by
 have c:=h.cap;cases a:A.mb with
 |none=>
  rw[a] at c;refine aR func185 ntmps185 Y (bB c Y (aP Y (XbG n w) ?_));rintro _ f rfl;have e:V.cT A n=V:=by unfold ArV.cT;rw[a]
  exact aN Y (bE func185 Y ⟨by rw[e];exact h,Xc.refl _ _⟩)
 |some b=>
  rw[a] at c;refine aR func185 ntmps185 Y (bB c Y (aP Y (XbF b V.total V.dA n w (h.met b a)) ?_));rintro _ f ⟨hm,d⟩;have e:V.cT A n={V with total:=Xu V.total n}:=by unfold ArV.cT;rw[a]
  exact aN Y (bE func185 Y ⟨by rw[e];exact h.metered a hm d,d.mono (λx _ g=>by unfold Y4;rw[g];exact a)⟩)
theorem XiZ(A:Ar)(V:ArV)(i n:Nat)(w:dD)(h:Zc w A V)(ht:i+n<=V.bs.length):Xe prog 231 #[.pointer (some ⟨A.ab,0,none⟩),W i,W n] w (λv w'=>v=.tuple #[Xht A V.bs.length i n,W 0]/\Zc w' A (V.cT A n)/\Xc (Y4 A) w w'):=by
 refine aR func231 ntmps231 Y (bH (XdQ A V i n w h ht) Y (bI Y (bB h.obj Y (aP Y (Xi1 A V n w h) ?_))));rintro _ c ⟨a,b⟩;exact aN Y (bE func231 Y ⟨rfl,a,b⟩)
theorem XaI(A:Ar)(V:ArV)(w:dD)(h:Zc w A V):Xe prog 189 #[.pointer (some ⟨A.ab,0,none⟩)] w (X9 (W V.bs.length) w):=by
 exact aR func189 ntmps189 Y (bB h.obj Y (bE func189 Y ⟨rfl,rfl⟩))
def Oj(p s:Int):Bool:=decide (1<=p) && decide (p<=1024) && decide (64<=s) && decide (s<=4096) && (s%8 == 0)
theorem T3{p s:Int}:Oj p s=true↔1<=p/\p<=1024/\64<=s/\s<=4096/\s%8=0:=by unfold Oj;simp[and_assoc]
def X7(n:Nat):List Int:=List.replicate n 0
theorem Xan:∀n,Qa [Value.int .u8 0] n=(X7 n).map (Value.int .u8)
 |0=>rfl
 |n+1=>by rw[Qa,Xan n];simp[X7,YF]
theorem XiW(mb:Option Nat)(total dA:Int)(p s:Int)(w:dD)(hm:∀b,mb=some b->Bi w b total dA)(ht:Oj p s=true):Xe prog 117 #[W p,W s,Jj mb] w
 (λv w'=>∃A:Ar,v=.tuple #[.pointer (some ⟨A.ab,0,none⟩),W 0]/\A.mb=mb/\w.heap.size<=A.ab/\w.heap.size<=A.db/\w.heap.size<=A.mc/\Zc w' A ⟨X7 (p*s).toNat,total,dA⟩/\Xc Xf w w'):=by
 have g:=T3.1 ht;have z:0<=p*s:=ZG X X;have B:p*s<=1024*4096:=ZH X X X X;refine aR func117 ntmps117 Y (bC Y λmc C e1 j h t=>aS Y (aS Y (aS Y (aS Y (Xa.div Xb rfl X (Hg X) rfl (aI Y xQ (aV Y (Xa.make Xb (m:=(p*s).toNat) (k:=(p*s).toNat) rfl X X (XF _) xP X λdb D e2 i d u=>aN Y (aO Y (bC Y λab o e3 f c y=>?_))))))))));have q:(Qa (Y8 (Value.int .u8 0)) (p*s).toNat)=(X7 (p*s).toNat).map (Value.int .u8):=Xan _;rw[q] at i;have a:(X7 (p*s).toNat).length=(p*s).toNat:=XJ;rw[<-a] at f;have l:Zc o ⟨ab,db,mc,mb⟩ ⟨X7 (p*s).toNat,total,dA⟩:=
  ⟨f,c.bP i,c.bP (d.bP j),λb n=>⟨c.bP (d.bP (h.bP (hm b n).1)),(hm b n).2⟩,by rw[a];omega,λx r=>by rw[ZX r];omega⟩
 rw[a] at f;exact bE func117 Y ⟨⟨ab,db,mc,mb⟩,rfl,rfl,xP,xP,xP,l,(h.trans d).trans c⟩
variable {A:Ar}{V:ArV}
theorem Rd.metered(hr:Rd .u8 w a l)(h:Zc w A V)(hc:Xc (Y4 A) w w'):Rd .u8 w' a l:=λi hi=>by
 obtain⟨b,off,e,c⟩:=hr i hi;refine⟨b,off,e,?_⟩;have d:¬Y4 A b:=λf=>by
  rw[Yx ((h.met b f).1)] at c
  match hj:off+i,c with
  |0,c=>simp at c
  |1,c=>simp at c
  |k+2,c=>simp at c
 rw[<-c];simp only[World.cell?,hc.block b (World.block_lt_of_cell? w _ c) d]
def Q8(bs:List Int)(i:Nat)(l:List Int):List Int:=bs.take i++l++bs.drop (i+l.length)
theorem Jq(h:i+l.length<=bs.length):(Q8 bs i l).length=bs.length:=by unfold Q8;simp;omega
theorem N9{x:Int}(h:x∈Q8 bs i l):x∈bs\/x∈l:=by
 unfold Q8 at h;simp only[XS] at h;rcases h with(h|h)|h
 .exact .inl (ZB h)
 .exact .inr h
 .exact .inl (ZR h)
theorem Xal:Q8 bs i []=bs:=by unfold Q8;simp
def Qo(l:List Int):Prop:=∀x∈l,0<=x/\x<256
theorem Zc.laid(h:Zc w A V)(hd:w'.heap[A.db]?=some (.cells (bs.map (Value.int .u8)).toArray 5 (0,0)))(hc:Xc (λb=>b=A.db) w w')(hl:bs.length=V.bs.length)(hr:Qo bs):Zc w' A {V with bs:=bs}:=
 ⟨by rw[hl];exact hc.heap h.obj (λe=>Ib h.obj h.dat xD e),hd,hc.heap h.cap (λe=>Ib h.cap h.dat xD e),λb a=>⟨hc.heap (h.met b a).1 (λe=>Ib (h.met b a).1 h.dat xD e),(h.met b a).2⟩,by rw[hl];exact h.len,hr⟩
theorem Xhu(h:i+n<=N)(hn:0<n):Ae (some ⟨A.db,0,none⟩) N i 1=some ⟨A.db,i,none⟩:=by
 unfold Ae;rw[bJ X,QZ,C0]
 simp
theorem T4(A:Ar)(V:ArV)(i n:Nat)(w:dD)(h:Zc w A V)(ht:i+n<=V.bs.length):Xe prog 231 #[.pointer (some ⟨A.ab,0,none⟩),W i,W n] w
 (λv w'=>∃x,v=.tuple #[.slice x n (V.bs.length-i),W 0]/\(0<n->x=some ⟨A.db,i,none⟩)/\x.isSome=true/\Zc w' A (V.cT A n)/\Xc (Y4 A) w w'):=
 (XiZ A V i n w h ht).mono λ_ _ ⟨a,b,c⟩=>⟨_,a,λd=>Xhu ht d,by unfold Ae;split <;> rfl,b,c⟩
theorem XiY(A:Ar)(V:ArV)(i:Nat)(a:Option dF)(cap:Nat)(l:List Int)(w:dD)(h:Zc w A V)(hr:Rd .u8 w a l)(hb:Qo l)(ht:i+l.length<=V.bs.length):Xe prog 168 #[.pointer (some ⟨A.ab,0,none⟩),W i,.slice a l.length cap] w (λv w'=>v=W 0/\Zc w' A {V.cT A l.length with bs:=Q8 V.bs i l}/\Xc (Z4 A) w w'):=by
 refine aR func168 ntmps168 Y (aP Y (T4 A V i l.length w h ht) ?_);rintro _ s ⟨x,rfl,j,_,k,o⟩;refine aN Y ?_;have c:Xc (Z4 A) w s:=o.mono λb _ hb=>.inr hb;have e1:=V.charge_bs A l.length;by_cases p:l.length=0
 .refine Xa.copy0 Xb rfl (by simp[p]) rfl ?_;have m:l=[]:=YH p;subst m;exact bE func168 Y ⟨rfl,by rw[Xal,<-V.charge_bs A 0];exact k,c⟩
 .have q:=j X;subst q;have r:=hr.metered h o;have t:∃aa,a=some aa:=by obtain⟨b,off,e,_⟩:=hr 0 X;exact⟨_,e⟩
  obtain⟨aa,rfl⟩:=t;have d:=k.dat;rw[e1] at d;refine Xa.copy Xb rfl d (cs:=l.map (Value.int .u8)) xS r.cells xQ J5 λz f g y=>aN Y ?_;have n:(V.bs.map (Value.int .u8)).take i++l.map (Value.int .u8)++(V.bs.map (Value.int .u8)).drop (i+(l.map (Value.int .u8)).length)=(Q8 V.bs i l).map (Value.int .u8):=by
   unfold Q8;simp[As,List.map_drop]
  rw[n] at f;have u:=k.laid f g (by rw[Jq ht,e1]) (λx j=>(N9 j).elim (h.rng x) (hb x));exact bE func168 Y ⟨rfl,u,c.trans (g.mono λb _ hb=>.inl hb)⟩
def XdE(base:Nat)(w:dD)(v:dE)(l:List Int):Prop:=∃g cap cur,v=.slice (some ⟨g,0,none⟩) l.length cap/\base<=g/\w.heap[g]?=some (.cells cur 5 (0,0))/\l.length<=cap/\cur.toList.take l.length=l.map (Value.int .u8)
theorem XnV(aa:dF)(cap:Nat)(l:List Int)(w:dD)(hr:Rd .u8 w (some aa) l)(hl:l.length<=4194304):Xe prog 232 #[.slice (some aa) l.length cap] w (λv w'=>XdE w.heap.size w' v l/\Xc Xf w w'):=by
 have q:maxLen=9223372036854775807:=rfl;refine aR func232 ntmps232 Y (aS Y (Xa.buildSlice Xb rfl λb j e1 k a r=>aN Y ?_));have c:Xm w.heap.size 5 1 j (.slice (some ⟨b,0,none⟩) 0 0) 0 []:=Xm.empty X k;refine Xa.append (base:=w.heap.size) (xs:=[]) (news:=l.map (Value.int .u8)) Xb rfl c a.size xS (hr.bR a).cells J5 xP λs t d f h=>aN Y ?_;have i:=c.bU a (XF _) f;rcases d.2 with⟨m,_⟩|⟨g,cap',cur,rfl,n,o,u,_,_,p⟩
 .exact absurd (h.1.1 m).1 xS
 .exact bE func232 Y ⟨⟨g,cap',cur,xS,n,o,X,xU p⟩,i⟩
def sub(bs:List Int)(i n:Nat):List Int:=(bs.drop i).take n
theorem Hj(h:i+n<=bs.length):(sub bs i n).length=n:=by unfold sub;simp;omega
theorem Zc.sub{w:dD}{A:Ar}{V:ArV}{x:Option dF}{i n:Nat}(h:Zc w A V)(hx:0<n->x=some ⟨A.db,i,none⟩)(ht:i+n<=V.bs.length):Rd .u8 w x (sub V.bs i n):=λj a=>by
 rw[Hj ht] at a;refine⟨A.db,i,hx X,?_⟩;rw[Yx h.dat];have:(Go.Proofs.YtdeihcnepljjaaaGreatDoor.sub V.bs i n).getD j 0=V.bs[i+j]'X:=by unfold Go.Proofs.YtdeihcnepljjaaaGreatDoor.sub;simp[QX,a,show i+j<V.bs.length from by omega]
 rw[this];simp[show i+j<V.bs.length from by omega]
theorem XiX(A:Ar)(V:ArV)(i n:Nat)(w:dD)(h:Zc w A V)(ht:i+n<=V.bs.length):Xe prog 165 #[.pointer (some ⟨A.ab,0,none⟩),W i,W n] w (λv w'=>∃v',v=.tuple #[v',W 0]/\XdE w.heap.size w' v' (sub V.bs i n)/\Zc w' A (V.cT A n)/\Xc (Y4 A) w w'):=by
 have q:=h.len;refine aR func165 ntmps165 Y (aP Y (T4 A V i n w h ht) ?_);rintro _ j ⟨x,rfl,k,l,f,b⟩;refine aN Y ?_;obtain⟨aa,rfl⟩:=Option.isSome_iff_exists.1 l;have e1:=V.charge_bs A n;have hr:=f.sub (i:=i) (n:=n) k (by rw[e1];exact ht);rw[e1] at hr;have c:=XnV aa (V.bs.length-i) (sub V.bs i n) j hr (by rw[Hj ht];omega);rw[Hj ht] at c;refine aP Y (c) ?_;rintro m r ⟨o,d⟩;refine aN Y ?_;obtain⟨g,cap,cur,p,s,a⟩:=o;exact bE func165 Y ⟨m,rfl,⟨g,cap,cur,p,xH b.size,a⟩,f.bQ d,b.trans d.gr⟩
theorem Xdo(h:0<=z/\z<18446744073709551616):IntKind.u64.wrap z=z:=by
 simp only[IntKind.wrap,IntKind.signed,IntKind.bits]
 first|omega|(simp;omega)
def Bt(n top:Int):Bool:=decide (0<=n) && decide (n<top)
theorem Nb{n top:Int}:Bt n top=true↔0<=n/\n<top:=by unfold Bt;simp
def Ym(c:Conf)(q:Plc):Bool:=
 if q.cL=-1 then decide (0<q.bS.length) && !q.bS.any (λn=>!Bt n c.bS)
 else Bt q.cL c.bT.length && Bt q.cR c.bS && Bt q.idx (A8 c q.cL)
def Zn(c:Conf)(k:Int):Int:=c.bT.getD k.toNat 0
def Zt(c:Conf)(q:Plc):Int:=if Ym c q then (if q.cL=-1 then q.bS.length*c.size else Zn c q.cL) else 0
def Aj(c:Conf)(q:Plc):Int:=if Ym c q=true/\q.cL≠-1 then q.cR*c.size+q.idx*Zn c q.cL else -1
structure Vw where
 vb:Nat
 c:Conf
 p:Yz
 ab:Nat
 mb:Option Nat
def N6(v:Vw):List dE:=X5 v.c v.p++[.pointer (some ⟨v.ab,0,none⟩),Jj v.mb]
abbrev Gb(v:Vw):dE:=.pointer (some ⟨v.vb,0,none⟩)
structure Bq(w:dD)(v:Vw):Prop where
 obj:w.heap[v.vb]?=some (.cells (N6 v).toArray 226 (0,0))
 cO:Yd w v.c v.p
 may:Xy v.c=true
theorem Bq.bQ{v:Vw}(h:Bq w v)(hc:Xc Xf w w'):Bq w' v:=⟨hc.bP h.obj,h.cO.bR hc,h.may⟩
theorem Xai(n top:Int)(w:dD):Xe prog 278 #[W n,W top] w (X9 (.bool (Bt n top)) w):=by
 refine aR func278 ntmps278 Y (aT Y (λh=>?_) λh=>?_)
 .have g:=bL h;exact bE func278 Y ⟨Q5 (by unfold Bt;rw[bN g];rfl),rfl⟩
 .have g:=bM h;exact bE func278 Y ⟨Q5 (by unfold Bt;rw[bO g];rfl),rfl⟩
abbrev He(w:dD)(b:Nat)(v:Vw):Prop:=w.heap[b]?=some (.cells ([Gb v]:List dE).toArray 155 (0,0))
theorem XoZ(v:Vw)(b:Nat)(x:Int)(w:dD)(h:Bq w v)(hb:He w b v):Xe prog 277 #[W x,xV b] w (X9 (.bool (!Bt x v.c.bS)) w):=by
 exact aR func277 ntmps277 Y (bB hb Y (bB h.obj Y (bH (Xai x v.c.bS w) Y (bE func277 Y ⟨rfl,rfl⟩))))
theorem Xdf(v:Vw)(q:Plc)(w:dD)(h:Bq w v)(hq:Zw w q):Xe prog 229 #[Gb v,.agg (Xw q).toArray] w (Grow (.bool (Ym v.c q)) w):=by
 have l:=hq.len;refine aR func229 ntmps229 Y (bC Y λvb D e1 t u B=>bC Y λqb p e2 b o C=>?_);have i:=u.trans o;have d:=h.bQ i;have c:=o.bP t;have m:=hq.bQ i;obtain⟨cL,cR,idx,pa,pc,bS⟩:=q;replace b:p.heap[qb]?=some (.cells ([W cL,W cR,W idx,.slice pa bS.length pc]:List dE).toArray 83 (0,0)):=b;replace m:=m.rd;replace l:bS.length<=9223372036854775807:=l;refine Xa.cJ Xb rfl c rfl rfl ?_;refine Xa.cJ Xb rfl b rfl rfl ?_;refine Xa.fork Xb rfl rfl rfl (λj=>?_) (λj=>?_)
 .have g:cL=-1:=xU j
  refine Xa.cJ Xb rfl b rfl rfl ?_;by_cases y:0<bS.length
  .refine Xa.yes Xb rfl (bN X) rfl ?_;exact bB b Y (bH (Xhm pa pc 277 bS [xV vb] (λn=>!Bt n v.c.bS) p m l (λx _=>XoZ v vb x p d c)) Y (bE func229 Y ⟨Q5 (by unfold Ym;simp only;rw[bK g,bN y];rfl),i⟩))
  .exact aS Y (bE func229 Y ⟨Q5 (by unfold Ym;simp only;rw[bK g,bO y];rfl),i⟩)
 .have g:¬cL=-1:=xU j
  have z:Ym v.c ⟨cL,cR,idx,pa,pc,bS⟩=(Bt cL v.c.bT.length && Bt cR v.c.bS && Bt idx (A8 v.c cL)):=by unfold Ym;simp only;rw[bJ g]
  rw[z];refine aQ 32 Xf xK Y λa=>aE a b Y (aE a c Y (aE a d.obj Y (aH a (λw' k=>Xai cL v.c.bT.length w') Y ?_)));refine Xd.fork Xb a rfl rfl rfl (λr=>?_) (λr=>?_)
  .rw[r];refine aE a b Y (aE a c Y (aE a d.obj Y (aH a (λw' k=>Xai cR v.c.bS w') Y ?_)));refine Xd.fork Xb a rfl rfl rfl (λs=>?_) (λs=>?_)
   .rw[s];exact aE a b Y (aE a c Y (aE a d.obj Y (aE a b Y (aG a (λw' k=>Xek v.c v.p cL w' (d.cO.bR k)) Y (aH a (λw' k=>Xai idx (A8 v.c cL) w') Y (aF a Y λA f=>bE func229 Y ⟨rfl,i.trans f⟩))))))
   .rw[s];exact aF a Y λA f=>bE func229 Y ⟨rfl,i.trans f⟩
  .rw[r];exact aF a Y λA f=>bE func229 Y ⟨rfl,i.trans f⟩
end Go.Proofs.YtdeihcnepljjaaaGreatDoor
