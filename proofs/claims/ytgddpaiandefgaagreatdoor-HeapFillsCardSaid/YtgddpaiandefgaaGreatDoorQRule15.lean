/-
  Rule15
-/
import Derived.Test.YtgddpaiandefgaaGreatDoorQRule14
namespace Go.Proofs.YtgddpaiandefgaaGreatDoor
open Go.RowKit
section
variable {P:Program} {T:Tab} {ops:Array Oper} {f:FuncId} {R:Aim} {k:List Item} {q n:Nat} {ds:List Deferred} {s s':List Item} {w w0:World} {e:Env} {U:List Nat} {S:Nat→Prop}
def Xcu (T:Tab) (e:Env) (o:Oper):Option (Value × Option Addr × Nat × Nat × Nat × Nat × Nat × Value) :=
 match o.op with
 |.call c=>match c.callee,evs e c.args.toList,c.argTypes.toList with
  |.builtin .append,some [v,.slice a m cc],[t,t']=>match Nat.beq t t',row T t with
   |true,some {und := .slice q,..}=>match row T q with
    |some r2=>match r2.zero with
     |some z=>match Nat.beq (Xen z).length r2.size,Nat.blt 0 r2.size with
      |true,true=>some (v,a,m,cc,q,r2.size,r2.bytes,z)
      |_,_=>none
     |none=>none
    |none=>none
   |_,_=>none
  |_,_,_=>none
 |_=>none
theorem Xcw {v z:Value} {a:Addr} {m cc q size by':Nat} {o:Oper} (h:Xcu T e o=some (v,some a,m,cc,q,size,by',z)):Xcx T e o=some (v,a,m,cc,q,size,by',z):=by
 unfold Xcu at h;split at h
 ·rename_i c f
  split at h
  ·rename_i u w x y t t' b g i
   split at h
   ·rename_i A r s B j p
    split at h
    ·rename_i C k
     split at h
     ·rename_i D l
      split at h
      ·rename_i n d
       cases h
       unfold Xcx;simp only [f,b,g,i,j,p,k,l,n,d]
      ·cases h
     ·cases h
    ·cases h
   ·cases h
  ·cases h
 ·cases h
theorem XqI {t ty q:TypeId} {i:TypeInfo} (ht:P.underlying t=some (.slice q)) (hi:P.info? q=some i) {b:Option Addr} {m c cc:Nat} (hm:m≤c):(Builtin.append_ #[t,t] ty #[.slice b m c,.slice none 0 cc]).run P w = .ok (.slice b m c) w:=by
 cases b with
 |none=>simp [Builtin.append_,run_underlying ht,sizeOf,typeInfo,hi,Builtin.lenOf,Builtin.firstCells,hm]
 |some a=>simp [Builtin.append_,run_underlying ht,sizeOf,typeInfo,hi,Builtin.lenOf,Builtin.firstCells,hm,storeCells]
theorem Xcv (hT:XbE P T) {v z:Value} {a:Option Addr} {m cc q size by' base j:Nat} {xs news:List Value} {o:Oper} (h:Xcu T e o=some (v,a,m,cc,q,size,by',z)) (hown:Own base q size w v j xs) (hbase:base≤w.heap.size) (hnone:a=none→m=0)
 (hl:news.length=m*size) (hnews:∀ i u,news[i]? = some u → ∃ a',a=some a'∧w.cell? (a'.add i)=some u) (h1:∀ u ∈ news,u.oneCell'=true) (hb:j+m≤maxLen∧(j+m)*by'≤140737488355328) :
 ∃ v' w',(∀ act,Xau n act e→(execOp act.eval o).run P w = .ok (.value v') w')∧Own base q size w' v' (j+m) (xs++news)∧w.grownBy w' v.ownBlock∧((v' = .slice none 0 0↔v = .slice none 0 0∧m=0)∧(v'.ownBlock=v.ownBlock∨v'.ownBlock=some w.heap.size)):=by
 cases a with
 |some a'=>exact Xcy hT (Xcw h) hown hbase hl (fun i u y=>by obtain ⟨Q,e2,A⟩:=hnews i u y; cases e2; exact A) h1 hb
 |none =>
  have hm:=hnone rfl;subst hm;have H:news = []:=List.eq_nil_of_length_eq_zero (by simpa using hl);subst H;unfold Xcu at h;split at h
  ·rename_i c r
   split at h
   ·rename_i R S U V t t' f s k
    split at h
    ·rename_i W L M z1 C I
     split at h
     ·rename_i r2 D
      split at h
      ·rename_i z2 N
       split at h
       ·rename_i O J
        cases h
        have B:=Nat.eq_of_beq_eq_true C;subst B;have E:=(hT.row D).2;have y:=(hT.row I).1;cases l:P.info? q with
        |none=>rw [l] at E; cases E
        |some inf =>
         have K:∃ b mm d,v = .slice b mm d∧mm≤d:=by
          rcases hown.2 with ⟨h,_⟩ | ⟨g,cap,cur,h,_,_,A,_⟩
          ·exact ⟨none,0,0,h,Nat.le_refl _⟩
          ·exact ⟨some ⟨g,0,none⟩,j,cap,h,A⟩
         obtain ⟨b,mm,d,rfl,F⟩:=K;refine ⟨.slice b mm d,w,fun act hf => ?_,by rw [List.append_nil]; exact hown,⟨rfl,rfl,rfl,Nat.le_refl _,fun _ _ _=>rfl⟩,⟨⟨fun h=>⟨h,rfl⟩,fun h=>h.1⟩,.inl rfl⟩⟩;obtain ⟨dst,op,type,pos,after,guard⟩:=o;simp only at r
         subst r;obtain ⟨callee,args,argTypes⟩:=c;simp only at f s k
         subst f;have p:args.map act.eval = #[.slice b mm d,.slice none 0 cc]:=XkD (hf.evs s);have G:argTypes = #[t,t]:=by obtain ⟨ats⟩:=argTypes; simp only at k; subst k; rfl
         subst G;simp only [execOp,resolve,p];refine (XqJ (show _=Result.ok _ w from rfl)).trans ?_;exact (XqJ (x:=(.slice b mm d:Value)) (w':=w) (XqI y l F)).trans rfl
       ·cases h
      ·cases h
     ·cases h
    ·cases h
   ·cases h
  ·cases h
theorem Xay.appendA (hT:XbE P T) {v z:Value} {a:Option Addr} {m cc qq size by' base j d:Nat} {xs news:List Value} (h:XcY (Xcu T e) n s e=some ((v,a,m,cc,qq,size,by',z),d,s')) (hown:Own base qq size w v j xs) (hbase:base≤w.heap.size) (hnone:a=none→m=0)
 (hl:news.length=m*size) (hnews:∀ i u,news[i]? = some u → ∃ a',a=some a'∧w.cell? (a'.add i)=some u) (h1:∀ u ∈ news,u.oneCell'=true) (hb:j+m≤maxLen∧(j+m)*by'≤140737488355328)
 (hg:∀ v' w1,Own base qq size w1 v' (j+m) (xs++news)→Chg (Xms v) w w1→((v' = .slice none 0 0↔v = .slice none 0 0∧m=0)∧(v'.ownBlock=v.ownBlock∨v'.ownBlock=some w.heap.size))→Xay P f R n ds s' ((d,false,v')::e) w1):Xay P f R n ds s e w:=by
 obtain ⟨o,c,g,b,k⟩:=Xc1 h;obtain ⟨v',w',l,p,q,r⟩:=Xcv (n:=n) hT k hown hbase hnone hl hnews h1 hb;exact Xay.head c (by rw [g]; exact XoD b) (fun a hf => .inl (l a hf)) (hg v' w' p (XeU q) r)
theorem XbO.appendA (hT:XbE P T) (hB:XfJ ops q=true) {v z:Value} {a:Option Addr} {m cc qq size by' base j d i:Nat} {xs news:List Value} {U2:List Nat} {e2:Value→Env} (h:Xc2 (Xcu T e) n ops e i=some ((v,a,m,cc,qq,size,by',z),d)) (hown:Own base qq size w v j xs) (hbase:base≤w.heap.size) (hnone:a=none→m=0)
 (hw0:w0.heap.size≤base) (hl:news.length=m*size) (hnews:∀ i u,news[i]? = some u → ∃ a',a=some a'∧w.cell? (a'.add i)=some u) (h1:∀ u ∈ news,u.oneCell'=true) (hb:j+m≤maxLen∧(j+m)*by'≤140737488355328)
 (ha:∀ v',Xb2 T n ops q (rmN i U) (rmN i U) ((d,false,v')::e)=(U2,e2 v'))
 (hg:∀ v' w1,Own base qq size w1 v' (j+m) (xs++news)→Chg (Xms v) w w1→((v' = .slice none 0 0↔v = .slice none 0 0∧m=0)∧(v'.ownBlock=v.ownBlock∨v'.ownBlock=some w.heap.size))→Xaq P f R n ds k ops q S U2 (e2 v') w0 w1):XbO P f R n ds k ops q S U i e w0 w:=by
 obtain ⟨o,x,y,A,g,B⟩:=Xc3 h;obtain ⟨v',w',C,D,l,E⟩:=Xcv (n:=n) hT B hown hbase hnone hl hnews h1 hb;have p:Chg S w0 w→Chg S w0 w':=fun c=>c.since (XeU l) (fun b hb F=>by
  have:=(World.ownsRow.lt hown b F.symm).1;omega)
 intro a r hf s t G c;unfold opG;rw [Xl5 x];simp only [Xv4 hf y,if_true];unfold Xhp;rw [C a hf];exact ⟨p c,Xaq.adv hT hB (ha v') (hg v' w' D (XeU l) E) _ (by cases o.dst <;> exact r) (XoE (by rw [A]; exact XoB g) a hf) (s.rm (t _ G)) (fun j H=>t j ((XkQ s.1.1).1 H).1) (p c)⟩
end
end Go.Proofs.YtgddpaiandefgaaGreatDoor
