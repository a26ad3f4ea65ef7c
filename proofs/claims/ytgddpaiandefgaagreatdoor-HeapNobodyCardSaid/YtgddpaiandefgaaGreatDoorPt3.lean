/-
  Texts put together: Chain, Chain2, View3, View4, Arena3, View5, View6, View7, View8, Laws21, Ref6, Few, Ref21, Ref21b, Ref21d, Cut16, Ref21e, Ref21f, Ref21g, Ref21h, Ref21i, Laws6b, Move, Move2, Lap, Laws15, Ref6b, Ref6c, Use, Use2, Laws6d, Act, Ref15, Laws15c, Stm, StOk, StOk2, StOk3, Room7, View9, Sto0, Sto1, Plain21, Plain21b, Plain21c, Sto2.
-/
import Derived.Test.YtgddpaiandefgaaGreatDoorPt2
import Derived.Test.YtgddpaiandefgaaGreatDoorQRule11
import Derived.Test.YtgddpaiandefgaaGreatDoorQPost
import Derived.Lib.SliceRun
import Derived.Test.YtgddpaiandefgaaGreatDoorQRule12
import Derived.Test.YtgddpaiandefgaaGreatDoorQRule8
import Derived.Test.YtgddpaiandefgaaGreatDoorQRule9
set_option linter.unusedVariables false
set_option maxRecDepth 100000
namespace Go.Proofs.YtgddpaiandefgaaGreatDoor
open Go.RowKit
abbrev Span:=Nat × Nat × Nat
def Xq9 (s:Span):List Value := [.int .i64 (s.1:Nat),.int .i64 (s.2.1:Nat),.int .i64 (s.2.2:Nat)]
def Xg6 (at' n page:Nat):Span:=(at' / page,at' % page,min n (page - at' % page))
def Xrd:Nat→Nat→Nat→Nat→List Span
 |0,_,_,_ => []
 |f+1,at',n,page=>if n=0 then [] else Xg6 at' n page::Xrd f (at'+min n (page - at' % page)) (n - min n (page - at' % page)) page
def Xrf (at' n page:Nat):List Span:=Xrd n at' n page
theorem Xg7 {at' n page:Nat} (hp:1≤page) (hn:0<n):0<min n (page - at' % page):=by
 have:=Nat.mod_lt at' (show 0<page by omega); omega
theorem Xre {page:Nat} (hp:1≤page):∀ (f g at' n:Nat),n≤f→n≤g→Xrd f at' n page=Xrd g at' n page
 |0,0,_,_,_,_=>rfl
 |0,g+1,at',n,h,_=>by
   obtain rfl:n=0:=by omega
   simp [Xrd]
 |f+1,0,at',n,_,h=>by
   obtain rfl:n=0:=by omega
   simp [Xrd]
 |f+1,g+1,at',n,a,b=>by
  unfold Xrd;split
  ·rfl
  ·rename_i c
   have:=Xg7 (at':=at') hp (show 0<n by omega);rw [Xre hp f g _ _ (by omega) (by omega)]
theorem Xri (at' page:Nat):Xrf at' 0 page = []:=rfl
theorem Xrg {at' n page:Nat} (hp:1≤page) (hn:0<n):Xrf at' n page=Xg6 at' n page::Xrf (at'+min n (page - at' % page)) (n - min n (page - at' % page)) page:=by
 have:=Xg7 (at':=at') hp hn;unfold Xrf;obtain ⟨m,rfl⟩:∃ m,n=m+1:=⟨n - 1,by omega⟩;rw [show Xrd (m+1) at' (m+1) page=Xg6 at' (m+1) page::Xrd m (at'+min (m+1) (page - at' % page)) (m+1 - min (m+1) (page - at' % page)) page from by
  show (if m+1=0 then [] else _)=_
  rw [if_neg (by omega)]]
 rw [Xre hp m _ _ _ (by omega) (Nat.le_refl _)]
theorem Xrh {page:Nat} (hp:1≤page):∀ (n at':Nat),(Xrf at' n page).length≤n:=by
 intro n
 induction n using Nat.strongRecOn with
 |_ n ih =>
  intro at';by_cases a:n=0
  ·subst a; exact Nat.le_refl _
  ·have:=Xg7 (at':=at') hp (show 0<n by omega);rw [Xrg hp (by omega),List.length_cons];have:=ih (n - min n (page - at' % page)) (by omega) (at'+min n (page - at' % page));omega
abbrev Xh9 (w:World) (b:Nat) (x:Int):Prop:=w.heap[b]? = some (.cells ([.int .i64 x]:List Value).toArray 3 (0,0))
theorem Xed (pa pp pn at' page n:Nat) (w:World) (ha:Xh9 w pa at') (hp:Xh9 w pp page) (hn:Xh9 w pn n) (hb:at'+n≤16777216∧1≤page∧page≤16777216) :
 Xan Tryz.prog 328 #[.pointer (some ⟨pa,0,none⟩),.pointer (some ⟨pp,0,none⟩),.pointer (some ⟨pn,0,none⟩)] w (Grow (.agg (Xq9 (Xg6 at' n page)).toArray) w):=by
 have h:0≤(at':Int) % page∧(at':Int) % page<page:=⟨Int.emod_nonneg _ (by omega),Int.emod_lt_of_pos _ (by omega)⟩;have e3:((min n (page - at' % page):Nat):Int)=if (page:Int) - (at':Int) % page<n then (page:Int) - (at':Int) % page else n:=by
  rw [show ((at':Int) % page)=((at' % page:Nat):Int) from rfl];have:=Nat.mod_lt at' (show 0<page by omega);split <;> omega
 refine ζe Tryz.func328 Tryz.ntmps328 rfl (ζn rfl fun rb l e1 d a i=>ζl (a.heap' ha) rfl (ζl (a.heap' hp) rfl (Xay.div hTT rfl (by omega) (XnQ (by omega)) rfl (ζd 10 XaW (by kernel_rfl) rfl fun b=>δl b (a.heap' ha) rfl (δl b (a.heap' hp) rfl (Xaq.div hTT b rfl (by omega) (XnE (by omega) (by omega)) rfl (δl b (a.heap' hn) rfl (δl b (a.heap' hp) rfl (δj b rfl (Xaq.adv hTT b rfl (Xaq.build hTT b rfl rfl (δn b rfl fun m c=>ζs (c.heap' d) rfl fun o e f j => ?_))))))))))));have g:=(a.trans c).since f (fun x p k=>by omega);exact ζR Tryz.func328 e rfl ⟨by unfold Xq9 Xg6; simp only; rw [e3]; rfl,g⟩
theorem Xef (l pa pp pn at0 n0 page:Nat) (w:World) (Y:Nat→Prop) (I:Nat→World→Prop) (hb:at0+n0≤16777216∧1≤page∧page≤16777216) (ha:Xh9 w pa at0) (hp:Xh9 w pp page) (hn:Xh9 w pn n0)
 (hne:pa≠pp∧pa≠pn∧pp≠pn) (hY:¬ Y pa ∧ ¬ Y pp ∧ ¬ Y pn) (hI:∀ k w w',I k w→Chg (fun z=>z=pa∨z=pn) w w'→I k w')
 (hy:∀ k w0 w (h:k<(Xrf at0 n0 page).length),I k w0→Chg XaW w0 w→XbO Tryz.prog l [.agg (Xq9 (Xrf at0 n0 page)[k]).toArray] w (fun v w'=>v = .bool true∧I (k+1) w'∧Chg (fun z=>Y z∧z<w0.heap.size) w w'))
 (h0:I 0 w) :
 Xan Tryz.prog 327 #[XuK l,.pointer (some ⟨pa,0,none⟩),.pointer (some ⟨pp,0,none⟩),.pointer (some ⟨pn,0,none⟩)] w (fun v w'=>v = .tuple #[]∧I (Xrf at0 n0 page).length w'∧Chg (fun z=>z=pa∨z=pn∨Y z) w w'):=by
 refine ζe Tryz.func327 Tryz.ntmps327 rfl ?_;refine Xay.loop (α:=Nat × Nat × Nat) (fun _ => [(0,false,XuK l),(1,false,.pointer (some ⟨pa,0,none⟩)),(3,false,.pointer (some ⟨pn,0,none⟩)),(5,false,.func (.func 328) #[] #[.pointer (some ⟨pa,0,none⟩),.pointer (some ⟨pp,0,none⟩),.pointer (some ⟨pn,0,none⟩)])])
  (fun p w' => ∃ pre,Xrf at0 n0 page=pre++Xrf p.2.1 p.2.2 page∧pre.length=p.1∧p.2.1+p.2.2=at0+n0∧I p.1 w'∧Xh9 w' pa p.2.1∧Xh9 w' pp page∧Xh9 w' pn p.2.2∧Chg (fun z=>z=pa∨z=pn∨Y z) w w') (fun p=>p.2.2) (0,at0,n0) ⟨rfl,rfl,rfl,rfl,trivial⟩
  ⟨[],rfl,rfl,rfl,h0,ha,hp,hn,Chg.refl _ _⟩ ?_
 rintro ⟨k,at',n⟩ D ⟨pre,a,P,K,q,i,E,j,F⟩ ih;simp only at a P K q i j
 subst P;refine ζa rfl (ζl j rfl (ζg rfl (fun L => ?_) fun L => ?_))
 ·have m:0<n:=by have:=of_decide_eq_true L; omega
  have r:=Xg7 (at':=at') hb.2.1 m;have d:=Xrg (at':=at') hb.2.1 m;refine ζv (Xed pa pp pn at' page n D i E j (by omega)) rfl fun w2 s=>ζn rfl fun sb w3 e3 Q R a8=>ζs Q rfl fun w4 t S a9 => ?_;have b:=(s.trans R).since S (fun z hz e=>by have:=s.size; omega);have T:pre.length<(Xrf at0 n0 page).length:=by rw [a,d]; simp
  have U:(Xrf at0 n0 page)[pre.length]=Xg6 at' n page:=by
   simp only [a,d]; simp
  have G:=hy pre.length D w4 T q b;rw [U] at G;refine ζl t rfl (Xay.yield rfl G ?_);rintro _ w5 ⟨rfl,V,f⟩;refine ζa rfl (ζf rfl ?_);have a7:D.heap.size≤sb:=by have:=s.size; omega
  have aa:=XjD i;have H:=f.heap (b.heap' i) (fun h=>hY.1 h.1);have W:=f.heap (b.heap' E) (fun h=>hY.2.1 h.1);have J:=f.heap (b.heap' j) (fun h=>hY.2.2 h.1);have u:=f.heap t (fun h=>by have:=h.2; omega);refine ζd 9 (fun z=>z=pa) (by kernel_rfl) rfl fun c=>Xaq.loadbAt (4) hTT c rfl rfl rfl J (by first | exact fun h=>h | (intro h; omega) | assumption) rfl rfl (Xaq.loadbAt (2) hTT c rfl rfl rfl u (by first | exact fun h=>h | (intro h; omega) | assumption) rfl rfl (Xaq.loadbAt (6) hTT c rfl rfl rfl u (by first | exact fun h=>h | (intro h; omega) | assumption) rfl rfl (Xaq.arith hTT c rfl (w64 (by show _∧_; unfold Xg6; simp only; omega)) rfl (Xaq.turn1 c rfl fun w6 x=>XbJ.loadb hTT c rfl (x.heap' H) rfl rfl (Xaq.arith hTT c rfl (w64 (by show _∧_; unfold Xg6; simp only; omega)) rfl (Xaq.turn1 c rfl fun a0 y=>XbJ.store hTT c rfl (y.heap' (x.heap' H)) (by first | (intro h; exact rfl) | (intro h; omega)) rfl rfl rfl fun ab M A ac=>δn c rfl fun w7 o => ?_))))));have g:=x.trans y;have a1:=o.heap' M;refine ζs (o.heap' (A.heap (g.heap' J) (fun e=>hne.2.1 e.symm))) rfl fun w8 a3 B ad => ?_;have a4:=B.heap a1 hne.2.1;have a5:=B.heap (o.heap' (A.heap (g.heap' W) (fun e=>hne.1 e.symm))) hne.2.2;have N:Chg (fun z=>z=pa∨z=pn) a0 w8:=((A.mono fun _ _ h => .inl h).trans (o.mono fun _ _ h=>h.elim)).trans (B.mono fun _ _ h => .inr h);have C:=(g.mono fun _ _ h=>h.elim).trans N;have O:Chg (fun z=>z=pa∨z=pn∨Y z) D w8:=((b.mono fun _ _ h=>h.elim).trans (f.mono fun _ _ h => .inr (.inr h.1))).trans (C.mono fun _ _ h=>h.elim .inl (fun h => .inr (.inl h)));exact ih (pre.length+1,at'+min n (page - at' % page),n - min n (page - at' % page)) _ _ ⟨pre ++ [Xg6 at' n page],by rw [a,d]; simp,by simp,by simp only; omega,hI _ _ _ V C,by
   have e:((at':Int)+((Xg6 at' n page).2.2:Nat))=((at'+min n (page - at' % page):Nat):Int):=by unfold Xg6; simp only; omega
   simp only
   rw [← e]; exact a4,a5,by
   have e:((n:Int) - ((Xg6 at' n page).2.2:Nat))=((n - min n (page - at' % page):Nat):Int):=by unfold Xg6; simp only; omega
   simp only
   rw [← e]; exact a3,F.trans O⟩ (by simp only; omega) ⟨rfl,rfl,rfl,rfl,trivial⟩
 ·have m:n=0:=by have:=of_decide_eq_false L; omega
  subst m;have r:(Xrf at0 n0 page).length=pre.length:=by rw [a,Xri]; simp
  exact ζr Tryz.func327 rfl ⟨rfl,by rw [r]; exact q,F⟩
theorem Xee (at' n page:Int) (w:World):Xan Tryz.prog 315 #[.int .i64 at',.int .i64 n,.int .i64 page] w (fun v w' => ∃ pa pp pn,v = .func (.func 327) #[] #[.pointer (some ⟨pa,0,none⟩),.pointer (some ⟨pp,0,none⟩),.pointer (some ⟨pn,0,none⟩)] ∧
 w.heap.size≤pa∧w.heap.size≤pp∧w.heap.size≤pn∧(pa≠pp∧pa≠pn∧pp≠pn)∧Xh9 w' pa at'∧Xh9 w' pp page∧Xh9 w' pn n∧Chg XaW w w'):=by
 exact ζe Tryz.func315 Tryz.ntmps315 rfl (ζn rfl fun pa j e1 d c g=>ζn rfl fun pn k e2 e b h=>ζn rfl fun pp l e3 f a i=>ζr Tryz.func315 rfl ⟨pa,pp,pn,rfl,by omega,by omega,by omega,by omega,a.heap' (b.heap' d),f,a.heap' e,(c.trans b).trans a⟩)
theorem Xpd {base t:Nat} {w:World} {v:Value} {L:List Span} (h:Own base t 3 w v L.length (L.flatMap Xq9)):∃ a cap,v = .slice a L.length cap∧Rows Xq9 3 w a L ∧ ∀ b off s,a=some ⟨b,off,s⟩→base≤b:=by
 rcases h.2 with ⟨rfl,m⟩ | ⟨g,cap,cur,rfl,n,o,y,z,A,p⟩
 ·obtain rfl:L = []:=List.length_eq_zero_iff.1 m;exact ⟨none,0,rfl,fun i x c=>by simp at c,fun _ _ _ e=>by cases e⟩
 ·refine ⟨some ⟨g,0,none⟩,cap,rfl,fun i x c=>⟨g,0,rfl,fun j v f => ?_⟩,fun b off s e=>by cases e; exact n⟩;have u:=(List.getElem?_eq_some_iff.1 c).1;have q:j<3:=by have:=(List.getElem?_eq_some_iff.1 f).1; simpa [Xq9] using this
  rw [Xd6 o];have k:∀ (L:List Span) (i:Nat) (x:Span),L[i]? = some x→(L.flatMap Xq9)[i*3+j]? = (Xq9 x)[j]?:=by
   intro L
   induction L with
   |nil=>intro i x c; simp at c
   |cons s r ih =>
    intro i x c;rw [List.flatMap_cons];have d:(Xq9 s).length=3:=rfl;cases i with
    |zero =>
     simp at c; subst c;rw [Nat.zero_mul,Nat.zero_add,List.getElem?_append_left (by rw [d]; exact q)]
    |succ i =>
     rw [List.getElem?_append_right (by rw [d]; omega),d,show (i+1)*3+j - 3=i*3+j from by omega];exact ih i x (by simpa using c)
  have l:=k L i x c;rw [f,← p,List.getElem?_take,if_pos (by omega)] at l;rw [Nat.zero_add]
  simpa using l
theorem Xeb (at' n page:Nat) (w:World) (hb:at'+n≤16777216∧1≤page∧page≤16777216):Xan Tryz.prog 291 #[.int .i64 at',.int .i64 n,.int .i64 page] w
 (fun v w' => ∃ a cap,v = .slice a (Xrf at' n page).length cap∧Rows Xq9 3 w' a (Xrf at' n page)∧(∀ b off s,a=some ⟨b,off,s⟩→w.heap.size≤b)∧Chg XaW w w'):=by
 have bq:maxLen=9223372036854775807:=rfl;have br:=Xrh (page:=page) hb.2.1 n at';refine ζe Tryz.func291 Tryz.ntmps291 rfl (ζf rfl (ζf rfl (ζf rfl (ζf rfl (ζj rfl (ζf rfl (ζn rfl fun lb w1 e1 an p bs=>ζc rfl (Xee at' n page w1) ?_)))))));rintro _ w2 ⟨pa,pp,pn,rfl,bt,bu,bv,ao,R,T,U,E⟩;refine ζa rfl ?_;have b8:=XjD R;have ba:=XjD T;have bb:=XjD U;have F:=p.trans E;have a9:=E.heap' an;have bw:=E.size;refine Xay.rangeFunc rfl rfl ⟨Tryz.f327,Tryz.func327,rfl,rfl⟩ ?_;intro G B tmps w3 y hB aa ap aq q bx;have ab:=F.trans q;have ac:G.state = .ready:=by rw [y]
 have bd:({G with state := .ready,pending:=none}:Loop)=G:=by rw [y]
 have ad:G.pending=none:=by rw [y]
 refine (Xef (B+1) pa pp pn at' n page w3 (fun z=>z=lb∨z=B+1∨B+2≤z)
  (fun k w'=>k≤(Xrf at' n page).length ∧ ∃ v,w'.heap[lb]? = some (.cells ([v]:List Value).toArray 356 (0,0))∧Own (B+2) 359 3 w' v k (((Xrf at' n page).take k).flatMap Xq9) ∧
   w'.heap[B+1]? = some (.loop G)∧w'.heap[B]? = some (.deferred (some []))∧B+2≤w'.heap.size∧Chg XaW w w')
  hb (q.heap' R) (q.heap' T) (q.heap' U) ao ⟨by omega,by omega,by omega⟩ ?_ ?_ ⟨Nat.zero_le _,_,q.heap' a9,World.ownsRow_nil _ _ _ _,aq,ap,by omega,ab⟩).mono ?_
 ·rintro k w4 L ⟨H,v,t,d,x,I,h5,J⟩ D;refine ⟨H,v,D.heap t (by omega),d.chg D (fun b hb e => ?_),D.heap x (by omega),D.heap I (by omega),Nat.le_trans h5 D.size,J.since D (fun z K e=>by have:=p.size; omega)⟩;have:=(World.ownsRow.lt d b hb.symm).1;omega
 ·rintro k w4 L H ⟨bz,v,t,d,x,I,h5,J⟩ r;have af:=XjD x;have ag:=XjD t;subst y;refine XbO.enter (ps := [33]) (r.heap' x) rfl rfl aa rfl (ζa rfl (ζn rfl fun sb w6 e6 au V av=>ζs au rfl fun w7 ah W c0 => ?_));have c:=(r.trans V).since W (fun z K e=>by have:=r.size; omega);have bf:=r.size;refine Xay.beginRound rfl (c.heap' x) rfl fun w8 ay f c4=>ζa rfl (ζl (f.heap (c.heap' t) (by omega)) rfl (ζl (f.heap ah (by omega)) rfl (Xay.buildSlice hTT rfl fun b9 w9 e9 az g c5=>ζa rfl ?_)));have A:=((d.chg c (fun _ _ h=>h)).chg f (fun b hb e=>by have:=(World.ownsRow.lt d b hb.symm).1; omega)).chg g (fun _ _ h=>h);have b0:((Xrf at' n page).take (k+1)).flatMap Xq9=((Xrf at' n page).take k).flatMap Xq9++Xq9 (Xrf at' n page)[k]:=by
   rw [List.take_add_one,List.getElem?_eq_getElem H,List.flatMap_append]; simp
  refine Xay.append (base:=B+2) (news:=Xq9 (Xrf at' n page)[k]) hTT rfl A (by have:=c.size; have:=f.size; have:=g.size; omega) rfl (fun i u M=>by rw [XbQ,Xd6 az]; simpa [Xq9,XuN] using M) (fun u M=>by simp [Xq9] at M; rcases M with rfl | rfl | rfl <;> rfl) (by simp only; omega) ?_;intro c6 a0 l j bg;obtain ⟨c7,b5,b6,N,-⟩:=l.form (by omega);subst N;refine ζa rfl ?_;have O:=j.heap (g.heap' (f.heap (c.heap' t) (by omega))) (fun e=>by have:=(World.ownsRow.lt A lb e.symm).1; omega);refine ζs O rfl fun a6 P m bh => ?_;have ai:=j.heap (g.heap' ay) (fun e=>by have:=(World.ownsRow.lt A _ e.symm).1; omega);have aj:=m.heap ai (by omega);refine Xay.roundEnd rfl aj ?_;intro a7 ak o bi;have al:=o.heap (m.heap (j.heap (g.heap' (f.heap (c.heap' I) (by omega))) (fun e=>by have:=(World.ownsRow.lt A _ e.symm).1; omega)) (by omega)) (by omega);have hc:∀ S:Nat→Prop,S lb→S (B+1)→(∀ z,some z=v.ownBlock→S z)→Chg S L a7:=fun S c1 c2 c3=>by
   have a1:Chg S L w7:=(V.mono fun _ _ h=>h.elim).since W (fun z K e=>by omega);have a2:Chg S w7 w8:=f.mono fun z _ e=>by subst e; exact c2
   have a3:Chg S w8 a0:=(g.mono fun _ _ h=>h.elim).trans (j.mono fun z _ e=>c3 z e);have a4:Chg S a0 a6:=m.mono fun z _ e=>by subst e; exact c1
   have a5:Chg S a6 a7:=o.mono fun z _ e=>by subst e; exact c2
   exact (((a1.trans a2).trans a3).trans a4).trans a5
  refine ⟨_,rfl,rfl,⟨H,_,o.heap P (by omega),?_,ak,al,by have:=c.size; have:=f.size; have:=g.size; have:=j.size; omega,(J.trans r).since (hc (fun z=>z=lb∨B+1≤z) (.inl rfl) (.inr (Nat.le_refl _)) (fun z e => .inr (by have:=(World.ownsRow.lt d z e.symm).1; omega))) (fun z K e=>by have:=p.size; omega)⟩,
   hc _ ⟨.inl rfl,ag⟩ ⟨.inr (.inl rfl),af⟩ (fun z e=>⟨.inr (.inr (World.ownsRow.lt d z e.symm).1),(World.ownsRow.lt d z e.symm).2⟩)⟩
  rw [b0];exact (l.chg m (fun b hb e=>by have:=(World.ownsRow.lt l b hb.symm).1; omega)).chg o (fun b hb e=>by have:=(World.ownsRow.lt l b hb.symm).1; omega)
 ·rintro _ w4 ⟨rfl,⟨H,v,t,d,x,I,h5,J⟩,c8⟩;refine ⟨_,x,by rw [ac]; simp,?_⟩;intro L C c9;rw [ad];refine ζa rfl (ζl (C.heap t (by omega)) rfl ?_);rw [List.take_length] at d;have b3:=d.chg C (fun b hb e=>by have:=(World.ownsRow.lt d b hb.symm).1; omega);refine Xay.retM hTT rfl Tryz.func291 (C.heap I (by omega)) (vs := [v]) (fun _ _ => .tmp rfl .nil) ?_;intro w6 a8 av;have b4:=b3.chg a8 (fun b hb e=>by have:=(World.ownsRow.lt d b hb.symm).1; omega);obtain ⟨a,cap,rfl,Q,am⟩:=Xpd b4;exact ⟨a,cap,rfl,Q,fun b off s e=>by have:=am b off s e; have:=F.size; omega,(J.since C (fun z K e=>by have:=p.size; omega)).since a8 (fun z K e=>by have:=p.size; omega)⟩
theorem Rd.far' {k:IntKind} {w w':World} {a:Option Addr} {zs:List Int} {S:Nat→Prop} (h:Rd k w a zs) (hs:0<zs.length→XaX S a) (hc:Chg S w w'):Rd k w' a zs:=(RdS.chg ⟨h,fun b off s e c=>hs c b off s e⟩ hc).1
theorem Xa4.far {w w':World} {q:Plc} {S:Nat→Prop} (h:Xa4 w q) (hs:0<q.pages.length→XaX S q.pa) (hc:Chg S w w'):Xa4 w' q:=⟨h.rd.far' hs hc,h.len⟩
theorem Xam.far {w w':World} {c:Conf} {p:Xal} {S:Nat→Prop} (h:Xam w c p) (h1:0<c.classes.length→XaX S p.ca) (h2:0<c.keep.length→XaX S p.ka) (hc:Chg S w w'):Xam w' c p:=⟨h.classes.far' h1 hc,h.keep.far' h2 hc,h.lc,h.lk,h.size⟩
theorem XbN.far {w w':World} {v:Vw} {S:Nat→Prop} (h:XbN w v) (h0:¬ S v.vb) (h1:0<v.c.classes.length→XaX S v.p.ca) (h2:0<v.c.keep.length→XaX S v.p.ka) (hc:Chg S w w'):XbN w' v:=⟨hc.heap h.obj h0,h.conf.far h1 h2 hc,h.may⟩
theorem Rd.outNew {k:IntKind} {w:World} {a:Option Addr} {zs:List Int} {S S':Nat→Prop} (h:Rd k w a zs) (hs:0<zs.length→XaX S a) (hS:∀ z,S' z→S z∨w.heap.size≤z):0<zs.length→XaX S' a:=fun c b off s e d=>by
 rcases hS b d with h1 | h1
 ·exact hs c b off s e h1
 ·obtain ⟨b',off',e',f⟩:=h 0 c;rw [e] at e';cases e'
  have:=World.block_lt_of_cell? w _ f;simp only at this
  omega
theorem Xrc {page:Nat} (hp:1≤page):∀ (n at':Nat),∀ s ∈ Xrf at' n page,s.1*page+s.2.1+s.2.2≤at'+n∧0<s.2.2∧s.2.1+s.2.2≤page∧at'≤s.1*page+s.2.1:=by
 intro n
 induction n using Nat.strongRecOn with
 |_ n ih =>
  intro at' s hs;by_cases b:n=0
  ·subst b; cases hs
  ·have c:=Xg7 (at':=at') hp (show 0<n by omega);have d:=Nat.mod_lt at' (show 0<page by omega);have a:=Nat.div_add_mod at' page;rw [Xrg hp (by omega)] at hs;rcases List.mem_cons.1 hs with rfl | hs
   ·unfold Xg6;simp only
    rw [Nat.mul_comm] at a;omega
   ·have:=ih _ (by omega) _ s hs;omega
def Xl4 (c:Conf) (q:Plc) (at' n:Nat):List (Int × Int) :=
 if q.cls = -1 then (Xrf at' n c.size.toNat).map fun s=>(q.pages.getD s.1 0*c.size+s.2.1,(s.2.2:Int)) else [(XtH c q+at',(n:Int))]
theorem Xei (A:Ar) (V:ArV) (n:Int) (w:World) (h:Xag w A V):Xan Tryz.prog 146 #[ptr A.mb,.int .i64 n] w (fun _ w'=>Xag w' A (V.charge A n)∧Chg (XjO A) w w'):=by
 cases a:A.mb with
 |none =>
  refine (Xj9 n w).mono fun _ w' e => ?_;subst e;exact ⟨by unfold ArV.charge; rw [a]; exact h,Chg.refl _ _⟩
 |some b =>
  refine (Xj8 b V.total V.lap n w (h.met b a)).mono fun _ w' ⟨hm,c⟩ => ?_;exact ⟨by unfold ArV.charge; rw [a]; exact h.metered a hm c,c.mono fun x _ d=>by unfold XjO; rw [d]; exact a⟩
theorem XtZ (v:Vw) (q:Plc) (at' n:Int) (w:World):Xan Tryz.prog 249 #[vwV v,.agg (Xm9 q).toArray,.int .i64 at',.int .i64 n] w (fun u w' => ∃ pb vb ab nb,u = .func (.func 290) #[] #[.pointer (some ⟨pb,0,none⟩),.pointer (some ⟨vb,0,none⟩),.pointer (some ⟨ab,0,none⟩),.pointer (some ⟨nb,0,none⟩)] ∧
 w.heap.size≤pb∧w.heap.size≤vb∧w.heap.size≤ab∧w.heap.size≤nb∧Xm8 w' pb q∧Xns w' vb v∧Xh9 w' ab at'∧Xh9 w' nb n∧Chg XaW w w'):=by
 refine ζe Tryz.func249 Tryz.ntmps249 rfl (ζn rfl fun vb o e1 f d j=>ζn rfl fun pb p e2 g e k=>ζn rfl fun ab r e3 h c l=>ζn rfl fun nb s e4 i a m => ?_);have b:=e.trans (c.trans a);exact ζr Tryz.func249 rfl ⟨pb,vb,ab,nb,rfl,by omega,by omega,by omega,by omega,(c.trans a).heap' g,b.heap' f,a.heap' h,i,d.trans b⟩
def Xev (q:Plc) (A:Ar) (V:ArV):ArV:=if q.cls = -1 then V.charge A 1 else V
theorem Xag.mlt {w:World} {A:Ar} {V:ArV} (h:Xag w A V):∀ z,XjO A z→z<w.heap.size:=fun z a=>XjD (h.met z a).1
theorem Xt0 (l:Nat) (v:Vw) (q:Plc) (at' n pb vb ab nb:Nat) (A:Ar) (Vs:Nat→ArV) (K:Nat→(Nat→Prop)→World→Prop) (Y0:Nat→Prop) (w:World)
 (hv:XbN w v) (hq:Xa4 w q) (hmb:v.mb=A.mb) (hin:XtL v.c q=true) (hr:(at':Int)+n≤XtI v.c q) (hfew:q.pages.length≤4096)
 (hpb:Xm8 w pb q) (hvb:Xns w vb v) (hab:Xh9 w ab at') (hnb:Xh9 w nb n)
 (hP1:∀ z,Y0 z∨XjO A z→z≠pb∧z≠vb∧z≠v.vb) (hPq:0<q.pages.length→XaX (fun z=>Y0 z∨XjO A z) q.pa) (hPc:0<v.c.classes.length→XaX (fun z=>Y0 z∨XjO A z) v.p.ca) (hPk:0<v.c.keep.length→XaX (fun z=>Y0 z∨XjO A z) v.p.ka)
 (hKlt:∀ k Y w,K k Y w → ∀ z,Y z→z<w.heap.size) (hK:∀ k Y w w',K k Y w→Chg (XjO A) w w'→K k Y w')
 (hy:∀ k Y w0 w (h:k<(Xl4 v.c q at' n).length),Xag w0 A (Xev q A (Vs k))→K k Y w0→Chg XaW w0 w →
  XbO Tryz.prog l [.int .i64 (Xl4 v.c q at' n)[k].1,.int .i64 (Xl4 v.c q at' n)[k].2] w (fun u w'=>u = .bool true∧Xag w' A (Vs (k+1))∧Chg Y w w' ∧ ∃ Y',K (k+1) Y' w' ∧ ∀ z,Y' z→Y z∨w.heap.size≤z))
 (h0:Xag w A (Vs 0)) (hK0:K 0 Y0 w) :
 Xan Tryz.prog 290 #[XuK l,.pointer (some ⟨pb,0,none⟩),.pointer (some ⟨vb,0,none⟩),.pointer (some ⟨ab,0,none⟩),.pointer (some ⟨nb,0,none⟩)] w
  (fun u w'=>u = .tuple #[]∧Xag w' A (Vs (Xl4 v.c q at' n).length)∧(∃ Y',K (Xl4 v.c q at' n).length Y' w' ∧ ∀ z,Y' z→Y0 z∨w.heap.size≤z)∧Chg (fun z=>Y0 z∨XjO A z) w w'):=by
 obtain ⟨m1,m2,m3⟩:=Xj0 hv.may;have b8:=Xqt hv.may;have a2:∀ {x y:World},Chg XaW x y→Chg (XjO A) x y:=fun h=>h.mono fun _ _ h=>h.elim;refine ζe Tryz.func290 Tryz.ntmps290 rfl (ζl hpb rfl ?_);by_cases d:q.cls = -1
 ·obtain ⟨b9,I⟩:=Xif hin d;have J:XtI v.c q=(q.pages.length:Int)*v.c.size:=by unfold XtI; rw [if_pos hin,if_pos d]
  rw [J] at hr;have a3:(q.pages.length:Int)*v.c.size≤4096*4096:=Int.mul_le_mul (by omega) (by omega) (by omega) (by omega);obtain ⟨sz,a4⟩:=Int.eq_ofNat_of_zero_le (show 0≤v.c.size by omega);have a9:v.c.size.toNat=sz:=by omega
  have o:Xl4 v.c q at' n=(Xrf at' n sz).map fun s=>(q.pages.getD s.1 0*v.c.size+s.2.1,(s.2.2:Int)):=by unfold Xl4; rw [if_pos d,a9]
  have B:(Xl4 v.c q at' n).length=(Xrf at' n sz).length:=by rw [o,List.length_map]
  have bg:=Xrh (page:=sz) (by omega) n at';refine Xay.no hTT rfl (show (q.cls != -1)=false by rw [d]; rfl) rfl ?_;refine Xay.drawn (q:=10) XaW hTT Xki (by kernel_rfl) rfl ?_;intro c;refine Xaq.loadb hTT c rfl hab (by first | exact fun h=>h | (intro h; omega) | assumption) rfl rfl ?_;refine Xaq.loadb hTT c rfl hnb (by first | exact fun h=>h | (intro h; omega) | assumption) rfl rfl ?_;refine Xaq.loadb hTT c rfl hvb (by first | exact fun h=>h | (intro h; omega) | assumption) rfl rfl ?_;refine Xaq.loadb hTT c rfl hv.obj (by first | exact fun h=>h | (intro h; omega) | assumption) rfl rfl ?_;have hd:∀ w',Chg XaW w w'→Xan Tryz.prog 291 #[.int .i64 at',.int .i64 n,.int .i64 v.c.size] w' (fun u m=>Chg XaW w' m ∧ ∃ a cap,u = .slice a (Xrf at' n sz).length cap∧Rows Xq9 3 m a (Xrf at' n sz)∧(∀ b off s,a=some ⟨b,off,s⟩→w'.heap.size≤b)):=fun w' r=>by
   rw [a4];exact (Xeb at' n sz w' (by omega)).mono fun u m ⟨a,cap,L,h2,h3,h4⟩=>⟨h4,a,cap,L,h2,h3⟩
  refine Xaq.callQ c rfl rfl (fun w' r=>(hd w' r).mono fun u m ⟨L,a,cap,h2,h3,h4⟩=>(⟨L,a,cap,h2,h3,fun b off s e=>Nat.le_trans r.size (h4 b off s e)⟩:Chg XaW w' m ∧ ∃ a cap,u = .slice a (Xrf at' n sz).length cap∧Rows Xq9 3 m a (Xrf at' n sz)∧(∀ b off s,a=some ⟨b,off,s⟩→w.heap.size≤b))) ?_;rintro _ w1 al ⟨sa,scap,rfl,a1,ae⟩;refine Xaq.adv hTT c rfl (δn c rfl fun m t => ?_);have f:=al.trans t;have M:=a1.chg t;have am:XaX (fun z=>Y0 z∨XjO A z) sa:=fun b off s e hb=>by
   have:=ae b off s e;rcases hb with hb | hb
   ·have:=hKlt _ _ _ hK0 b hb; omega
   ·have:=h0.mlt b hb; omega
  refine Xay.loop (α:=Nat) (fun k => [(0,false,XuK l),(1,false,.pointer (some ⟨pb,0,none⟩)),(2,false,.pointer (some ⟨vb,0,none⟩)),(26,false,.slice sa (Xrf at' n sz).length scap),(27,false,.int .i64 (Xrf at' n sz).length),(28,false,.int .i64 k)])
   (fun k w'=>k≤(Xrf at' n sz).length∧Xag w' A (Vs k)∧(∃ Y,K k Y w' ∧ ∀ z,Y z→Y0 z∨m.heap.size≤z)∧Chg (fun z=>Y0 z∨XjO A z) m w') (fun k=>(Xrf at' n sz).length - k) 0 ⟨rfl,rfl,rfl,rfl,rfl,rfl,trivial⟩
   ⟨Nat.zero_le _,h0.grow f,⟨Y0,hK _ _ _ _ hK0 (a2 f),fun _ h => .inl h⟩,Chg.refl _ _⟩ ?_
  rintro k w3 ⟨hk,N,⟨Y,a5,O⟩,i⟩ ih;refine ζa rfl (ζg rfl (fun hc => ?_) fun hc => ?_)
  ·have C:k<(Xrf at' n sz).length:=by have:=of_decide_eq_true hc; omega
   obtain ⟨s,hs⟩:∃ s,s=(Xrf at' n sz)[k]:=⟨_,rfl⟩;obtain ⟨i1,i2,i3,i4⟩:=Xrc (page:=sz) (by omega) n at' s (hs▸List.getElem_mem C);have G:s.1<q.pages.length:=by
    have L:(s.1*sz:Nat)<q.pages.length*sz:=by
     have:((q.pages.length*sz:Nat):Int)=(q.pages.length:Int)*v.c.size:=by rw [a4]; rfl
     omega
    exact Nat.lt_of_mul_lt_mul_right L
   obtain ⟨rb,roff,an,H⟩:=(M.at C);subst an;rw [← hs] at H;have P:∀ j u,(Xq9 s)[j]? = some u→w3.cell? ⟨rb,roff+k*3+j,none⟩=some u:=fun j u hu=>i.cell (H j u hu) (am rb roff none rfl);have ah:=i.heap (f.heap' hpb) (fun e=>(hP1 _ e).1 rfl);have Q:=i.heap (f.heap' hvb) (fun e=>(hP1 _ e).2.1 rfl);have a6:=(hv.grow f).far (fun e=>(hP1 _ e).2.2 rfl) hPc hPk i;have ao:=(hq.grow f).far hPq i;refine ζi (k*3) rfl (Xay.loadC hTT (Xq9 s) rfl (by first | rfl | (simp; done) | (simp [*]; done) | (simp; omega)) (P) rfl (ζn rfl fun sb w4 e4 ap aq bh=>ζs ap rfl fun w5 ai ar bi => ?_));have p:=aq.since ar (fun z E e=>by omega);refine ζl (p.heap' Q) rfl (ζl (a6.grow p).obj rfl ?_);rw [hmb];refine ζc rfl (Xei A (Vs k) 1 w5 (N.grow p)) ?_;rintro _ w6 ⟨au,R⟩;refine ζa rfl ?_;have av:=hK _ _ _ _ (hK _ _ _ _ a5 (a2 p)) R;have aw:∀ {x y:World},Chg (XjO A) x y→Chg (fun z=>Y0 z∨XjO A z) x y:=fun h=>h.mono fun _ _ h => .inr h;have g:=(p.mono fun _ _ h=>h.elim).trans (aw R);have aj:=g.heap ah (fun e=>(hP1 _ e).1 rfl);have ak:=g.heap Q (fun e=>(hP1 _ e).2.1 rfl);have ax:=a6.far (fun e=>(hP1 _ e).2.2 rfl) hPc hPk g;have ay:=ao.far hPq g;have F:=R.heap ai (fun e=>by have:=N.mlt _ e; omega);obtain ⟨gb,goff,a7,az⟩:=ay.rd s.1 G;have b0:0≤q.pages.getD s.1 0∧q.pages.getD s.1 0<v.c.pages:=I _ (by rw [List.getD_eq_getElem?_getD,List.getElem?_eq_getElem G]; exact List.getElem_mem G);have S:0≤q.pages.getD s.1 0*v.c.size∧q.pages.getD s.1 0*v.c.size≤1024*4096:=⟨Int.mul_nonneg b0.1 (by omega),Int.mul_le_mul (by omega) (by omega) (by omega) (by omega)⟩;have b1:(Xl4 v.c q at' n)[k]'(by rw [B]; exact C)=(q.pages.getD s.1 0*v.c.size+s.2.1,(s.2.2:Int)):=by
    simp only [o,List.getElem_map,← hs]
   obtain ⟨cls,page,idx,pa,pc,pages⟩:=q;simp only at a7
   subst a7;refine ζd 18 XaW (by kernel_rfl) rfl fun c=>δl c aj rfl (δl c F rfl (Xaq.index hTT c rfl (j:=s.1) (show (0:Int)≤(s.1:Nat) by omega) (show ((s.1:Nat):Int)<pages.length by have:s.1<pages.length:=G; omega) (by simp) rfl (δk c az rfl (δl c ak rfl (δl c ax.obj rfl (Xaq.arith hTT c rfl (w64 (by show _∧_; simp only at S ⊢; omega)) rfl (δl c F rfl (Xaq.arith hTT c rfl (w64 (by show _∧_; simp only at S ⊢; omega)) rfl (δl c F rfl (δn c rfl fun w7 T => ?_))))))))));have D:=hy k Y w6 w7 (by rw [B]; exact C) (by unfold Xev; rw [if_pos d]; exact au) av T;rw [b1] at D;refine Xay.yield rfl D ?_;rintro _ w8 ⟨rfl,U,V,Y',W,a0⟩;refine ζa rfl (ζf rfl (ζj rfl ?_));have b6:m.heap.size≤w7.heap.size:=by have:=i.size; have:=g.size; have:=T.size; omega
   exact ih (k+1) _ _ ⟨C,U,⟨Y',W,fun z E=>(a0 z E).elim (O z) (fun h => .inr (by omega))⟩,
    ((i.trans g).trans (T.mono fun _ _ h=>h.elim)).since V (fun z E h => .inl ((O z h).elim id (fun h=>by omega)))⟩ (by omega) ⟨rfl,rfl,rfl,rfl,rfl,rfl,trivial⟩
  ·have b3:k=(Xrf at' n sz).length:=by have:=of_decide_eq_false hc; omega
   subst b3;have b7:=f.size;rw [B];exact ζr Tryz.func290 rfl ⟨rfl,N,⟨Y,a5,fun z E=>(O z E).imp id (fun h=>by omega)⟩,(f.mono fun _ _ h=>h.elim).trans i⟩
 ·have o:Xl4 v.c q at' n = [(XtH v.c q+at',(n:Int))]:=by unfold Xl4; rw [if_neg d]
  obtain ⟨kk,pg,ix,a8,I,b4,bj,g1,g2,g3,g4,g5,g6,g7⟩:=Xig hv.may hin d;have b5:XtH v.c q=(pg:Int)*v.c.size+(ix:Int)*XeV v.c kk:=by unfold XtH; rw [if_pos ⟨hin,d⟩,a8,I,b4]
  have J:XtI v.c q=XeV v.c kk:=by unfold XtI; rw [if_pos hin,if_neg d,a8]
  rw [J] at hr;refine ζY rfl (show (q.cls != -1)=true by simpa using d) (ζd 7 XaW (by kernel_rfl) rfl fun c=>δl c hvb rfl (δl c hpb rfl (δv c (fun w' r=>XtN v q w' (hv.grow r) (hq.grow r)) rfl (δl c hab rfl (Xaq.arith hTT c rfl (w64 (by show _∧_; rw [b5]; omega)) rfl (δl c hnb rfl (δn c rfl fun m t => ?_)))))));have D:=hy 0 Y0 w m (by rw [o]; simp) (by unfold Xev; rw [if_neg d]; exact h0) hK0 t;rw [show (Xl4 v.c q at' n)[0]'(by rw [o]; simp)=(XtH v.c q+at',(n:Int)) from by simp only [o]; rfl] at D;refine Xay.yield rfl D ?_;rintro _ w8 ⟨rfl,U,V,Y',W,a0⟩;refine ζa rfl ?_;have a3:(Xl4 v.c q at' n).length=1:=by rw [o]; rfl
  rw [a3];have:=t.size;exact ζr Tryz.func290 rfl ⟨rfl,U,⟨Y',W,fun z E=>(a0 z E).imp id (fun h=>by omega)⟩,(t.mono fun _ _ h=>h.elim).trans (V.mono fun _ _ h => .inl h)⟩
def Xeq (c:Conf) (q:Plc) (at' n:Int):Int:=if XtL c q=false then 1 else if at'<0∨n<0∨XtI c q<n∨XtI c q - n<at' then 8 else 0
theorem XtJ {c:Conf} {q:Plc} (hm:XjY c=true) (hfew:q.pages.length≤4096):0≤XtI c q∧XtI c q≤16777216:=by
 obtain ⟨f,g,h⟩:=Xj0 hm;unfold XtI;split
 ·rename_i d
  split
  ·have i:(q.pages.length:Int)*c.size≤4096*4096:=Int.mul_le_mul (by omega) (by omega) (by omega) (by omega);exact ⟨Int.mul_nonneg (by omega) (by omega),by omega⟩
  ·rename_i a
   obtain ⟨kk,pg,ix,b,_,_,e,_,j,k,_⟩:=Xig hm d a;rw [b]; omega
 ·omega
theorem Xag.blt {w:World} {A:Ar} {V:ArV} (h:Xag w A V):∀ b,b=A.ab∨b=A.db∨b=A.mc∨A.mb=some b→b<w.heap.size:=fun b hb=>by
 rcases hb with rfl | rfl | rfl | hb
 ·exact XjD h.obj
 ·exact XjD h.dat
 ·exact XjD h.cap
 ·exact XjD (h.met b hb).1
theorem XtW (v:Vw) (q:Plc) (at' n fk:Nat) (caps:List Value) (A:Ar) (Vs:Nat→ArV) (K:Nat→(Nat→Prop)→World→Prop) (Y0:Nat→Prop) (w:World)
 (hv:XbN w v) (hq:Xa4 w q) (hmb:v.mb=A.mb) (hck:Xeq v.c q at' n=0) (hfew:q.pages.length≤4096)
 (hPv:¬ (Y0 v.vb∨XjO A v.vb)) (hPq:0<q.pages.length→XaX (fun z=>Y0 z∨XjO A z) q.pa) (hPc:0<v.c.classes.length→XaX (fun z=>Y0 z∨XjO A z) v.p.ca) (hPk:0<v.c.keep.length→XaX (fun z=>Y0 z∨XjO A z) v.p.ka)
 (hKlt:∀ k Y w,K k Y w → ∀ z,Y z→z<w.heap.size) (hK:∀ k Y w1 w2 S,K k Y w1→Chg S w1 w2→(∀ z,S z→XjO A z∨(¬ Y z∧w.heap.size≤z))→K k Y w2)
 (hdo:∀ k Y w0 (h:k<(Xl4 v.c q at' n).length),Xag w0 A (Xev q A (Vs k))→K k Y w0 →
  Xan Tryz.prog fk (.int .i64 (Xl4 v.c q at' n)[k].1 :: .int .i64 (Xl4 v.c q at' n)[k].2::caps).toArray w0 (fun _ w'=>Xag w' A (Vs (k+1))∧Chg Y w0 w' ∧ ∃ Y',K (k+1) Y' w' ∧ ∀ z,Y' z→Y z∨w0.heap.size≤z))
 (h0:Xag w A (Vs 0)) (hK0:K 0 Y0 w) :
 Xan Tryz.prog 192 #[vwV v,.agg (Xm9 q).toArray,.int .i64 at',.int .i64 n,.func (.func fk) #[] caps.toArray] w
  (fun u w'=>u = .int .i64 0∧Xag w' A (Vs (Xl4 v.c q at' n).length)∧(∃ Y',K (Xl4 v.c q at' n).length Y' w' ∧ ∀ z,Y' z→Y0 z∨w.heap.size≤z)∧Chg (fun z=>Y0 z∨XjO A z) w w'):=by
 have l:=XtJ (c:=v.c) (q:=q) hv.may hfew;have J:XtL v.c q=true:=by
  cases J:XtL v.c q with
  |true=>rfl
  |false=>unfold Xeq at hck; rw [if_pos J] at hck; cases hck
 have b3:¬ ((at':Int)<0∨(n:Int)<0∨XtI v.c q<n∨XtI v.c q - n<at'):=fun h=>by
  unfold Xeq at hck; rw [if_neg (by rw [J]; decide),if_pos h] at hck; cases hck
 refine ζe Tryz.func192 Tryz.ntmps192 rfl (ζn rfl fun qb w1 e1 ag ah ai=>ζn rfl fun db w2 e2 aj a1 bh => ?_);have j:=a1.heap' ag;have hw:=ah.trans a1;refine ζl j rfl (ζv (XtX v q w2 (hv.grow hw) (hq.grow hw)) rfl fun w3 D => ?_);have L:=hw.trans D;rw [J];refine ζf rfl (ζf rfl (ζf rfl (ζl (D.heap' j) rfl (ζv (XtO v q w3 (hv.grow L) (hq.grow L) (by omega)) rfl fun w4 M => ?_))));have N:=L.trans M;refine ζf rfl (ζl ((D.trans M).heap' j) rfl (ζv (XtO v q w4 (hv.grow N) (hq.grow N) (by omega)) rfl fun w5 a2 => ?_));have a3:=N.trans a2;refine ζj rfl (ζf rfl ?_);have O:=(D.trans M).trans a2;refine ζl (O.heap' j) rfl (ζc rfl (XtZ v q at' n w5) ?_);rintro _ w6 ⟨pb,vb,ab,nb,rfl,bi,bj,bk,bl,bpb,bvb,bab,bnb,a4⟩;refine ζa rfl ?_;have ak:=a3.trans a4;have P:=(O.trans a4).heap' aj;have l1:=XjD bpb;have l2:=XjD bvb;have b8:=a3.size;have b9:=XjD P;refine Xay.rangeFunc rfl rfl ⟨Tryz.f290,Tryz.func290,rfl,rfl⟩ ?_;intro Q B tmps w7 E hB a7 al am g bm;have m:=ak.trans g;have R:=hKlt _ _ _ hK0;have F:=h0.mlt;have bn:=XjD hv.obj;have hN:∀ {x y:World} {k Y},K k Y x→Chg XaW x y→K k Y y:=fun hk hc=>hK _ _ _ _ _ hk hc (fun _ h=>h.elim);have a9:Q.state = .ready:=by rw [E]
 have bc:({Q with state := .ready,pending:=none}:Loop)=Q:=by rw [E]
 have aa:Q.pending=none:=by rw [E]
 refine (Xt0 (B+1) v q at' n pb vb ab nb A Vs
  (fun k T x => ∃ Y,K k Y x∧(∀ z,T z↔Y z∨z=B+1)∧x.heap[B+1]? = some (.loop Q)∧x.heap[B]? = some (.deferred (some []))∧x.heap[db]? = some (.cells ([.func (.func fk) #[] caps.toArray]:List Value).toArray 150 (0,0))∧(∀ z,Y z→z≠B∧z≠B+1∧z≠db))
  (fun z=>Y0 z∨z=B+1) w7 (hv.grow m) (hq.grow m) hmb J (by omega) hfew (g.heap' bpb) (g.heap' bvb) (g.heap' bab) (g.heap' bnb) ?_ ?_ ?_ ?_ ?_ ?_ ?_ (h0.grow m) ?_).mono ?_
 ·intro z hz;rcases hz with (hz | hz) | hz
  ·have:=R z hz;exact ⟨by omega,by omega,fun e=>hPv (.inl (e▸hz))⟩
  ·exact ⟨by omega,by omega,by omega⟩
  ·have:=F z hz;exact ⟨by omega,by omega,fun e=>hPv (.inr (e▸hz))⟩
 ·exact hq.rd.outNew hPq (fun z hz=>by rcases hz with (hz | hz) | hz; exact .inl (.inl hz); exact .inr (by omega); exact .inl (.inr hz))
 ·exact hv.conf.classes.outNew hPc (fun z hz=>by rcases hz with (hz | hz) | hz; exact .inl (.inl hz); exact .inr (by omega); exact .inl (.inr hz))
 ·exact hv.conf.keep.outNew hPk (fun z hz=>by rcases hz with (hz | hz) | hz; exact .inl (.inl hz); exact .inr (by omega); exact .inl (.inr hz))
 ·rintro k T x ⟨Y,p,d,r,I,U,f⟩ z hz;rcases (d z).1 hz with hz | rfl
  ·exact hKlt _ _ _ p z hz
  ·exact XjD r
 ·rintro k T x y ⟨Y,p,d,r,I,U,f⟩ hs;exact ⟨Y,hK _ _ _ _ _ p hs (fun z h => .inl h),d,hs.heap r (fun e=>by have:=F _ e; omega),hs.heap I (fun e=>by have:=F _ e; omega),hs.heap U (fun e=>by have:=F _ e; omega),f⟩
 ·rintro k T x0 x hk ao ⟨Y,p,d,r,I,U,f⟩ V;have hA:=ao.grow V;have s:=V.heap' r;have ac:=V.heap' I;have t:=V.heap' U;have ap:=hN p V;subst E;refine XbO.enter (ps := [46,47]) s rfl rfl a7 rfl (ζa rfl (Xay.beginRound rfl s rfl fun x1 aq i ai=>ζa rfl ?_));have ad:=hK _ _ _ _ _ ap i (fun z e => .inr ⟨fun a=>(f z a).2.1 e,by omega⟩);have ar:=hA.chg i (fun b l e=>by have:=h0.blt b l; omega);refine ζl (i.heap t (by omega)) rfl (ζc rfl (hdo k Y x1 hk ar ad) ?_);rintro _ x2 ⟨au,G,Y',av,a5⟩;refine ζa rfl ?_;have aw:=G.heap aq (fun a=>(f _ a).2.1 rfl);refine Xay.roundEnd rfl aw ?_;intro x3 ax o bo;have bf:=XjD t;have b4:=XjD s;have W:∀ z,Y' z→z≠B∧z≠B+1∧z≠db:=fun z hz=>(a5 z hz).elim (f z) (fun h=>by omega);have ay:=au.chg o (fun b l e=>by have:=h0.blt b l; omega);have az:=hK _ _ _ _ _ av o (fun z e => .inr ⟨fun a=>(W z a).2.1 e,by omega⟩);refine ⟨_,rfl,rfl,ay,((i.mono fun z _ e=>(d z).2 (.inr e)).trans (G.mono fun z _ e=>(d z).2 (.inl e))).trans (o.mono fun z _ e=>(d z).2 (.inr e)),fun z=>Y' z∨z=B+1,⟨Y',az,fun z=>Iff.rfl,ax,o.heap (G.heap (i.heap ac (by omega)) (fun a=>(f _ a).1 rfl)) (by omega),o.heap (G.heap (i.heap t (by omega)) (fun a=>(f _ a).2.2 rfl)) (by omega),W⟩,fun z hz => ?_⟩;rcases hz with hz | hz
  ·exact (a5 z hz).elim (fun h => .inl ((d z).2 (.inl h))) (fun h => .inr (by omega))
  ·exact .inl ((d z).2 (.inr hz))
 ·exact ⟨Y0,hN hK0 m,fun z=>Iff.rfl,am,al,g.heap' P,fun z hz=>by have:=R z hz; omega⟩
 ·rintro _ w8 ⟨rfl,b0,⟨T,⟨Y,p,d,r,I,U,f⟩,b1⟩,b2⟩;refine ⟨_,r,by rw [a9]; simp,?_⟩;intro w9 H bp;rw [aa];refine ζa rfl (Xay.retM hTT rfl Tryz.func192 (H.heap I (by omega)) (vs := [.int .i64 0]) (fun _ _ => .tmp rfl .nil) fun bq C bg => ?_);have ae:=(b0.chg H (fun b l e=>by have:=h0.blt b l; omega)).chg C (fun b l e=>by have:=h0.blt b l; omega);have af:=hK _ _ _ _ _ (hK _ _ _ _ _ p H (fun z e => .inr ⟨fun a=>(f z a).2.1 e,by omega⟩)) C (fun z e => .inr ⟨fun a=>(f z a).1 e,by omega⟩);refine ⟨rfl,ae,⟨Y,af,fun z hz => ?_⟩,?_⟩
  ·rcases b1 z ((d z).2 (.inl hz)) with (h | h) | h
   ·exact .inl h
   ·exact .inr (by omega)
   ·exact .inr (by omega)
  ·exact ((((m.mono fun _ _ h=>h.elim).since b2 (fun z hz h=>by rcases h with (h | h) | h; exact .inl h; exact absurd hz (by omega); exact .inr h))).since H (fun z hz e=>absurd hz (by omega))).since C (fun z hz e=>absurd hz (by omega))
theorem XcH (A:Ar) (V:ArV) (i n:Nat) (w:World) (h:Xag w A V) (ht:i+n≤V.bs.length):Xan Tryz.prog 292 #[.pointer (some ⟨A.ab,0,none⟩),.int .i64 i,.int .i64 n] w
 (fun v w' => ∃ x,v = .tuple #[.slice x n (V.bs.length - i),.int .i64 0]∧(0<n→x=some ⟨A.db,i,none⟩)∧x.isSome=true∧w=w') :=
 (XcG A V i n w h ht).mono fun _ _ ⟨a,b⟩=>⟨_,a,fun c=>Xrb ht c,by unfold Xqm; split <;> rfl,b⟩
theorem Xcy (A:Ar) (V:ArV) (t f n:Nat) (w:World) (h:Xag w A V) (hf:f+n≤V.bs.length) (ht:t+n≤V.bs.length) :
 Xan Tryz.prog 259 #[.pointer (some ⟨A.ab,0,none⟩),.int .i64 t,.int .i64 f,.int .i64 n] w (fun v w'=>v = .int .i64 0∧Xag w' A {V.charge A n with bs:=wrB V.bs t (sub V.bs f n)}∧Chg (Xgg A) w w'):=by
 refine Xan.enter Tryz.func259 rfl Tryz.ntmps259 rfl rfl ?_;refine ζa rfl ?_;refine ζc rfl (XcH A V f n w h hf) ?_;rintro _ E ⟨y,rfl,u,_,rfl⟩;refine ζa rfl ?_;refine Xay.no hTT rfl rfl rfl ?_;refine ζc rfl (XcF A V t n w h ht) ?_;rintro _ z ⟨x,rfl,a,_,d,B⟩;refine ζa rfl ?_;have e:Chg (Xgg A) w z:=B.mono fun b _ m => .inr m;have e1:=V.charge_bs A n;by_cases q:n=0
 ·refine Xay.copy0 hTT rfl (by simp [q]) rfl ?_;subst q;have o:sub V.bs f 0 = []:=by simp [sub]
  exact Xay.ret1 hTT rfl Tryz.func259 rfl rfl ⟨rfl,by rw [o,Xuw,← V.charge_bs A 0]; exact d,e⟩
 ·have r:=a (by omega);have s:=u (by omega);subst r s;have g:=d.sub (i:=f) (n:=n) (x:=some ⟨A.db,f,none⟩) (fun _=>rfl) (by rw [e1]; exact hf);rw [e1] at g;have j:=d.dat;rw [e1] at j;have c:=Xst hf;refine Xay.copy hTT rfl j (cs:=(sub V.bs f n).map (Value.int .u8)) (by simp [c]) g.cells (by simp [c]; omega) Xm4 ?_;intro F k l D;refine ζa rfl ?_;have p:(V.bs.map (Value.int .u8)).take t++(sub V.bs f n).map (Value.int .u8)++(V.bs.map (Value.int .u8)).drop (t+((sub V.bs f n).map (Value.int .u8)).length)=(wrB V.bs t (sub V.bs f n)).map (Value.int .u8):=by
   unfold wrB; simp [List.map_take,List.map_drop]
  rw [p] at k;have C:=d.laid k l (by rw [Xuu (by rw [c]; exact ht),e1]) (fun x a=>(Xuv a).elim (h.rng x) (fun a=>h.rng x (List.mem_of_mem_drop (List.mem_of_mem_take a))));exact Xay.ret1 hTT rfl Tryz.func259 rfl rfl ⟨rfl,C,e.trans (l.mono fun b _ m => .inl m)⟩
theorem Xut {bs l:List Int} {i j:Nat} (h:i+l.length≤bs.length):(wrB bs i l).getD j 0=if j<i then bs.getD j 0 else if j<i+l.length then l.getD (j - i) 0 else bs.getD j 0:=by
 unfold wrB;simp only [List.getD_eq_getElem?_getD];by_cases a:j<i
 ·rw [if_pos a,List.append_assoc,List.getElem?_append_left (by simp; omega),List.getElem?_take,if_pos a]
 ·rw [if_neg a];by_cases b:j<i+l.length
  ·rw [if_pos b,List.getElem?_append_left (by simp; omega),List.getElem?_append_right (by simp; omega)];simp [show min i bs.length=i from by omega]
  ·rw [if_neg b,List.getElem?_append_right (by simp; omega)];simp only [List.length_append,List.length_take,List.getElem?_drop,show min i bs.length=i from by omega];rw [show i+l.length+(j - (i+l.length))=j from by omega]
theorem XfO {a b:List Int} (hl:a.length=b.length) (h:∀ j,j<a.length→a.getD j 0=b.getD j 0):a=b:=by
 apply List.ext_getElem hl
 intro j c d;have:=h j c
 simpa [List.getD,c,d] using this
theorem XpC {l:List Int} {i j:Nat} {x:Int} (hi:i<l.length):(l.set i x).getD j 0=if j=i then x else l.getD j 0:=by
 simp only [List.getD_eq_getElem?_getD,List.getElem?_set];by_cases h:i=j
 ·subst h; simp [hi]
 ·rw [if_neg h,if_neg (Ne.symm h)]
theorem Xpw:∀ (l:List Value) (i:Nat) (v:Value),i<l.length→Xpo l i [v]=some (l.set i v)
 |x::r,0,v,_=>by simp [Xpo]
 |x::r,i+1,v,h=>by simp [Xpo,Xpw r i v (by simpa using h)]
theorem Xpp {l:List Int} {i:Nat} {x:Int} (hi:i<l.length):Xpo (l.map (Value.int .u8)) i [.int .u8 x]=some ((l.set i x).map (Value.int .u8)):=by
 rw [Xpw _ _ _ (by simpa using hi),List.map_set]
theorem Xuz {z:Int}:IntKind.u8.wrap z=z % 256:=by
 simp only [IntKind.wrap,IntKind.signed,IntKind.bits]
 simp
def XlU (bs:List Int) (i:Nat) (l:List Int) (k:Nat):List Int:=wrB bs i (l.take k)
theorem XlY {bs l:List Int} {i k:Nat} (h:i+l.length≤bs.length) (hk:k<l.length):(XlU bs i l k).set (i+k) (l.getD k 0)=XlU bs i l (k+1):=by
 unfold XlU;have n:(l.take k).length=k:=by simp; omega
 have o:(l.take (k+1)).length=k+1:=by simp; omega
 have c:(wrB bs i (l.take k)).length=bs.length:=Xuu (by omega);have d:(wrB bs i (l.take (k+1))).length=bs.length:=Xuu (by omega);refine XfO (by simp [c,d]) fun j p => ?_;have f:∀ m,m<k→(l.take k).getD m 0=l.getD m 0:=fun m hm=>by simp [List.getD,hm]
 have a:∀ m,m<k+1→(l.take (k+1)).getD m 0=l.getD m 0:=fun m hm=>by simp [List.getD,hm]
 rw [XpC (by omega),Xut (by omega),Xut (by omega),n,o];by_cases e:j=i+k
 ·subst e;rw [if_pos rfl,if_neg (by omega),if_pos (by omega),show i+k - i=k from by omega,a k (by omega)]
 ·rw [if_neg e];by_cases b:j<i
  ·rw [if_pos b,if_pos b]
  ·rw [if_neg b,if_neg b];by_cases g:j<i+k
   ·rw [if_pos g,if_pos (by omega),f _ (by omega),a _ (by omega)]
   ·rw [if_neg g,if_neg (by omega)]
theorem XlZ {bs l:List Int} {i:Nat}:XlU bs i l 0=bs:=by unfold XlU; simp [Xuw]
theorem XlV {bs l:List Int} {i:Nat}:XlU bs i l l.length=wrB bs i l:=by unfold XlU; rw [List.take_length]
theorem XlX {bs l:List Int} {i k:Nat} (h:i+l.length≤bs.length):(XlU bs i l k).length=bs.length:=Xuu (by simp; omega)
theorem XlW {bs l:List Int} {i k:Nat} (h:InB bs) (h':InB l):InB (XlU bs i l k):=fun x a=>(Xuv a).elim (h x) (fun a=>h' x (List.mem_of_mem_take a))
theorem Xlq {c:Int} (h:0≤c∧c<256):Xdh .or .u8 0 c=c:=by
 obtain ⟨c,rfl⟩:=Int.eq_ofNat_of_zero_le h.1;have a:(BitVec.ofInt 8 (0:Int) ||| BitVec.ofInt 8 (c:Int)).toNat=c:=by
  rw [BitVec.toNat_or,BitVec.toNat_ofInt,BitVec.toNat_ofInt];rw [show ((c:Int) % ((2 ^ 8:Nat):Int)).toNat=c from by omega]
  simp
 change IntKind.u8.wrap ((BitVec.ofInt 8 (0:Int) ||| BitVec.ofInt 8 (c:Int)).toNat:Int)=_
 rw [a,Xuz];omega
theorem Xfj {w:World} {A:Ar} {V:ArV} {j:Nat} (h:Xag w A V) (hj:j<V.bs.length):w.cell? ⟨A.db,j,none⟩=some (.int .u8 (V.bs.getD j 0)):=by
 rw [Xd6 h.dat]; simp [hj]
theorem Xcz (A:Ar) (V:ArV) (i n:Nat) (c:Int) (w:World) (h:Xag w A V) (ht:i+n≤V.bs.length) (hc:0≤c∧c<256) :
 Xan Tryz.prog 200 #[.pointer (some ⟨A.ab,0,none⟩),.int .i64 i,.int .i64 n,.int .u8 c] w (fun v w'=>v = .int .i64 0∧Xag w' A {V.charge A n with bs:=wrB V.bs i (List.replicate n c)}∧Chg (Xgg A) w w'):=by
 have U:=h.len;refine Xan.enter Tryz.func200 rfl Tryz.ntmps200 rfl rfl ?_;refine ζa rfl ?_;refine ζc rfl (XcF A V i n w h ht) ?_;rintro _ W ⟨x,rfl,a,_,C,hs⟩;refine ζa rfl ?_;have p:Chg (Xgg A) w W:=hs.mono fun b _ f => .inr f;have e1:=V.charge_bs A n;by_cases J:n=0
 ·refine Xay.clear0 hTT rfl J rfl ?_;refine Xay.unroll hTT rfl ?_;refine Xay.no hTT rfl (decide_eq_false (by omega)) rfl ?_;subst J;exact Xay.ret1 hTT rfl Tryz.func200 rfl rfl ⟨rfl,by rw [List.replicate_zero,Xuw,← V.charge_bs A 0]; exact C,p⟩
 ·have K:=a (by omega);subst K;have q:=C.dat;rw [e1] at q;have L:(List.replicate n (0:Int)).length=n:=List.length_replicate;have M:(List.replicate n c).length=n:=List.length_replicate;refine Xay.clear hTT rfl q rfl rfl (by omega) (by simp; omega) ?_;intro w2 r s a6;refine ζa rfl ?_;have D:(V.bs.map (Value.int .u8)).take i++List.replicate n (Value.int .u8 0)++(V.bs.map (Value.int .u8)).drop (i+n)=(wrB V.bs i (List.replicate n 0)).map (Value.int .u8):=by
   unfold wrB; simp [List.map_take,List.map_drop]
  rw [D] at r;have t:InB (List.replicate n (0:Int)):=fun x a=>by rw [List.eq_of_mem_replicate a]; omega
  have N:InB (List.replicate n c):=fun x a=>by rw [List.eq_of_mem_replicate a]; exact hc
  have O:=C.laid r s (by rw [Xuu (by omega),e1]) (fun x a=>(Xuv a).elim (h.rng x) (t x));have E:Chg (Xgg A) w w2:=p.trans (s.mono fun b _ f => .inl f);obtain ⟨d,e⟩:∃ d,d=wrB V.bs i (List.replicate n 0):=⟨_,rfl⟩;rw [← e] at O;have g:d.length=V.bs.length:=by rw [e,Xuu (by omega)]
  have F:InB d:=fun x a=>by rw [e] at a; exact (Xuv a).elim (h.rng x) (t x)
  refine Xay.loop (α:=Nat) (fun k => [(3,false,.int .u8 c),(9,false,.slice (some ⟨A.db,i,none⟩) n (V.bs.length - i)),(10,false,.int .i64 0),(21,false,.int .i64 n),(22,false,.int .i64 k)])
   (fun k w'=>Xag w' A {V.charge A n with bs:=XlU d i (List.replicate n c) k}∧Chg (Xgg A) w w'∧k≤n) (fun k=>n - k) 0 ⟨rfl,rfl,rfl,rfl,rfl,trivial⟩ ⟨by rw [XlZ]; exact O,E,by omega⟩ ?_
  rintro k w3 ⟨m,u,hk⟩ ih;refine ζa rfl ?_;refine Xay.fork hTT rfl rfl rfl (fun G => ?_) (fun G => ?_)
  ·have y:k<n:=by have:=of_decide_eq_true G; omega
   have z:(XlU d i (List.replicate n c) k).length=V.bs.length:=by rw [XlX (by omega),g]
   have P:(XlU d i (List.replicate n c) k).getD (i+k) 0=0:=by
    unfold XlU;rw [Xut (by simp; omega),if_neg (by omega),if_neg (by simp; omega),e,Xut (by omega),if_neg (by omega),if_pos (by omega)];simp [List.getD,y]
   have o:w3.cell? ⟨A.db,i+k,none⟩=some (.int .u8 0):=by rw [← P]; exact Xfj (j:=i+k) m (by simp only [z]; omega)
   refine Xay.index hTT rfl (j:=k) (by omega) (by omega) (by first | rfl | omega | (simp; done) | (simp; omega)) rfl ?_;refine ζk rfl o rfl ?_;refine Xay.bits hTT rfl (Xlq hc) rfl ?_;refine Xay.index hTT rfl (j:=k) (by omega) (by omega) (by first | rfl | omega | (simp; done) | (simp; omega)) rfl ?_;refine Xay.store hTT rfl m.dat (Xpp (by simp only [z]; omega)) rfl ?_;intro w4 Q B a7;refine ζa rfl ?_;have H:w4.heap[A.db]? = some (.cells ((XlU d i (List.replicate n c) (k+1)).map (Value.int .u8)).toArray 5 (0,0)):=by
    rw [← XlY (l:=List.replicate n c) (i:=i) (bs:=d) (k:=k) (by omega) (by omega),show (List.replicate n c).getD k 0=c from by simp [List.getD,y]]; exact Q
   have h4:=m.laid H B (by simp only; rw [XlX (by omega),XlX (by omega)]) (XlW F N);refine Xay.arith hTT rfl (w64 (by omega)) rfl ?_;exact ih (k+1) _ _ ⟨h4,u.trans (B.mono fun b _ f => .inl f),by omega⟩ (by omega) ⟨rfl,rfl,rfl,rfl,rfl,trivial⟩
  ·have R:k=n:=by have:=of_decide_eq_false G; omega
   subst R;have I:XlU d i (List.replicate k c) k=wrB V.bs i (List.replicate k c):=by
    refine XfO (by rw [XlX (by omega),Xuu (by omega),g]) fun j hj => ?_;have a8:=hj;unfold XlU;rw [show (List.replicate k c).take k=List.replicate k c from by simp,Xut (by omega),Xut (by omega),e,Xut (by omega)];by_cases S:j<i
    ·simp only [if_pos S]
    ·simp only [if_neg S,M,L];by_cases T:j<i+k
     ·simp only [if_pos T]
     ·simp only [if_neg T]
   rw [I] at m;exact Xay.ret1 hTT rfl Tryz.func200 rfl rfl ⟨rfl,m,u⟩
theorem Xl6 {c:Conf} {q:Plc} {at' n:Nat} (hm:XjY c=true) (hck:Xeq c q at' n=0) (hfew:q.pages.length≤4096) :
 ∀ p ∈ Xl4 c q at' n,∃ i m:Nat,p=((i:Int),(m:Int))∧((i+m:Nat):Int)≤c.size*c.pages:=by
 obtain ⟨C,D,E⟩:=Xj0 hm;have d:XtL c q=true:=by
  cases d:XtL c q with
  |true=>rfl
  |false=>unfold Xeq at hck; rw [if_pos d] at hck; cases hck
 have v:¬ ((at':Int)<0∨(n:Int)<0∨XtI c q<n∨XtI c q - n<at'):=fun h=>by
  unfold Xeq at hck; rw [if_neg (by rw [d]; decide),if_pos h] at hck; cases hck
 intro p e;unfold Xl4 at e;split at e
 ·rename_i b
  obtain ⟨s,o,rfl⟩:=List.mem_map.1 e;obtain ⟨w,f⟩:=Xif d b;have r:XtI c q=(q.pages.length:Int)*c.size:=by unfold XtI; rw [if_pos d,if_pos b]
  obtain ⟨sz,j⟩:=Int.eq_ofNat_of_zero_le (show 0≤c.size by omega);rw [show c.size.toNat=sz from by omega] at o;obtain ⟨F,G,H,I⟩:=Xrc (page:=sz) (by omega) n at' s o;have k:s.1<q.pages.length:=by
   have x:(s.1*sz:Nat)<q.pages.length*sz:=by
    have:((q.pages.length*sz:Nat):Int)=(q.pages.length:Int)*c.size:=by rw [j]; rfl
    omega
   exact Nat.lt_of_mul_lt_mul_right x
  have t:=f _ (show q.pages.getD s.1 0 ∈ q.pages by rw [List.getD_eq_getElem?_getD,List.getElem?_eq_getElem k]; exact List.getElem_mem k);obtain ⟨g,y⟩:=Int.eq_ofNat_of_zero_le t.1;refine ⟨g*sz+s.2.1,s.2.2,?_,?_⟩
  ·rw [y,j]; rfl
  ·have e2:(g:Int)*c.size+c.size≤c.size*c.pages:=by
    have:((g:Int)+1)*c.size≤c.pages*c.size:=Int.mul_le_mul_of_nonneg_right (by omega) (by omega);rw [Int.add_mul,Int.one_mul,Int.mul_comm c.pages] at this;exact this
   have e3:((g*sz:Nat):Int)=(g:Int)*c.size:=by rw [j]; rfl
   omega
 ·rename_i b
  simp at e;subst e;obtain ⟨kk,pg,ix,l,f,u,A,J,K,L,M,N,O,P⟩:=Xig hm d b;have B:XtH c q=(pg:Int)*c.size+(ix:Int)*XeV c kk:=by unfold XtH; rw [if_pos ⟨d,b⟩,l,f,u]
  have r:XtI c q=XeV c kk:=by unfold XtI; rw [if_pos d,if_neg b,l]
  obtain ⟨a,z⟩:=Int.eq_ofNat_of_zero_le (show 0≤XtH c q by omega);exact ⟨a+at',n,by rw [z]; rfl,by omega⟩
def vsT (q:Plc) (A:Ar) (V:ArV) (ps:List (Int × Int)):Nat→ArV
 |0=>V
 |k+1=>(Xev q A (vsT q A V ps k)).charge A (ps.getD k (0,0)).2
theorem Xew (q:Plc) (A:Ar) (V:ArV):(Xev q A V).bs=V.bs:=by unfold Xev; split; exact V.charge_bs A 1; rfl
theorem Xt3 (q:Plc) (A:Ar) (V:ArV) (ps:List (Int × Int)):∀ k,(vsT q A V ps k).bs=V.bs
 |0=>rfl
 |k+1=>by unfold vsT; rw [ArV.charge_bs,Xew,Xt3 q A V ps k]
def XnJ (bs:List Int) (ps:List (Int × Int)):List Int:=ps.flatMap fun p=>sub bs p.1.toNat p.2.toNat
theorem XtR (v:Vw) (vb ob:Nat) (A:Ar) (V:ArV) (i m base j:Nat) (u:Value) (xs:List Int) (w:World) (hvb:Xns w vb v) (hv:w.heap[v.vb]? = some (.cells (vwL v).toArray 211 (0,0))) (hab:v.ab=A.ab)
 (hob:w.heap[ob]? = some (.cells ([u]:List Value).toArray 32 (0,0))) (hown:Own base 5 1 w u j (xs.map (Value.int .u8))) (hbase:base≤w.heap.size) (hobb:ob<base) (hA:Xag w A V) (him:i+m≤V.bs.length) (hj:j+m≤16777216)
 (hmo:∀ z,XjO A z→z≠ob∧z<base) (hArow:∀ b,b=A.ab∨b=A.db∨b=A.mc∨A.mb=some b→some b=u.ownBlock→False) (hAob:∀ b,b=A.ab∨b=A.db∨b=A.mc∨A.mb=some b→b=ob→False) :
 Xan Tryz.prog 193 #[.int .i64 i,.int .i64 m,.pointer (some ⟨vb,0,none⟩),.pointer (some ⟨ob,0,none⟩)] w (fun _ w'=>Xag w' A (V.charge A m)∧Chg (fun z=>z=ob∨some z=u.ownBlock∨XjO A z) w w' ∧
  ∃ u',w'.heap[ob]? = some (.cells ([u']:List Value).toArray 32 (0,0))∧Own base 5 1 w' u' (j+m) ((xs++sub V.bs i m).map (Value.int .u8)) ∧ ∀ z,some z=u'.ownBlock→some z=u.ownBlock∨w.heap.size≤z):=by
 have R:maxLen=9223372036854775807:=rfl;refine ζe Tryz.func193 Tryz.ntmps193 rfl (ζl hvb rfl (ζl hv rfl ?_));rw [hab];refine ζc rfl (XcC A V i m w hA him) ?_;rintro _ M ⟨T,rfl,⟨g,cap,cur,rfl,U,J,K,D⟩,E,f⟩;refine ζa rfl ?_;have s:=Xst him;have n:=f.heap hob (fun e=>(hmo _ e).1 rfl);have t:=hown.chg f (fun b a e=>by have:=(World.ownsRow.lt hown b a.symm).1; have:=(hmo _ e).2; omega);rw [s] at K D ⊢;have N:=f.size;refine ζl n rfl ?_;have C:∀ k x,((sub V.bs i m).map (Value.int .u8))[k]? = some x→M.cell? ((⟨g,0,none⟩:Addr).add k)=some x:=fun k x G=>by
  rw [XbQ,Xd6 J];have O:k<m:=by have:=(List.getElem?_eq_some_iff.1 G).1; simpa [s] using this
  rw [← D,List.getElem?_take,if_pos O] at G
  simpa using G
 refine Xay.append (base:=base) (news:=(sub V.bs i m).map (Value.int .u8)) hTT rfl t (by omega) (by simp [s]) C Xm4 (by simp only; omega) ?_;intro W w2 l d F;rcases l.2 with ⟨o,S⟩ | ⟨g2,P,Q,o,_⟩
 ·subst o;refine ζa rfl ?_;have p:=d.heap n (fun e=>by have:=(World.ownsRow.lt t _ e.symm).1; omega);refine ζs p rfl fun H q c L => ?_;have y:=l.chg c (fun b a e=>by have:=(World.ownsRow.lt l b a.symm).1; omega);have B:=(E.chg d (fun b a e=>hArow b a e)).chg c (fun b a e=>hAob b a e);have I:Chg (fun z=>z=ob∨some z=u.ownBlock∨XjO A z) w H:=((f.mono fun z _ h => .inr (.inr h)).trans (d.mono fun z _ h => .inr (.inl h))).trans (c.mono fun z _ h => .inl h);exact ζr Tryz.func193 rfl ⟨B,I,_,q,by rw [List.map_append]; exact y,fun z r=>by rcases F.2 with h | h; exact .inl (r.trans h); exact .inr (by rw [h] at r; cases r; omega)⟩
 ·subst o;refine ζa rfl ?_;have p:=d.heap n (fun e=>by have:=(World.ownsRow.lt t _ e.symm).1; omega);refine ζs p rfl fun H q c L => ?_;have y:=l.chg c (fun b a e=>by have:=(World.ownsRow.lt l b a.symm).1; omega);have B:=(E.chg d (fun b a e=>hArow b a e)).chg c (fun b a e=>hAob b a e);have I:Chg (fun z=>z=ob∨some z=u.ownBlock∨XjO A z) w H:=((f.mono fun z _ h => .inr (.inr h)).trans (d.mono fun z _ h => .inr (.inl h))).trans (c.mono fun z _ h => .inl h);exact ζr Tryz.func193 rfl ⟨B,I,_,q,by rw [List.map_append]; exact y,fun z r=>by rcases F.2 with h | h; exact .inl (r.trans h); exact .inr (by rw [h] at r; cases r; omega)⟩
theorem Xrj {page:Nat} (hp:1≤page):∀ (n at':Nat),((Xrf at' n page).map fun s=>s.2.2).sum=n:=by
 intro n
 induction n using Nat.strongRecOn with
 |_ n ih =>
  intro at';by_cases a:n=0
  ·subst a; rfl
  ·have b:=Xg7 (at':=at') hp (show 0<n by omega);rw [Xrg hp (by omega),List.map_cons,List.sum_cons,ih _ (by omega)];unfold Xg6;simp only
   omega
def Xtm (ps:List (Int × Int)):Nat:=(ps.map fun p=>p.2.toNat).sum
theorem Xto (p:Int × Int) (ps:List (Int × Int)):Xtm (p::ps)=p.2.toNat+Xtm ps:=by simp [Xtm]
theorem Xtn (a b:List (Int × Int)):Xtm (a++b)=Xtm a+Xtm b:=by simp [Xtm]
theorem Xl8 {c:Conf} {q:Plc} {at' n:Nat} (hm:XjY c=true):Xtm (Xl4 c q at' n)=n:=by
 obtain ⟨a,b,d⟩:=Xj0 hm;unfold Xl4;split
 ·unfold Xtm;rw [List.map_map];have:=Xrj (page:=c.size.toNat) (by omega) n at';exact this
 ·simp [Xtm]
theorem Xtq {ps:List (Int × Int)} {k:Nat} (h:k<ps.length):Xtm (ps.take k)+ps[k].2.toNat≤Xtm ps:=by
 have e:ps=ps.take k++ps[k]::ps.drop (k+1):=by rw [← List.drop_eq_getElem_cons h,List.take_append_drop]
 have e2:Xtm ps=Xtm (ps.take k)+(ps[k].2.toNat+Xtm (ps.drop (k+1))):=by
  conv=>lhs; rw [e]
  rw [Xtn,Xto]
 omega
theorem XnK {bs:List Int} {N:Nat} (hN:bs.length=N):∀ {ps:List (Int × Int)},(∀ p ∈ ps,∃ i m:Nat,p=((i:Int),(m:Int))∧i+m≤N)→(XnJ bs ps).length=Xtm ps
 |[],_=>rfl
 |p::r,h=>by
  obtain ⟨i,m,rfl,b⟩:=h p List.mem_cons_self;rw [Xto];unfold XnJ;rw [List.flatMap_cons,List.length_append];have:=XnK hN (ps:=r) (fun p a=>h p (List.mem_cons_of_mem _ a));unfold XnJ at this;rw [this];simp only [Int.toNat_natCast];rw [Xst (by omega)]
theorem Xt5 {q:Plc} {A:Ar} {V:ArV} {ps:List (Int × Int)} {k:Nat} (h:k<ps.length):vsT q A V ps (k+1)=(Xev q A (vsT q A V ps k)).charge A ps[k].2:=by
 show (Xev q A (vsT q A V ps k)).charge A (ps.getD k (0,0)).2=_
 rw [List.getD_eq_getElem?_getD,List.getElem?_eq_getElem h]; rfl
theorem XtQ (v:Vw) (q:Plc) (at' n:Nat) (A:Ar) (V:ArV) (w:World) (hv:XbN w v) (hq:Xa4 w q) (hmb:v.mb=A.mb) (hab:v.ab=A.ab) (hck:Xeq v.c q at' n=0) (hfew:q.pages.length≤4096)
 (hPv:¬ XjO A v.vb) (hPq:0<q.pages.length→XaX (XjO A) q.pa) (hPc:0<v.c.classes.length→XaX (XjO A) v.p.ca) (hPk:0<v.c.keep.length→XaX (XjO A) v.p.ka) (hA:Xag w A V) (hlen:(V.bs.length:Int)=v.c.size*v.c.pages) :
 Xan Tryz.prog 126 #[vwV v,.agg (Xm9 q).toArray,.int .i64 at',.int .i64 n] w (fun u w' => ∃ u1,u = .tuple #[u1,.int .i64 0]∧Xag w' A (vsT q A V (Xl4 v.c q at' n) (Xl4 v.c q at' n).length)∧Chg (XjO A) w w' ∧
  Own w.heap.size 5 1 w' u1 (XnJ V.bs (Xl4 v.c q at' n)).length ((XnJ V.bs (Xl4 v.c q at' n)).map (Value.int .u8))):=by
 obtain ⟨ps,l⟩:∃ ps,ps=Xl4 v.c q at' n:=⟨_,rfl⟩;have E:∀ p ∈ ps,∃ i m:Nat,p=((i:Int),(m:Int))∧i+m≤V.bs.length:=fun p r=>by
  obtain ⟨i,m,o,d⟩:=Xl6 hv.may hck hfew p (l▸r);exact ⟨i,m,o,by omega⟩
 have af:Xtm ps=n:=by rw [l]; exact Xl8 hv.may
 have ak:=XtJ (c:=v.c) (q:=q) hv.may hfew;have hn:n≤16777216:=by
  unfold Xeq at hck;split at hck
  ·cases hck
  ·split at hck
   ·cases hck
   ·omega
 rw [← l];refine Xan.enter Tryz.func126 rfl Tryz.ntmps126 rfl rfl ?_;refine ζa rfl ?_;refine Xay.alloc hTT rfl ?_;intro vb w1 e1 W a0 al;refine ζa rfl ?_;refine Xay.alloc hTT rfl ?_;intro qb w2 e2 F N am;refine ζa rfl ?_;refine Xay.alloc hTT rfl ?_;intro ob s e3 a6 G an;refine ζa rfl ?_;replace F:Xm8 w2 qb q:=F;have H:=(a0.trans N).trans G;have I:Xns s vb v:=(N.trans G).heap' W;refine Xay.loadb hTT rfl I rfl rfl ?_;refine Xay.loads hTT rfl (G.heap' F) rfl rfl ?_;have f:=hA.mlt;have ao:=XjD hv.obj;have hE:=XtW v q at' n 193 [.pointer (some ⟨vb,0,none⟩),.pointer (some ⟨ob,0,none⟩)] A (vsT q A V ps)
  (fun k Y x => ∃ u,x.heap[ob]? = some (.cells ([u]:List Value).toArray 32 (0,0))∧Own s.heap.size 5 1 x u (XnJ V.bs (ps.take k)).length ((XnJ V.bs (ps.take k)).map (Value.int .u8)) ∧
   (∀ z,Y z↔z=ob∨some z=u.ownBlock∨XjO A z)∧Xns x vb v∧x.heap[v.vb]? = some (.cells (vwL v).toArray 211 (0,0))∧s.heap.size≤x.heap.size)
  (fun z=>z=ob∨XjO A z) s (hv.grow H) (hq.grow H) hmb hck hfew
  (by rintro ((h | h) | h); omega; exact hPv h; exact hPv h)
  (hq.rd.outNew hPq (fun z a=>by rcases a with (h | h) | h; exact .inr (by omega); exact .inl h; exact .inl h))
  (hv.conf.classes.outNew hPc (fun z a=>by rcases a with (h | h) | h; exact .inr (by omega); exact .inl h; exact .inl h))
  (hv.conf.keep.outNew hPk (fun z a=>by rcases a with (h | h) | h; exact .inr (by omega); exact .inl h; exact .inl h))
  (by
   rintro k Y x ⟨u,o,d,j,t,B,C⟩ z a;rcases (j z).1 a with rfl | h | h
   ·exact XjD o
   ·exact (World.ownsRow.lt d z h.symm).2
   ·have:=f z h; omega)
  (by
   rintro k Y x y S ⟨u,o,d,j,t,B,C⟩ J hS;have no:∀ z,z<s.heap.size → ¬ XjO A z → ¬ S z:=fun z a hm h=>(hS z h).elim hm (fun h=>by omega);exact ⟨u,J.heap o (no _ (by omega) (fun h=>by have:=f _ h; omega)),d.chg J (fun b D h=>by
    have ap:=World.ownsRow.lt d b D.symm;rcases hS b h with hm | hm
    ·have:=f b hm; omega
    ·exact hm.1 ((j b).2 (.inr (.inl D)))),j,J.heap t (no _ (by omega) (fun h=>by have:=f _ h; omega)),J.heap B (no _ (by omega) hPv),Nat.le_trans C J.size⟩)
  (by
   rintro k Y x K a9 ⟨u,o,d,j,t,B,C⟩;rw [← l] at K;obtain ⟨i,m,r,O⟩:=E ps[k] (List.getElem_mem K);have P:(Xev q A (vsT q A V ps k)).bs=V.bs:=by rw [Xew,Xt3]
   have aq:(XnJ V.bs (ps.take k)).length=Xtm (ps.take k):=XnK rfl (fun p r=>E p (List.mem_of_mem_take r));have Q:=Xtq K;rw [r] at Q;simp only [Int.toNat_natCast] at Q;have R:∀ b,b=A.ab∨b=A.db∨b=A.mc∨A.mb=some b→b<w.heap.size:=hA.blt;have hR:=XtR v vb ob A (Xev q A (vsT q A V ps k)) i m s.heap.size (XnJ V.bs (ps.take k)).length u (XnJ V.bs (ps.take k)) x t B hab o d C (by omega) a9 (by rw [P]; exact O) (by omega)
    (fun z a=>by have:=f z a; omega) (fun b D e=>by have:=R b D; have:=(World.ownsRow.lt d b e.symm).1; omega) (fun b D e=>by have:=R b D; omega)
   simp only [← l];rw [r];refine hR.mono fun _ y ⟨T,L,u',U,a4,a5⟩ => ?_;rw [P] at a4;have M:XnJ V.bs (ps.take (k+1))=XnJ V.bs (ps.take k)++sub V.bs i m:=by
    rw [List.take_add_one,List.getElem?_eq_getElem K,r];unfold XnJ;rw [List.flatMap_append]
    simp
   refine ⟨by rw [Xt5 K,r]; exact T,L.mono fun z _ a=>(j z).2 a,fun z=>z=ob∨some z=u'.ownBlock∨XjO A z,⟨u',U,?_,fun z=>Iff.rfl,?_,?_,Nat.le_trans C L.size⟩,fun z a => ?_⟩
   ·rw [M,List.length_append,Xst O];exact a4
   ·exact L.heap t (fun h=>by rcases h with h | h | h; omega; have:=(World.ownsRow.lt d _ h.symm).1; omega; have:=f _ h; omega)
   ·exact L.heap B (fun h=>by rcases h with h | h | h; omega; have:=(World.ownsRow.lt d _ h.symm).1; omega; exact hPv h)
   ·rcases a with h | h | h
    ·exact .inl ((j z).2 (.inl h))
    ·rcases a5 z h with h | h
     ·exact .inl ((j z).2 (.inr (.inl h)))
     ·exact .inr h
    ·exact .inl ((j z).2 (.inr (.inr h))))
  (hA.grow H) ⟨.slice none 0 0,a6,World.ownsRow_nil _ _ _ _,fun z=>⟨fun h=>h.elim .inl (fun h => .inr (.inr h)),fun h=>by rcases h with h | h | h; exact .inl h; cases h; exact .inr h⟩,I,H.heap' hv.obj,Nat.le_refl _⟩
 rw [← l] at hE;refine ζc rfl (hE) ?_;rintro _ w4 ⟨rfl,ac,⟨Y',⟨u,o,d,j,t,B,C⟩,ar⟩,ad⟩;refine ζa rfl ?_;rw [List.take_length] at d;have ae:Chg (XjO A) w w4:=(H.mono fun _ _ h=>h.elim).since ad (fun z a h=>by rcases h with (h | h) | h; omega; exact h; exact h);have ho:Own w.heap.size 5 1 w4 u (XnJ V.bs ps).length ((XnJ V.bs ps).map (Value.int .u8)):=by
  refine ⟨d.1,?_⟩;rcases d.2 with h | ⟨g,cap,cur,T,L,U⟩
  ·exact .inl h
  ·exact .inr ⟨g,cap,cur,T,by omega,U⟩
 refine Xay.loadb hTT rfl o rfl rfl ?_;exact Xay.ret2 hTT rfl Tryz.func126 rfl rfl rfl ⟨u,rfl,ac,ae,ho⟩
def vsW (q:Plc) (A:Ar) (V:ArV) (ps:List (Int × Int)) (l:List Int):Nat→ArV
 |0=>V
 |k+1=>{(Xev q A (vsW q A V ps l k)).charge A (ps.getD k (0,0)).2 with bs:=wrB (vsW q A V ps l k).bs (ps.getD k (0,0)).1.toNat (sub l (Xtm (ps.take k)) (ps.getD k (0,0)).2.toNat)}
theorem Xt8 {q:Plc} {A:Ar} {V:ArV} {ps:List (Int × Int)} {l:List Int} {k i m:Nat} (h:k<ps.length) (hp:ps[k]=((i:Int),(m:Int))) :
 vsW q A V ps l (k+1)={(Xev q A (vsW q A V ps l k)).charge A m with bs:=wrB (vsW q A V ps l k).bs i (sub l (Xtm (ps.take k)) m)}:=by
 have a:ps.getD k (0,0)=((i:Int),(m:Int)):=by rw [List.getD_eq_getElem?_getD,List.getElem?_eq_getElem h,hp]; rfl
 show ({(Xev q A (vsW q A V ps l k)).charge A (ps.getD k (0,0)).2 with bs:=wrB (vsW q A V ps l k).bs (ps.getD k (0,0)).1.toNat (sub l (Xtm (ps.take k)) (ps.getD k (0,0)).2.toNat)}:ArV)=_
 rw [a];rfl
theorem Xt7 {q:Plc} {A:Ar} {V:ArV} {ps:List (Int × Int)} {l:List Int} (hpin:∀ p ∈ ps,∃ i m:Nat,p=((i:Int),(m:Int))∧i+m≤V.bs.length) (htot:Xtm ps=l.length):∀ {k:Nat},k≤ps.length→(vsW q A V ps l k).bs.length=V.bs.length
 |0,_=>rfl
 |k+1,h=>by
  obtain ⟨i,m,b,c⟩:=hpin ps[k] (List.getElem_mem h);have ih:=Xt7 (q:=q) (A:=A) hpin htot (k:=k) (by omega);have a:=Xtq h;rw [b] at a;simp only [Int.toNat_natCast] at a;rw [Xt8 h b];show (wrB _ _ _).length=_
  rw [Xuu (by rw [Xst (by omega),ih]; exact c),ih]
theorem Xqp {S:Nat→Prop} {a:Option Addr} {cap l sz:Nat} (h:XaX S a):XaX S (Xqm a cap l sz):=by
 intro b off s e;unfold Xqm at e;by_cases c:cap=l
 ·rw [if_pos c] at e; exact h b off s e
 ·rw [if_neg c] at e;cases a with
  |none=>cases e
  |some x =>
   obtain ⟨xb,xo,xs⟩:=x;have d:=h xb xo xs rfl;simp only [Option.map_some,Option.some.injEq] at e;unfold Addr.add at e;have f:xb=b:=by
    split at e <;> (cases e; rfl)
   rw [← f]; exact d
theorem XtT (v:Vw) (vb bb:Nat) (A:Ar) (V:ArV) (i m:Nat) (a:Option Addr) (cap:Nat) (l:List Int) (w:World) (hvb:Xns w vb v) (hv:w.heap[v.vb]? = some (.cells (vwL v).toArray 211 (0,0))) (hab:v.ab=A.ab)
 (hbb:w.heap[bb]? = some (.cells ([.slice a l.length cap]:List Value).toArray 32 (0,0))) (hr:Rd .u8 w a l) (hlc:l.length≤cap) (hin:InB l) (hm:m≤l.length) (hA:Xag w A V) (him:i+m≤V.bs.length)
 (hfo:∀ z,Xgg A z→z≠bb) (hAb:∀ b,b=A.ab∨b=A.db∨b=A.mc∨A.mb=some b→b≠bb) (S:Nat→Prop) (hS:∀ z,z=bb∨Xgg A z→S z) (hout:0<l.length→XaX S a) :
 Xan Tryz.prog 195 #[.int .i64 i,.int .i64 m,.pointer (some ⟨vb,0,none⟩),.pointer (some ⟨bb,0,none⟩)] w (fun _ w'=>Xag w' A {V.charge A m with bs:=wrB V.bs i (l.take m)}∧Chg (fun z=>z=bb∨Xgg A z) w w' ∧
  ∃ a' cap',w'.heap[bb]? = some (.cells ([.slice a' (l.drop m).length cap']:List Value).toArray 32 (0,0))∧Rd .u8 w' a' (l.drop m)∧(l.drop m).length≤cap'∧(0<(l.drop m).length→XaX S a')):=by
 have j:(l.take m).length=m:=by simp; omega
 refine Xan.enter Tryz.func195 rfl Tryz.ntmps195 rfl rfl ?_;refine ζa rfl ?_;refine Xay.drawn (q:=8) XaW hTT Xki (by kernel_rfl) rfl ?_;intro d;refine Xaq.loadb hTT d rfl hvb (by first | exact fun h=>h | (intro h; omega) | assumption) rfl rfl ?_;refine Xaq.loadb hTT d rfl hv (by first | exact fun h=>h | (intro h; omega) | assumption) rfl rfl ?_;refine Xaq.loadb hTT d rfl hbb (by first | exact fun h=>h | (intro h; omega) | assumption) rfl rfl ?_;refine Xaq.slice hTT d rfl (l:=0) (h:=m) (by first | rfl | omega | simp [loV]) (by first | rfl | omega | simp [hiV]) (by omega) (by omega) rfl ?_;refine Xaq.nil d ?_;intro D c;refine ζa rfl ?_;rw [hab];have s:=hr.chg c;have k:=s.shift (l:=0) (m:=m) (by omega) hlc;rw [List.drop_zero] at k;have t:=XcD A V i (Xqm a cap 0 1) (cap - 0) (l.take m) D (hA.grow c) k (fun x E=>hin x (List.mem_of_mem_take E)) (by rw [j]; exact him);rw [j] at t;refine ζc rfl t ?_;rintro _ H ⟨rfl,u,n⟩;refine ζa rfl ?_;have f:=n.heap (c.heap' hbb) (fun e=>hfo _ e rfl);refine Xay.loadb hTT rfl f rfl rfl ?_;refine Xay.slice hTT rfl (l:=m) (h:=l.length) (by first | rfl | omega | simp [loV]) (by first | rfl | omega | simp [hiV]) (by omega) (by omega) rfl ?_;refine Xay.store hTT rfl f rfl rfl ?_;intro y r o G;refine ζa rfl ?_;have g:(l.drop m).length=l.length - m:=by simp
 have B:Chg (fun z=>z=bb∨Xgg A z) w y:=((c.mono fun _ _ h=>h.elim).trans (n.mono fun _ _ h => .inr h)).trans (o.mono fun _ _ h => .inl h);have C:Rd .u8 y a l:=hr.far' hout (B.mono fun z _ h=>hS z h);have p:=C.shift (l:=m) (m:=l.length - m) (by omega) hlc;rw [List.take_of_length_le (by rw [g]; exact Nat.le_refl _)] at p;exact Xay.ret0 hTT rfl Tryz.func195 rfl ⟨u.chg o (fun b F e=>hAb b F e),B,_,_,by rw [g]; exact r,p,by rw [g]; omega,fun h=>Xqp (hout (by omega))⟩
theorem foot_lt {w:World} {A:Ar} {V:ArV} (h:Xag w A V):∀ z,Xgg A z→z<w.heap.size:=fun z a=>h.blt z (a.elim (fun e => .inr (.inl e)) (fun e => .inr (.inr (.inr e))))
theorem XtS (v:Vw) (q:Plc) (at':Nat) (a:Option Addr) (cap:Nat) (l:List Int) (A:Ar) (V:ArV) (w:World) (hv:XbN w v) (hq:Xa4 w q) (hmb:v.mb=A.mb) (hab:v.ab=A.ab) (hck:Xeq v.c q at' l.length=0) (hfew:q.pages.length≤4096)
 (hPv:¬ Xgg A v.vb) (hPq:0<q.pages.length→XaX (Xgg A) q.pa) (hPc:0<v.c.classes.length→XaX (Xgg A) v.p.ca) (hPk:0<v.c.keep.length→XaX (Xgg A) v.p.ka) (hA:Xag w A V) (hlen:(V.bs.length:Int)=v.c.size*v.c.pages)
 (hr:Rd .u8 w a l) (hlc:l.length≤cap) (hin:InB l) (hout:0<l.length→XaX (Xgg A) a) :
 Xan Tryz.prog 128 #[vwV v,.agg (Xm9 q).toArray,.int .i64 at',.slice a l.length cap] w (fun u w'=>u = .int .i64 0∧Xag w' A (vsW q A V (Xl4 v.c q at' l.length) l (Xl4 v.c q at' l.length).length)∧Chg (Xgg A) w w'):=by
 obtain ⟨ps,g⟩:∃ ps,ps=Xl4 v.c q at' l.length:=⟨_,rfl⟩;have C:∀ p ∈ ps,∃ i m:Nat,p=((i:Int),(m:Int))∧i+m≤V.bs.length:=fun p t=>by
  obtain ⟨i,m,n,D⟩:=Xl6 hv.may hck hfew p (g▸t);exact ⟨i,m,n,by omega⟩
 have T:Xtm ps=l.length:=by rw [g]; exact Xl8 hv.may
 rw [← g];refine Xan.enter Tryz.func128 rfl Tryz.ntmps128 rfl rfl ?_;refine ζa rfl ?_;refine Xay.alloc hTT rfl ?_;intro vb w1 e1 a4 a5 ar;refine ζa rfl ?_;refine Xay.alloc hTT rfl ?_;intro qb w2 e2 E P au;refine ζa rfl ?_;refine Xay.alloc hTT rfl ?_;intro bb j e3 r F av;refine ζa rfl ?_;replace E:Xm8 w2 qb q:=E;replace r:j.heap[bb]? = some (.cells ([.slice a l.length cap]:List Value).toArray 32 (0,0)):=r;have o:=(a5.trans P).trans F;have G:Xns j vb v:=(P.trans F).heap' a4;refine Xay.loadb hTT rfl G rfl rfl ?_;refine Xay.loads hTT rfl (F.heap' E) rfl rfl ?_;refine Xay.loadb hTT rfl r rfl rfl ?_;have f:=foot_lt hA;have d:∀ z,XjO A z→Xgg A z:=fun z h => .inr h;have aw:=XjD hv.obj;have a6:=hA.blt;have hE:=XtW v q at' l.length 195 [.pointer (some ⟨vb,0,none⟩),.pointer (some ⟨bb,0,none⟩)] A (vsW q A V ps l)
  (fun k Y x => ∃ a' cap',x.heap[bb]? = some (.cells ([.slice a' (l.drop (Xtm (ps.take k))).length cap']:List Value).toArray 32 (0,0))∧Rd .u8 x a' (l.drop (Xtm (ps.take k)))∧(l.drop (Xtm (ps.take k))).length≤cap' ∧
   (0<(l.drop (Xtm (ps.take k))).length→XaX (fun z=>z=bb∨Xgg A z∨j.heap.size≤z) a')∧(∀ z,Y z↔z=bb∨Xgg A z)∧Xns x vb v∧x.heap[v.vb]? = some (.cells (vwL v).toArray 211 (0,0))∧j.heap.size≤x.heap.size)
  (fun z=>z=bb∨Xgg A z) j (hv.grow o) (hq.grow o) hmb hck hfew
  (by rintro ((h | h) | h); omega; exact hPv h; exact hPv (d _ h))
  (hq.rd.outNew hPq (fun z c=>by rcases c with (h | h) | h; exact .inr (by omega); exact .inl h; exact .inl (d _ h)))
  (hv.conf.classes.outNew hPc (fun z c=>by rcases c with (h | h) | h; exact .inr (by omega); exact .inl h; exact .inl (d _ h)))
  (hv.conf.keep.outNew hPk (fun z c=>by rcases c with (h | h) | h; exact .inr (by omega); exact .inl h; exact .inl (d _ h)))
  (by
   rintro k Y x ⟨a',cap',n,D,M,H,B,I,J,N⟩ z c;rcases (B z).1 c with rfl | h
   ·exact XjD n
   ·have:=f z h; omega)
  (by
   rintro k Y x y S ⟨a',cap',n,D,M,H,B,I,J,N⟩ K hS;have no:∀ z,z<j.heap.size → ¬ XjO A z → ¬ S z:=fun z c hm h=>(hS z h).elim hm (fun h=>by omega);refine ⟨a',cap',K.heap n (no _ (by omega) (fun h=>by have:=f _ (d _ h); omega)),D.far' (fun hl b off s e U=>H hl b off s e ((hS b U).elim (fun h => .inr (.inl (d _ h))) (fun h => .inr (.inr h.2)))) K,M,H,B,K.heap I (no _ (by omega) (fun h=>by have:=f _ (d _ h); omega)),K.heap J (no _ (by omega) (fun h=>hPv (d _ h))),Nat.le_trans N K.size⟩)
  (by
   rintro k Y x L a9 ⟨a',cap',n,D,M,H,B,I,J,N⟩;rw [← g] at L;obtain ⟨i,m,t,aa⟩:=C ps[k] (List.getElem_mem L);have Q:(Xev q A (vsW q A V ps l k)).bs=(vsW q A V ps l k).bs:=Xew _ _ _;have W:(vsW q A V ps l k).bs.length=V.bs.length:=Xt7 C T (by omega);have R:=Xtq L;rw [t] at R;simp only [Int.toNat_natCast] at R;have ax:(l.drop (Xtm (ps.take k))).length=l.length - Xtm (ps.take k):=by simp
   have hR:=XtT v vb bb A (Xev q A (vsW q A V ps l k)) i m a' cap' (l.drop (Xtm (ps.take k))) x I J hab n D M (fun y hy=>hin y (List.mem_of_mem_drop hy)) (by omega) a9 (by rw [Q,W]; exact aa)
    (fun z c=>by have:=f z c; omega) (fun b U=>by have:=a6 b U; omega) (fun z=>z=bb∨Xgg A z∨j.heap.size≤z) (fun z h=>h.imp id .inl) H
   simp only [← g];rw [t];refine hR.mono fun _ y ⟨a1,O,a3,c3,b1,b2,b3,b4⟩ => ?_;rw [Q] at a1;have a0:Xtm (ps.take (k+1))=Xtm (ps.take k)+m:=by
    rw [List.take_add_one,List.getElem?_eq_getElem L,t,Xtn]; simp [Xtm]
   have ag:(l.drop (Xtm (ps.take k))).drop m=l.drop (Xtm (ps.take (k+1))):=by rw [List.drop_drop,a0]
   rw [ag] at b1 b2 b3 b4;refine ⟨by rw [Xt8 L t]; exact a1,O.mono fun z _ c=>(B z).2 c,fun z=>z=bb∨Xgg A z,⟨a3,c3,b1,b2,b3,b4,fun z=>Iff.rfl,?_,?_,Nat.le_trans N O.size⟩,fun z c => .inl ((B z).2 c)⟩
   ·exact O.heap I (fun h=>by rcases h with h | h; omega; have:=f _ h; omega)
   ·exact O.heap J (fun h=>by rcases h with h | h; omega; exact hPv h))
  (hA.grow o) ⟨a,cap,by simpa [Xtm] using r,by simpa [Xtm] using hr.chg o,by simpa [Xtm] using hlc,fun h=>by
   have:=hr.outNew hout (S':=fun z=>z=bb∨Xgg A z∨j.heap.size≤z) (fun z c=>by rcases c with h | h | h; exact .inr (by omega); exact .inl h; exact .inr (by have:=o.size; omega));exact this (by simpa [Xtm] using h),fun z=>Iff.rfl,G,o.heap' hv.obj,Nat.le_refl _⟩
 rw [← g] at hE;refine ζc rfl (hE) ?_;rintro _ w4 ⟨rfl,ah,_,ai⟩;refine ζa rfl ?_;have aj:Chg (Xgg A) w w4:=(o.mono fun _ _ h=>h.elim).since ai (fun z c h=>by rcases h with (h | h) | h; omega; exact h; exact d _ h);exact Xay.ret1 hTT rfl Tryz.func128 rfl rfl ⟨rfl,ah,aj⟩

structure RA where
 a:Option Addr
 cap:Nat
 bs:List Int
 steps:Int
structure Xa8 (w:World) (r:RA):Prop where
 rd:Rd .u8 w r.a r.bs
 len:r.bs.length≤4194304
 lc:r.bs.length≤r.cap
 rng:InB r.bs
theorem Xa8.grow {w w':World} {r:RA} (h:Xa8 w r) (hc:Chg XaW w w'):Xa8 w' r:=⟨h.rd.chg hc,h.len,h.lc,h.rng⟩
theorem RdU.of {w:World} {b:Nat} {c:Array Value} {t:TypeId} {fz:Nat × Nat} {zs:List Int} (h:w.heap[b]? = some (.cells c t fz)) (hc:c=(zs.map (Value.int .u8)).toArray):Rd .u8 w (some ⟨b,0,none⟩) zs:=fun i a =>
 ⟨b,0,rfl,by rw [Xd6 h,hc]; simp [a]⟩



def Xub (c:Conf) (q:Plc) (i:Nat):Int:=if q.cls = -1 then q.pages.getD (i / c.size.toNat) 0*c.size+((i % c.size.toNat:Nat):Int) else XtH c q+i

def Xeg (c:Conf) (q:Plc) (at' n:Nat):Int:=n+(if q.cls = -1 then ((Xrf at' n c.size.toNat).length:Int) else 0)
theorem Xud {c:Conf} {q:Plc} {i:Nat} (hm:XjY c=true) (hin:XtL c q=true) (hi:(i:Int)<XtI c q):0≤Xub c q i∧Xub c q i<c.size*c.pages:=by
 obtain ⟨t,u,v⟩:=Xj0 hm;unfold Xub;by_cases a:q.cls = -1
 ·rw [if_pos a];obtain ⟨n,b⟩:=Xif hin a;have e:XtI c q=(q.pages.length:Int)*c.size:=by unfold XtI; rw [if_pos hin,if_pos a]
  rw [e] at hi;obtain ⟨sz,h⟩:=Int.eq_ofNat_of_zero_le (show 0≤c.size by omega);have f:c.size.toNat=sz:=by omega
  rw [f];have d:i / sz<q.pages.length:=by
   apply Nat.div_lt_of_lt_mul
   have:((sz*q.pages.length:Nat):Int)=(q.pages.length:Int)*c.size:=by rw [h,Int.mul_comm]; rfl
   omega
  have g:=Nat.mod_lt i (show 0<sz by omega);obtain ⟨D,o⟩:∃ D,D=i / sz:=⟨_,rfl⟩;obtain ⟨M,p⟩:∃ M,M=i % sz:=⟨_,rfl⟩;rw [← o] at d ⊢;rw [← p] at g ⊢;have j:0≤q.pages.getD D 0∧q.pages.getD D 0<c.pages:=b _ (by rw [List.getD_eq_getElem?_getD,List.getElem?_eq_getElem d]; exact List.getElem_mem d);have w:0≤q.pages.getD D 0*c.size:=Int.mul_nonneg j.1 (by omega);have e2:q.pages.getD D 0*c.size+c.size≤c.size*c.pages:=by
   have:(q.pages.getD D 0+1)*c.size≤c.pages*c.size:=Int.mul_le_mul_of_nonneg_right (by omega) (by omega);rw [Int.add_mul,Int.one_mul,Int.mul_comm c.pages] at this;exact this
  omega
 ·rw [if_neg a];obtain ⟨k,pg,ix,l,b,m,r,x,y,z,A,B,C,E⟩:=Xig hm hin a;have s:XtH c q=(pg:Int)*c.size+(ix:Int)*XeV c k:=by unfold XtH; rw [if_pos ⟨hin,a⟩,l,b,m]
  have e:XtI c q=XeV c k:=by unfold XtI; rw [if_pos hin,if_neg a,l]
  omega
def Xtj (c:Conf) (q:Plc) (bs:List Int) (at' n:Nat):List Int:=(List.range n).map fun i=>bs.getD (Xub c q (at'+i)).toNat 0
theorem Xeu {c:Conf} {q:Plc} {at' n:Int} (h:Xeq c q at' n=0):XtL c q=true∧0≤at'∧0≤n∧at'+n≤XtI c q:=by
 have a:XtL c q=true:=by
  cases a:XtL c q with
  |true=>rfl
  |false=>unfold Xeq at h; rw [if_pos a] at h; cases h
 have b:¬ (at'<0∨n<0∨XtI c q<n∨XtI c q - n<at'):=fun d=>by
  unfold Xeq at h; rw [if_neg (by rw [a]; decide),if_pos d] at h; cases h
 exact ⟨a,by omega,by omega,by omega⟩

def XiC (c:Conf) (q:Plc) (bs:List Int) (at':Nat) (l:List Int):Nat→List Int
 |0=>bs
 |k+1=>(XiC c q bs at' l k).set (Xub c q (at'+k)).toNat (l.getD k 0)
theorem XiE (c:Conf) (q:Plc) (bs:List Int) (at':Nat) (l:List Int):∀ k,(XiC c q bs at' l k).length=bs.length
 |0=>rfl
 |k+1=>by show (List.set _ _ _).length=_; rw [List.length_set,XiE c q bs at' l k]

theorem XaY.rd {base:Nat} {w:World} {v:Value} {l:List Int} (h:XaY base w v l):∃ g cap cur,v = .slice (some ⟨g,0,none⟩) l.length cap∧base≤g∧w.heap[g]? = some (.cells cur 5 (0,0))∧l.length≤cap∧cur.toList.take l.length=l.map (Value.int .u8)∧Rd .u8 w (some ⟨g,0,none⟩) l:=by
 obtain ⟨g,cap,cur,c,d,a,e,b⟩:=h;exact ⟨g,cap,cur,c,d,a,e,b,Rd.of_take a b⟩
theorem Rd.at {k:IntKind} {w:World} {a:Option Addr} {l:List Int} (h:Rd k w a l) (hl:0<l.length):∃ b off,a=some ⟨b,off,none⟩ ∧ ∀ j,j<l.length→w.cell? ⟨b,off+j,none⟩=some (.int k (l.getD j 0)):=by
 obtain ⟨b,off,e,_⟩:=h 0 hl;refine ⟨b,off,e,fun j c => ?_⟩;obtain ⟨b',off',e',d⟩:=h j c;rw [e] at e'; cases e'; exact d
structure Mv where
 mv:Nat
 f:Nat
 t:Nat
 size:Nat
def Xkv (A:Ar) (M:Mv) (gone:Nat):List Value := [.func (.func 259) #[.pointer (some ⟨A.ab,0,none⟩)] #[],.int .i64 M.f,.int .i64 M.t,.int .i64 M.size,.int .i64 gone]
structure XaT (w:World) (A:Ar) (V:ArV) (M:Mv) (gone:Nat):Prop where
 ar:Xag w A V
 obj:w.heap[M.mv]? = some (.cells (Xkv A M gone).toArray 258 (0,0))
 pos:1≤M.size
 gone:gone≤M.size
 f:M.f+M.size≤V.bs.length
 t:M.t+M.size≤V.bs.length
theorem XaT.nfoot {w:World} {A:Ar} {V:ArV} {M:Mv} {g:Nat} (h:XaT w A V M g):¬ Xgg A M.mv:=by
 rintro (e | e)
 ·exact XdE h.obj h.ar.dat (by decide) e
 ·exact XdE h.obj (h.ar.met _ e).1 (by decide) rfl
theorem XaT.grow {w w':World} {A:Ar} {V:ArV} {M:Mv} {g:Nat} (h:XaT w A V M g) (hc:Chg XaW w w'):XaT w' A V M g:=⟨h.ar.grow hc,hc.heap' h.obj,h.pos,h.gone,h.f,h.t⟩
def XjN (A:Ar) (M:Mv):Nat→Prop:=fun b=>b=A.ab∨b=A.db∨b=A.mc∨A.mb=some b∨b=M.mv
theorem XaT.lt {w:World} {A:Ar} {V:ArV} {M:Mv} {g:Nat} (h:XaT w A V M g):∀ x,XjN A M x→x<w.heap.size:=fun x hx=>by
 rcases hx with rfl | rfl | rfl | hx | rfl
 ·exact XjD h.ar.obj
 ·exact XjD h.ar.dat
 ·exact XjD h.ar.cap
 ·exact XjD (h.ar.met _ hx).1
 ·exact XjD h.obj
theorem XaT.far {w w':World} {A:Ar} {V:ArV} {M:Mv} {g:Nat} {S:Nat→Prop} (h:XaT w A V M g) (hc:Chg S w w') (hs:∀ x,XjN A M x → ¬ S x):XaT w' A V M g :=
 ⟨h.ar.chg hc (fun b a=>hs b (by rcases a with h | h | h | h; exact .inl h; exact .inr (.inl h); exact .inr (.inr (.inl h)); exact .inr (.inr (.inr (.inl h))))),hc.heap h.obj (hs _ (.inr (.inr (.inr (.inr rfl))))),h.pos,h.gone,h.f,h.t⟩
theorem XaT.laid {w w':World} {A:Ar} {V V':ArV} {M:Mv} {g:Nat} (h:XaT w A V M g) (hA:Xag w' A V') (hc:Chg (Xgg A) w w') (hl:V'.bs.length=V.bs.length):XaT w' A V' M g :=
 ⟨hA,hc.heap h.obj h.nfoot,h.pos,h.gone,by rw [hl]; exact h.f,by rw [hl]; exact h.t⟩
def cpB (bs:List Int) (t f n:Nat):List Int:=wrB bs t (sub bs f n)
theorem Xff {bs:List Int} {t f n:Nat} (h:f+n≤bs.length) (h':t+n≤bs.length):(cpB bs t f n).length=bs.length:=Xuu (by rw [Xst h]; exact h')
def mFt (A:Ar) (M:Mv):Nat→Prop:=fun b=>Xgg A b∨b=M.mv
theorem Xkn (A:Ar) (V:ArV) (M:Mv) (g:Nat) (w:World) (h:XaT w A V M g):Xan Tryz.prog 137 #[.pointer (some ⟨M.mv,0,none⟩)] w (Grow (.int .i64 (M.size - g:Nat)) w):=by
 have b:=h.ar.len;have c:=h.gone;have d:=h.t;exact ζe Tryz.func137 Tryz.ntmps137 rfl (Xay.quiet rfl Xki (by kernel_rfl) (Xa6.adv hTT rfl (Xa6.loadb hTT rfl h.obj rfl rfl (Xa6.loadb hTT rfl h.obj rfl rfl (Xa6.arith hTT rfl (w64 (by omega)) rfl (Xa6.nil fun e a=>ζa rfl (ζr Tryz.func137 rfl ⟨Xib (by omega),a⟩)))))))
theorem Xks (A:Ar) (V:ArV) (M:Mv) (g i n:Nat) (w:World) (h:XaT w A V M g) (hi:i+n≤M.size) (hn:0<n):Xan Tryz.prog 252 #[.pointer (some ⟨M.mv,0,none⟩),.int .i64 i,.int .i64 n] w
 (fun _ w'=>XaT w' A {V.charge A n with bs:=cpB V.bs (M.t+i) (M.f+i) n} M g∧Chg (Xgg A) w w'):=by
 have s:=h.ar.len;have p:=h.t;have q:=h.f;have l:=h.nfoot;have e1:((M.t:Int)+i)=((M.t+i:Nat):Int):=by omega
 have e2:((M.f:Int)+i)=((M.f+i:Nat):Int):=by omega
 refine ζe Tryz.func252 Tryz.ntmps252 rfl (ζy rfl (ζd 18 (Xgg A) (by kernel_rfl) rfl fun a=>δl a h.obj rfl (δl a h.obj rfl (δj a rfl (δl a h.obj rfl (δj a rfl ?_))))));rw [e1,e2];refine Xaq.turn1 a rfl ?_;intro j e;have k:=h.grow e;refine XbJ.call rfl (Xcy A V (M.t+i) (M.f+i) n j k.ar (by omega) (by omega)).fn (Post:=fun v d=>v = .int .i64 0∧Xag d A {V.charge A n with bs:=cpB V.bs (M.t+i) (M.f+i) n}∧Chg (Xgg A) j d)
  (fun r=>(Xcy A V (M.t+i) (M.f+i) n j k.ar (by omega) (by omega)).mono fun v d m=>⟨r.trans m.2.2,m⟩) ?_
 rintro _ d _ ⟨rfl,o,f⟩;refine δn a rfl fun t b => ?_;have c:(cpB V.bs (M.t+i) (M.f+i) n).length=V.bs.length:=Xff (by omega) (by omega);exact ζr Tryz.func252 rfl ⟨⟨o.grow b,b.heap' (f.heap k.obj l),h.pos,h.gone,by simp only [c]; exact q,by simp only [c]; exact p⟩,(e.mono fun _ _ h=>h.elim).trans (f.trans (b.mono fun _ _ h=>h.elim))⟩
theorem Xkt (M:Mv) (i n:Int) (w:World) (hn:n≤0):Xan Tryz.prog 252 #[.pointer (some ⟨M.mv,0,none⟩),.int .i64 i,.int .i64 n] w (fun _ w'=>w=w'):=by
 exact ζe Tryz.func252 Tryz.ntmps252 rfl (ζf rfl (ζr Tryz.func252 rfl rfl))
def XrQ (n:Int) (left:Nat):Nat:=(min n left).toNat
def XrR (A:Ar) (V:ArV) (M:Mv) (g k:Nat):ArV:=if k=0 then V else {V.charge A k with bs:=cpB V.bs (M.t+g) (M.f+g) k}
theorem Xkp (A:Ar) (V:ArV) (M:Mv) (g:Nat) (n:Int) (w:World) (h:XaT w A V M g):Xan Tryz.prog 207 #[.pointer (some ⟨M.mv,0,none⟩),.int .i64 n] w
 (fun v w'=>v = .int .i64 (XrQ n (M.size - g))∧XaT w' A (XrR A V M g (XrQ n (M.size - g))) M (g+XrQ n (M.size - g))∧Chg (mFt A M) w w'):=by
 have z:=h.ar.len;have B:=h.gone;have C:=h.t;obtain ⟨k,j⟩:∃ k,k=XrQ n (M.size - g):=⟨_,rfl⟩;rw [← j];unfold XrQ at j;have x:k≤M.size - g:=by omega
 have m:(if (0:Int) > (if ((M.size - g:Nat):Int)<n then ((M.size - g:Nat):Int) else n) then 0 else (if ((M.size - g:Nat):Int)<n then ((M.size - g:Nat):Int) else n))=(k:Int):=by
  subst j;split <;> split <;> omega
 refine ζe Tryz.func207 Tryz.ntmps207 rfl (ζv (Xkn A V M g w h) rfl fun r c => ?_);rw [m];have l:=h.grow c;by_cases f:k=0
 ·refine ζf rfl ?_;subst f;exact ζr Tryz.func207 rfl ⟨rfl,by unfold XrR; rw [if_pos rfl]; exact l,c.mono fun _ _ h=>h.elim⟩
 ·refine ζy rfl (ζl l.obj rfl (ζc rfl (Xks A V M g g k r l (by omega) (by omega)) ?_));rintro _ D ⟨a,o⟩;refine ζa rfl (ζl a.obj rfl (ζj rfl ?_));rw [show ((g:Int)+k)=((g+k:Nat):Int) from by omega];refine ζs a.obj rfl fun s p i y => ?_;have q:=a.ar.chg i (fun b d e=>by
   subst e;rcases d with e | e | e | e
   ·exact XdE a.obj a.ar.obj (by decide) e
   ·exact XdE a.obj a.ar.dat (by decide) e
   ·exact XdE a.obj a.ar.cap (by decide) e
   ·exact XdE a.obj (a.ar.met _ e).1 (by decide) rfl)
  have t:Chg (mFt A M) w s:=(c.mono fun _ _ h=>h.elim).trans ((o.mono fun b _ d => .inl d).trans (i.mono fun b _ d => .inr d));have u:XrR A V M g k={V.charge A k with bs:=cpB V.bs (M.t+g) (M.f+g) k}:=by unfold XrR; rw [if_neg f]
  exact ζr Tryz.func207 rfl ⟨rfl,by rw [u]; exact ⟨q,p,h.pos,by omega,a.f,a.t⟩,t⟩
def XuE (i n g:Nat):Nat:=min (i+n) g - i
def XuF (A:Ar) (V:ArV) (M:Mv) (g i n:Nat):ArV:=if XuE i n g=0 then V else {V.charge A (XuE i n g) with bs:=cpB V.bs (M.t+i) (M.f+i) (XuE i n g)}
theorem Xkq (A:Ar) (V:ArV) (M:Mv) (g i n:Nat) (w:World) (h:XaT w A V M g) (hi:i+n≤M.size):Xan Tryz.prog 197 #[.pointer (some ⟨M.mv,0,none⟩),.int .i64 i,.int .i64 n] w
 (fun v w'=>v = .int .i64 0∧XaT w' A (XuF A V M g i n) M g∧Chg (Xgg A) w w'):=by
 have j:=h.ar.len;have k:=h.gone;have l:=h.t;refine ζe Tryz.func197 Tryz.ntmps197 rfl (ζf rfl (ζf rfl (ζl h.obj rfl (ζf rfl (ζl h.obj rfl (ζj rfl (ζf rfl (ζj rfl (ζl h.obj rfl (ζJ rfl (by split <;> omega) ?_))))))))));by_cases a:XuE i n g=0
 ·refine ζc rfl (Xkt M i _ w (by unfold XuE at a; split <;> omega)) ?_;rintro _ d rfl;refine ζa rfl ?_;have b:XuF A V M g i n=V:=by unfold XuF; rw [if_pos a]
  exact ζr Tryz.func197 rfl ⟨rfl,by rw [b]; exact h,Chg.refl _ _⟩
 ·have e:(if (g:Int)<(i:Int)+n then (g:Int) else (i:Int)+n) - i=((XuE i n g:Nat):Int):=by unfold XuE at a ⊢; split <;> omega
  rw [e];refine ζc rfl (Xks A V M g i (XuE i n g) w h (by unfold XuE; omega) (by omega)) ?_;rintro _ d ⟨f,c⟩;refine ζa rfl ?_;have b:XuF A V M g i n={V.charge A (XuE i n g) with bs:=cpB V.bs (M.t+i) (M.f+i) (XuE i n g)}:=by unfold XuF; rw [if_neg a]
  exact ζr Tryz.func197 rfl ⟨rfl,by rw [b]; exact f,c⟩
def Xkw (N:Nat) (f t size:Int):Bool:=decide (1≤size) && (decide (0≤f) && decide (size≤N) && decide (f≤N - size)) && (decide (0≤t) && decide (size≤N) && decide (t≤N - size)) && (decide (f+size≤t) || decide (t+size≤f))
theorem Xkx {N:Nat} {f t size:Int}:Xkw N f t size=true↔1≤size∧(0≤f∧size≤N∧f≤N - size)∧(0≤t∧t≤N - size)∧(f+size≤t∨t+size≤f):=by
 unfold Xkw;simp only [Bool.and_eq_true,Bool.or_eq_true,decide_eq_true_eq];constructor
 ·rintro ⟨⟨⟨b,⟨c,a⟩,d⟩,⟨e,_⟩,g⟩,h⟩; exact ⟨b,⟨c,a,d⟩,⟨e,g⟩,h⟩
 ·rintro ⟨b,⟨c,a,d⟩,⟨e,g⟩,h⟩; exact ⟨⟨⟨b,⟨c,a⟩,d⟩,⟨e,a⟩,g⟩,h⟩
def inB (N:Nat) (size at':Int):Bool:=decide (0≤at') && decide (size≤N) && decide (at'≤N - size)
theorem Xkr (A:Ar) (V:ArV) (x size:Int) (sb pb:Nat) (w:World) (hA:Xag w A V) (hs:w.heap[sb]? = some (.cells #[.int .i64 size] 3 (0,0))) (hp:w.heap[pb]? = some (.cells #[.pointer (some ⟨A.ab,0,none⟩)] 131 (0,0))) (hsz:1≤size) :
 Xan Tryz.prog 258 #[.int .i64 x,.pointer (some ⟨sb,0,none⟩),.pointer (some ⟨pb,0,none⟩)] w (Grow (.bool (inB V.bs.length size x)) w):=by
 have f:=hA.len;refine ζe Tryz.func258 Tryz.ntmps258 rfl (Xay.quiet rfl Xki (by kernel_rfl) (Xa6.adv hTT rfl ?_));refine Xa6.fork hTT rfl rfl rfl (fun c => ?_) (fun c => ?_)
 ·refine Xa6.loadb hTT rfl hs rfl rfl (Xa6.loadb hTT rfl hp rfl rfl (Xa6.call hTT rfl (fun w' b=>(XcA A V w' (hA.grow b)).grow) rfl ?_));refine Xa6.fork hTT rfl rfl rfl (fun d => ?_) (fun d => ?_)
  ·have g:=of_decide_eq_true d;exact Xa6.loadb hTT rfl hp rfl rfl (Xa6.call hTT rfl (fun w' b=>(XcA A V w' (hA.grow b)).grow) rfl (Xa6.loadb hTT rfl hs rfl rfl (Xa6.arith hTT rfl (w64 (by omega)) rfl (Xa6.nil fun e a=>ζa rfl (ζr Tryz.func258 rfl ⟨XdL (by unfold inB; rw [show decide (0≤x)=true from c,show decide (size≤(V.bs.length:Int))=true from d]; rfl),a⟩)))))
  ·exact Xa6.nil fun e a=>ζa rfl (ζr Tryz.func258 rfl ⟨XdL (by unfold inB; rw [show decide (0≤x)=true from c,show decide (size≤(V.bs.length:Int))=false from d]; rfl),a⟩)
 ·exact Xa6.nil fun e a=>ζa rfl (ζr Tryz.func258 rfl ⟨XdL (by unfold inB; rw [show decide (0≤x)=false from c]; rfl),a⟩)
theorem Xh0 {N:Nat} {size x:Int}:inB N size x=true↔0≤x∧size≤N∧x≤N - size:=by unfold inB; simp [and_assoc]
theorem Xko (A:Ar) (V:ArV) (f t size:Nat) (w:World) (hA:Xag w A V) (hm:Xkw V.bs.length f t size=true):Xan Tryz.prog 206 #[.pointer (some ⟨A.ab,0,none⟩),.int .i64 f,.int .i64 t,.int .i64 size] w
 (fun v w' => ∃ M:Mv,v = .tuple #[.pointer (some ⟨M.mv,0,none⟩),.int .i64 0]∧M.f=f∧M.t=t∧M.size=size∧w.heap.size≤M.mv∧XaT w' A V M 0∧Chg XaW w w'):=by
 have z:=hA.len;have g:=Xkx.1 hm;have l:inB V.bs.length size f=true:=Xh0.2 (by omega);have m:inB V.bs.length size t=true:=Xh0.2 (by omega);refine ζe Tryz.func206 Tryz.ntmps206 rfl (ζn rfl fun pb B e1 n h u=>ζn rfl fun sb r e2 c d x => ?_);have j:=(hA.grow h).grow d;have b:=d.heap' n;refine ζl b rfl (ζl c rfl (ζf rfl (ζv (Xkr A V f size sb pb r j c b (by omega)) rfl fun s a=>ζF rfl (by rw [l]; rfl) (ζv (Xkr A V t size sb pb s (j.grow a) (a.heap' c) (a.heap' b) (by omega)) rfl fun C e=>ζF rfl (by rw [m]; rfl) (ζJ rfl (by split <;> split <;> omega) ?_)))));have i:=e.heap' (a.heap' c);have k:=e.heap' (a.heap' b);refine ζl i rfl (ζF rfl (decide_eq_false (by split <;> split <;> omega)) (ζl k rfl (ζl i rfl (ζb rfl (ζn rfl fun mv D e5 o p y => ?_)))));have q:=(((h.trans d).trans a).trans e).trans p;exact ζr Tryz.func206 rfl ⟨⟨mv,f,t,size⟩,rfl,rfl,rfl,rfl,by have:=((h.trans d).trans a).trans e; have:=this.size; simp only; omega,⟨hA.grow q,o,by simp only; omega,Nat.zero_le _,by simp only; omega,by simp only; omega⟩,q⟩
theorem Xkb (b cb:Nat) (total lap:Int) (w:World) (h:XaO w b total lap) (hc:w.heap[cb]? = some (.cells #[.pointer (some ⟨b,0,none⟩)] 127 (0,0))) :
 Xao Tryz.prog 160 #[.pointer (some ⟨cb,0,none⟩)] w (fun _ w'=>XaO w' b total total∧Chg (fun x=>x=b) w w'):=by
 obtain ⟨d,j,k,g⟩:=h;exact Xao.enter Tryz.func160 rfl Tryz.ntmps160 rfl rfl (ζa rfl (ζd 5 XaW (by kernel_rfl) rfl fun a=>δk a (Xd5 (off:=0) hc rfl) rfl (δk a (Xd5 (off:=0) hc rfl) rfl (δl a d rfl (δn a rfl fun l c=>ζs (c.heap' d) rfl fun m e f i=>ζr Tryz.func160 rfl ⟨⟨e,by omega,by omega,g⟩,(c.mono fun _ _ h=>h.elim).trans f⟩)))))
theorem Xka (b:Nat) (total lap:Int) (w:World) (h:XaO w b total lap):Xan Tryz.prog 101 #[.pointer (some ⟨b,0,none⟩)] w (fun v w'=>v = .int .i64 (total - lap)∧XaO w' b total total∧Chg (fun x=>x=b) w w'):=by
 have k:=h;obtain ⟨i,s,t,u⟩:=h;refine ζe Tryz.func101 Tryz.ntmps101 rfl (ζn rfl fun cb y e1 a d r=>ζl a rfl (Xay.defer rfl rfl (ζa rfl (Xay.quiet rfl Xki (by kernel_rfl) (Xa6.adv hTT rfl (Xa6.loadb hTT rfl a rfl rfl (Xa6.loadb hTT rfl (d.heap' i) rfl rfl (Xa6.loadb hTT rfl a rfl rfl (Xa6.loadb hTT rfl (d.heap' i) rfl rfl (Xa6.arith hTT rfl (w64 (by omega)) rfl (Xa6.nil fun l e=>ζa rfl ?_)))))))))));have g:=Xkb b cb total lap l ((k.chg d).chg e) (e.heap' a);refine Xay.ret1D hTT rfl Tryz.func101 rfl rfl rfl (Xid (args := []) (captured := [.pointer (some ⟨cb,0,none⟩)]) g.fn) ⟨g.fn,?_⟩;have m:=g.calls;intro c cs n;obtain ⟨en,u',w',fr,⟨o,v,p,q,j⟩,f⟩:=m c cs n;exact ⟨en,u',w',fr,⟨o,v,p,rfl,q,((d.trans e).mono fun _ _ h=>h.elim).trans j⟩,f⟩

theorem Rd.keepU {w w':World} {a:Option Addr} {l:List Int} {q t:Nat} {c:Array Value} {fz:Nat × Nat} (hr:Rd .u8 w a l) (hq:w.heap[q]? = some (.cells c t fz)) (hc:∀ x ∈ c.toList,∀ z,x ≠ .int .u8 z) (hs:Chg (fun b=>b=q) w w'):Rd .u8 w' a l:=fun j f=>by
 obtain ⟨b,off,e,d⟩:=hr j f;refine ⟨b,off,e,hs.cell d (fun g => ?_)⟩;subst g;rw [Xd6 hq] at d;exact hc _ (Array.mem_toList_iff.2 (Array.mem_of_getElem? d)) _ rfl
def XaU (w:World) (r:RA):Prop := ∃ g,r.a=some ⟨g,0,none⟩∧w.heap.size≤g

structure Use where
 kind:Int
 at':Int
 frm:Int
 n:Int
 w:Int
 a:Option Addr
 cap:Nat
 bs:List Int
structure XbL (w:World) (u:Use):Prop where
 kind:0≤u.kind∧u.kind<256
 w64:0≤u.w∧u.w<18446744073709551616
 rd:Rd .u8 w u.a u.bs
 rng:InB u.bs
 len:u.bs.length≤9223372036854775807
theorem XbL.chg {w w':World} {u:Use} (h:XbL w u) (hc:Chg XaW w w'):XbL w' u:=⟨h.kind,h.w64,h.rd.chg hc,h.rng,h.len⟩
structure Out where
 err:Int
 bs:List Int
 n:Nat
 told:List Int
 word:Int
def Xlr (bs:List Int) (e:Int):Out:=⟨e,bs,0,[],0⟩
theorem ArV.charge_zero {V:ArV} {A:Ar}:{V.charge A 0 with bs:=V.bs}=V:=by
 unfold ArV.charge;split
 ·rfl
 ·simp [Xek]
theorem ArV.charge_zero' {V:ArV} {A:Ar}:{V.charge A ((0:Nat):Int) with bs:=V.bs}=V:=ArV.charge_zero
theorem XaY.rdS {base:Nat} {w:World} {v:Value} {l:List Int} {S:Nat→Prop} (h:XaY base w v l) (hS:∀ b,S b→b<base):∃ a cap,v = .slice a l.length cap∧RdS S .u8 w a l:=by
 obtain ⟨g,cap,cur,c,i,j,k,m,d⟩:=h.rd;exact ⟨_,cap,c,d,fun b off s e _ f=>by cases e; have:=hS _ f; omega⟩
theorem Xag.foot_lt {w:World} {A:Ar} {V:ArV} (h:Xag w A V):∀ b,Xgg A b→b<w.heap.size:=fun b hb=>by
 rcases hb with rfl | hb
 ·exact XjD h.dat
 ·exact XjD (h.met b hb).1
theorem RdS.nil {S:Nat→Prop} {k:IntKind} {w:World} {a:Option Addr}:RdS S k w a []:=⟨Rd.nil _ _ _,fun _ _ _ _ h=>absurd h (by simp)⟩
def XbM (A:Ar) (V:ArV) (w:World) (o:Out):Value→World→Prop:=fun v w' =>
 ∃ a cap,v = .tuple #[.slice a o.told.length cap,.int .u64 o.word,.int .i64 o.err]∧RdS (Xgg A) .u8 w' a o.told∧Xag w' A {V.charge A o.n with bs:=o.bs}∧Chg (Xgg A) w w'
theorem XbM.no {A:Ar} {V:ArV} {w:World} {e:Int} {a:Option Addr} {cap:Nat} (h:Xag w A V):XbM A V w (Xlr V.bs e) (.tuple #[.slice a 0 cap,.int .u64 0,.int .i64 e]) w :=
 ⟨a,cap,rfl,RdS.nil,by show Xag w A {V.charge A ((0:Nat):Int) with bs:=V.bs}; rw [ArV.charge_zero']; exact h,Chg.refl _ _⟩
theorem Xa8.keep {w w':World} {r:RA} {q t:Nat} {c:Array Value} {fz:Nat × Nat} (h:Xa8 w r) (hq:w.heap[q]? = some (.cells c t fz)) (hc:∀ x ∈ c.toList,∀ z,x ≠ .int .u8 z) (hs:Chg (fun b=>b=q) w w'):Xa8 w' r :=
 ⟨h.rd.keepU hq hc hs,h.len,h.lc,h.rng⟩
theorem Xa8.rdS {w:World} {r:RA} {S:Nat→Prop} (h:Xa8 w r) (hs:∀ b off s,r.a=some ⟨b,off,s⟩ → ¬ S b):RdS S .u8 w r.a r.bs:=⟨h.rd,fun b off s e _=>hs b off s e⟩
theorem Xa8.far {w w':World} {r:RA} {S:Nat→Prop} (h:Xa8 w r) (hs:∀ b off s,r.a=some ⟨b,off,s⟩ → ¬ S b) (hc:Chg S w w'):Xa8 w' r :=
 ⟨((h.rdS hs).chg hc).1,h.len,h.lc,h.rng⟩
structure Act where
 step:Bool
 at':Int
 n:Int
 a:Option Addr
 cap:Nat
 bs:List Int
structure Xac (w:World) (x:Act):Prop where
 rd:Rd .u8 w x.a x.bs
 rng:InB x.bs
 len:x.bs.length≤9223372036854775807
theorem Xac.chg {w w':World} {x:Act} (h:Xac w x) (hc:Chg XaW w w'):Xac w' x:=⟨h.rd.chg hc,h.rng,h.len⟩
structure RM where
 ra:RA
 f:Nat
 t:Nat
 size:Nat
 gone:Nat
structure XaR (w:World) (m:RM):Prop where
 ra:Xa8 w m.ra
 pos:1≤m.size
 gone:m.gone≤m.size
 f:m.f+m.size≤m.ra.bs.length
 t:m.t+m.size≤m.ra.bs.length
theorem XaR.grow {w w':World} {m:RM} (h:XaR w m) (hc:Chg XaW w w'):XaR w' m:=⟨h.ra.grow hc,h.pos,h.gone,h.f,h.t⟩
def XaS (m:RM) (w:World) (bs:List Int) (st:Int) (g:Nat) (m':RM) (w':World):Prop :=
 m'.ra.bs=bs∧m'.ra.steps=st∧m'.f=m.f∧m'.t=m.t∧m'.size=m.size∧m'.gone=g∧Xa8 w' m'.ra∧Chg XaW w w'∧(XaU w m'.ra∨m'.ra.a=m.ra.a)
theorem XaS.self {m:RM} {w w':World} (h:Xa8 w' m.ra) (hc:Chg XaW w w'):XaS m w m.ra.bs m.ra.steps m.gone m w':=⟨rfl,rfl,rfl,rfl,rfl,rfl,h,hc,.inr rfl⟩
def XrN (bs:List Int) (f t g k:Nat):List Int:=if k=0 then bs else cpB bs (t+g) (f+g) k
def XuD (bs:List Int) (f t g i n:Nat):List Int:=if XuE i n g=0 then bs else cpB bs (t+i) (f+i) (XuE i n g)
theorem XrO {bs:List Int} {f t g k size:Nat} (hk:g+k≤size) (hf:f+size≤bs.length) (ht:t+size≤bs.length):(XrN bs f t g k).length=bs.length:=by
 unfold XrN;split
 ·rfl
 ·exact Xff (by omega) (by omega)
structure ThM where
 size:Int
 q:PlcM
structure MvM where
 who:Int
 pf:Int
 fa:Int
 pt:Int
 ta:Int
 f:Nat
 t:Nat
 size:Nat
 gone:Nat
structure StM where
 keep:List Int
 bs:List Int
 rm:RmM
 th:List (Option ThM)
 mv:List (Option MvM)
def PlcM.plc (q:PlcM):Plc:=⟨q.cls,q.page,q.idx,none,0,q.pages⟩
theorem XtM (c:Conf) (q:Plc):XtL c q=XtL c (Xnb q).plc:=by cases q; rfl
theorem XtK (c:Conf) (q:Plc):XtI c q=XtI c (Xnb q).plc:=by cases q; rfl
theorem Xer (c:Conf) (q:Plc) (i n:Int):Xeq c q i n=Xeq c (Xnb q).plc i n:=by cases q; rfl
theorem Xuc (c:Conf) (q:Plc) (i:Nat):Xub c q i=Xub c (Xnb q).plc i:=by cases q; rfl
theorem Xtl (c:Conf) (q:Plc) (bs:List Int) (i n:Nat):Xtj c q bs i n=Xtj c (Xnb q).plc bs i n:=by cases q; rfl
theorem XiF (c:Conf) (q:Plc) (bs:List Int) (i:Nat) (l:List Int):∀ k,XiC c q bs i l k=XiC c (Xnb q).plc bs i l k
 |0=>rfl
 |k+1=>by unfold XiC; rw [XiF c q bs i l k,Xuc]
theorem Xeh (c:Conf) (q:Plc) (i n:Nat):Xeg c q i n=Xeg c (Xnb q).plc i n:=by cases q; rfl
def XrA (s:StM) (k:Int):Option MvM:=if 0≤k then s.mv.getD k.toNat none else none
def XrK (s:StM) (o:Int):Option ThM:=if 0≤o then s.th.getD o.toNat none else none
def Xfx (opn keep:Int):Bool:=decide (keep<opn) && decide (keep+1<opn)
def XdC (c:Conf) (k page idx:Int):Int:=XtH c ⟨k,page,idx,none,0,[]⟩
def XeA (s:StM) (n:Int):StM:={s with rm:={s.rm with tot:=Xek s.rm.tot n}}
def XkR (c:Conf) (M:RmM) (k:Nat):MvM:=⟨Xox M k (XoK M k).1 (XoK M k).2.1,(XoK M k).1,(XoK M k).2.1,(XoK M k).2.2.1,(XoK M k).2.2.2,(XdC c k (XoK M k).1 (XoK M k).2.1).toNat,(XdC c k (XoK M k).2.2.1 (XoK M k).2.2.2).toNat,(XeV c k).toNat,0⟩
def Xc9 (s:StM) (k:Nat):Bool:=(XrA s k).isNone && Xfx (Xot s.rm k:Nat) (s.keep.getD k 0) && XoH s.rm k
def Xro (c:Conf) (s:StM) (k:Nat):StM:=if Xc9 s k=true then {s with rm:=XoP s.rm k (Xox s.rm k (XoK s.rm k).1 (XoK s.rm k).2.1),mv:=s.mv.set k (some (XkR c s.rm k))} else s
def goN (m:MvM) (n:Int):Nat:=XrQ n (m.size - m.gone)
def XrH (s:StM) (o:Int):Int:=match XrK s o with | some t=>t.size | none=>0
def XrJ (s:StM) (m:MvM) (n:Int):StM:=XeA {s with bs:=XrN s.bs m.f m.t m.gone (goN m n)} (goN m n)
def Xrw (s:StM) (k:Nat) (n:Int):StM:=match XrA s k with
 |none=>s
 |some m=>if m.gone+goN m n<m.size then {XrJ s m n with mv:=s.mv.set k (some {m with gone:=m.gone+goN m n})}
  else {XrJ s m n with mv:=s.mv.set k none,th:=s.th.set m.who.toNat (some ⟨XrH s m.who,⟨k,m.pt,m.ta,[]⟩⟩),rm:=Xoo (XrJ s m n).rm k m.pf m.fa}
def Xrt (s:StM) (k:Int):StM:=match XrA s k with | none=>s | some m=>Xrw s k.toNat m.size
def XsQ (c:Conf) (s:StM) (size:Int):Option MvM:=match XrA s (XmF c.classes size) with
 |some m=>if Xot s.rm (XmF c.classes size)=0 then some m else none
 |none=>none
def XiG (c:Conf) (s:StM) (who size:Int):PlcM:=match XsQ c s size with
 |some m=>⟨XmF c.classes size,m.pt,m.ta,[]⟩
 |none=>XoE c s.rm who size
def XiH (c:Conf) (s:StM) (who size:Int):StM:=match XsQ c s size with
 |some m=>XeA {s with mv:=s.mv.set (XmF c.classes size).toNat none,rm:=Xou s.rm (XmF c.classes size) m.pt m.ta who} 3
 |none=>{s with rm:=XoC c s.rm who size}
def XrB (c:Conf) (s:StM) (q:PlcM) (at':Nat) (l:List Int):StM:=XeA {s with bs:=XiC c q.plc s.bs at' l l.length} (Xeg c q.plc at' l.length)
def Xrz (c:Conf) (s:StM) (who size:Int):StM :=
 {XrB c (XiH c s who size) (XiG c s who size) 0 (XuW (XtI c (XiG c s who size).plc).toNat) with th:=s.th.set who.toNat (some ⟨size,XiG c s who size⟩)}
def Xrs (c:Conf) (s:StM) (q:PlcM):StM :=
 if q.cls<0 then {s with rm:=Xoc s.rm q} else
  Xrw (Xro c {s with rm:=Xoc s.rm q} q.cls.toNat) q.cls.toNat c.step
def XlC (s:StM) (o:Int):Int:=if o<0∨(s.th.length:Int)≤o then 1 else match XrK s o with | none=>9 | some _=>0
def Xru (c:Conf) (s:StM) (size:Int):Int:=if size<1∨c.most<size then 3 else if (XrA s (XmF c.classes size)).isSome then 0 else Xog c s.rm size
def Xrn (c:Conf) (s:StM) (o size:Int):Int:=if XlC s o=1 then 1 else if XlC s o=0 then 10 else Xru c s size
def Xrm (c:Conf) (s:StM) (o size:Int):StM:=if Xrn c s o size=0 then Xrz c s o size else s
def stQ (s:StM) (o:Int):PlcM:=match XrK s o with | some t=>t.q | none=>⟨0,0,0,[]⟩
def Xrv (c:Conf) (s:StM) (o:Int):StM:=if XlC s o≠0 then s else
 Xrs c {Xrt s (stQ s o).cls with th:=(Xrt s (stQ s o).cls).th.set o.toNat none} (stQ (Xrt s (stQ s o).cls) o)
def XrM (s:StM) (o:Int) (at' n:Nat):StM:=match XrA s (stQ s o).cls with
 |some m=>if m.who=o then XeA {s with bs:=XuD s.bs m.f m.t m.gone at' n} (XuE at' n m.gone) else s
 |none=>s
def Xui (s:StM) (o at' n:Int):Int:=if XlC s o≠0 then XlC s o else if at'<0∨n<0∨XrH s o<n∨XrH s o - n<at' then 8 else 0
def XrE (c:Conf) (s:StM) (o at' n:Int):List Int:=if Xui s o at' n=0 then Xtj c (stQ s o).plc s.bs at'.toNat n.toNat else []
def XrD (c:Conf) (s:StM) (o at' n:Int):StM:=if Xui s o at' n=0 then XeA s (Xeg c (stQ s o).plc at'.toNat n.toNat) else s
def XrL (c:Conf) (s:StM) (o at':Int) (l:List Int):StM:=if Xui s o at' l.length=0 then XrM (XrB c s (stQ s o) at'.toNat l) o at'.toNat l.length else s
def XrG (s:StM) (k keep:Int):Int:=if k<0∨(s.mv.length:Int)≤k∨keep<0∨1024<keep then 1 else 0
def XrF (s:StM) (k keep:Int):StM:=if XrG s k keep=0 then {s with keep:=s.keep.set k.toNat keep} else s
def Xs6 (l:List (Option ThM)):List Int:=l.filterMap fun t=>t.map (·.size)
def Xrp (s:StM):Int:=(Xs6 s.th).sum
def XkZ (c:Conf):StM:=⟨c.keep,XuW (c.size*c.pages).toNat,XkS c 0,List.replicate c.slots.toNat none,List.replicate c.classes.length none⟩
structure StM.OkP (c:Conf) (s:StM) (pd:Option (Nat × PlcM)):Prop where
 may:XjY c=true
 rm:Xbc c s.rm
 kl:s.keep.length=c.classes.length
 kr:∀ x ∈ s.keep,0≤x∧x≤1024
 bl:(s.bs.length:Int)=c.size*c.pages
 bi:InB s.bs
 tl:(s.th.length:Int)=c.slots
 ml:s.mv.length=c.classes.length
 size:∀ (o:Nat) t,s.th[o]? = some (some t)→1≤t.size∧t.size≤c.most
 small:∀ (o:Nat) t,s.th[o]? = some (some t)→XmF c.classes t.size ≠ -1→t.q.cls=XmF c.classes t.size∧t.q.pages = []∧Xox s.rm t.q.cls t.q.page t.q.idx=o
 large:∀ (o:Nat) t,s.th[o]? = some (some t)→XmF c.classes t.size = -1 → ∃ n r,(n,r) ∈ s.rm.lg∧t.q=⟨-1,(n:Nat),0,XkJ r⟩∧(r.length+1:Int)=Xb6 t.size c.size
 linj:∀ (o o':Nat) t t',s.th[o]? = some (some t)→s.th[o']? = some (some t')→t.q.cls = -1→t'.q.cls = -1→t.q.page=t'.q.page→o=o'
 mv:∀ (k:Nat) m,s.mv[k]? = some (some m)→(∃ (o:Nat),∃ t,m.who=o∧s.th[o]? = some (some t)∧t.q=⟨(k:Nat),m.pf,m.fa,[]⟩)∧Xox s.rm k m.pt m.ta=m.who ∧ ¬ (m.pf=m.pt∧m.fa=m.ta)∧(m.f:Int)=XdC c k m.pf m.fa∧(m.t:Int)=XdC c k m.pt m.ta∧(m.size:Int)=XeV c k∧m.gone<m.size
 own:∀ k n a:Int,Xox s.rm k n a ≠ -1→(∃ (o:Nat),∃ t,Xox s.rm k n a=o∧s.th[o]? = some (some t)∧(t.q=⟨k,n,a,[]⟩ ∨ ∃ m,XrA s k=some m∧m.pt=n∧m.ta=a)) ∨ ∃ o,pd=some (o,⟨k,n,a,[]⟩)
 ps:∀ o q,pd=some (o,q)→q.cls ≠ -1→q.pages = []∧Xox s.rm q.cls q.page q.idx=o∧(∀ m,XrA s q.cls=some m → ¬ (m.pt=q.page∧m.ta=q.idx)) ∧ ∀ (o':Nat) t,s.th[o']? = some (some t)→t.q≠q
 pl:∀ o q,pd=some (o,q)→q.cls = -1 → ∃ n r,(n,r) ∈ s.rm.lg∧q=⟨-1,(n:Nat),0,XkJ r⟩ ∧ ∀ (o':Nat) t,s.th[o']? = some (some t)→t.q.cls = -1→t.q.page≠(n:Nat)
abbrev StM.Ok (c:Conf) (s:StM):Prop:=s.OkP c none
section
variable {c:Conf} {s:StM} {pd:Option (Nat × PlcM)}
theorem XkF {k:Int} {m:MvM} (h:XrA s k=some m):∃ j:Nat,k=j∧j<s.mv.length∧s.mv[j]? = some (some m):=by
 unfold XrA at h;split at h
 ·rename_i b
  obtain ⟨j,rfl⟩:=Int.eq_ofNat_of_zero_le b;rw [Int.toNat_natCast,List.getD_eq_getElem?_getD] at h;cases a:s.mv[j]? with
  |none=>rw [a] at h; cases h
  |some x =>
   rw [a] at h;have:x=some m:=h;subst this;exact ⟨j,rfl,(List.getElem?_eq_some_iff.1 a).1,a⟩
 ·cases h
theorem XkD {j:Nat} {m:MvM} (h:s.mv[j]? = some (some m)):XrA s (j:Nat)=some m:=by
 unfold XrA;rw [if_pos (by omega),Int.toNat_natCast,List.getD_eq_getElem?_getD,h]; rfl
theorem Xs9 {o:Int} {t:ThM} (h:XrK s o=some t):∃ j:Nat,o=j∧j<s.th.length∧s.th[j]? = some (some t):=by
 unfold XrK at h;split at h
 ·rename_i b
  obtain ⟨j,rfl⟩:=Int.eq_ofNat_of_zero_le b;rw [Int.toNat_natCast,List.getD_eq_getElem?_getD] at h;cases a:s.th[j]? with
  |none=>rw [a] at h; cases h
  |some x =>
   rw [a] at h;have:x=some t:=h;subst this;exact ⟨j,rfl,(List.getElem?_eq_some_iff.1 a).1,a⟩
 ·cases h
theorem Xs8 {j:Nat} {t:ThM} (h:s.th[j]? = some (some t)):XrK s (j:Nat)=some t:=by
 unfold XrK;rw [if_pos (by omega),Int.toNat_natCast,List.getD_eq_getElem?_getD,h]; rfl
theorem XpD {α:Type} {l:List (Option α)} {k j:Nat} {v:Option α} {x:α} (h:(l.set k v)[j]? = some (some x)):(j=k∧v=some x∧k<l.length)∨(j≠k∧l[j]? = some (some x)):=by
 by_cases e:k=j
 ·subst e;by_cases a:k<l.length
  ·rw [List.getElem?_set_self a] at h;exact .inl ⟨rfl,Option.some.inj h,a⟩
  ·rw [List.getElem?_eq_none (by rw [List.length_set]; omega)] at h; cases h
 ·rw [List.getElem?_set_ne e] at h; exact .inr ⟨fun h=>e h.symm,h⟩
theorem XkE {k:Nat} {v:Option MvM} {j:Int} {m:MvM} {s':StM} (hs:s'.mv=s.mv.set k v) (h:XrA s' j=some m):(j=k∧v=some m)∨(j≠k∧XrA s j=some m):=by
 obtain ⟨i,rfl,_,a⟩:=XkF h;rw [hs] at a;rcases XpD a with ⟨rfl,e,_⟩ | ⟨b,a⟩
 ·exact .inl ⟨rfl,e⟩
 ·exact .inr ⟨by omega,XkD a⟩
theorem XkA {k:Nat} {v:Option MvM} {j:Int} {m:MvM} {s':StM} (hs:s'.mv=s.mv.set k v) (hj:j≠k) (h:XrA s j=some m):XrA s' j=some m:=by
 obtain ⟨i,rfl,_,a⟩:=XkF h;refine XkD ?_;rw [hs,List.getElem?_set_ne (by omega)]; exact a
theorem XdD (h:XjY c=true) {k n a:Int} (hk:0≤k∧k<c.classes.length) (hn:0≤n∧n<c.pages) (ha:0≤a∧a<XdH c k):XtL c ⟨k,n,a,none,0,[]⟩=true:=by
 unfold XtL;rw [if_neg (by simp only; omega)];simp only [Bool.and_eq_true,Xh1];exact ⟨⟨hk,hn⟩,ha⟩
theorem XlI (h:s.OkP c pd) {k n a:Int} (ho:Xox s.rm k n a ≠ -1):XtL c ⟨k,n,a,none,0,[]⟩=true∧0≤k∧k<c.classes.length:=by
 obtain ⟨j,x,rfl,g,_,_,b,d,e,f⟩:=Xoz h.rm ho;exact ⟨XdD h.may (by omega) ⟨b,d⟩ ⟨e,f⟩,by omega,by omega⟩
theorem XdG (h:XjY c=true) {k n a:Int} (hv:XtL c ⟨k,n,a,none,0,[]⟩=true) (hk:k ≠ -1):0≤XdC c k n a∧XdC c k n a+XeV c k≤c.size*c.pages∧8≤XeV c k∧XeV c k≤c.size:=by
 obtain ⟨j,pg,ix,e1,e2,e3,b,d,e,f,g,i,l,m⟩:=Xig h hv hk;unfold XdC XtH;rw [if_pos ⟨hv,hk⟩];simp only at e1 e2 e3
 subst e1;subst e2;subst e3;simp only
 omega
theorem StM.OkP.bytes (h:s.OkP c pd) {bs:List Int} (hl:bs.length=s.bs.length) (hb:InB bs) (n:Int):(XeA {s with bs:=bs} n).OkP c pd :=
 ⟨h.may,h.rm.charge n,h.kl,h.kr,by show (bs.length:Int)=_; rw [hl]; exact h.bl,hb,h.tl,h.ml,h.size,h.small,h.large,h.linj,h.mv,h.own,h.ps,h.pl⟩
theorem StM.OkP.tot (h:s.OkP c pd) (n:Int):(XeA s n).OkP c pd:=h.bytes (bs:=s.bs) rfl h.bi n
theorem XeX (h:s.OkP c pd) {o:Nat} {t:ThM} (ht:s.th[o]? = some (some t)) (hc:t.q.cls ≠ -1):XmF c.classes t.size ≠ -1:=fun e=>by
 obtain ⟨n,r,_,e2,_⟩:=h.large o t ht e;rw [e2] at hc;exact hc rfl
theorem XoU (M:RmM) (k who:Int):(XoP M k who).lg=M.lg:=by unfold XoP; split; rfl; split <;> rfl
theorem Xoq (M:RmM) (k n i:Int):(Xoo M k n i).lg=M.lg:=by unfold Xoo; split; rfl; split <;> rfl
theorem Xow (M:RmM) (k n i who:Int):(Xou M k n i who).lg=M.lg:=by unfold Xou; split <;> rfl
structure Xah (c:Conf) (s:StM) (k:Nat):Prop where
 plan:Xa3 s.rm k
 kl:k<c.classes.length
 nomv:XrA s (k:Nat)=none
 who:∃ (o:Nat),∃ t,Xox s.rm k (XoK s.rm k).1 (XoK s.rm k).2.1=o∧s.th[o]? = some (some t)∧t.q=⟨(k:Nat),(XoK s.rm k).1,(XoK s.rm k).2.1,[]⟩
 f:XtL c ⟨(k:Nat),(XoK s.rm k).1,(XoK s.rm k).2.1,none,0,[]⟩=true
 t:XtL c ⟨(k:Nat),(XoK s.rm k).2.2.1,(XoK s.rm k).2.2.2,none,0,[]⟩=true
theorem Xc7 (h:s.Ok c) {k:Nat} (hB:Xc9 s k=true):Xah c s k:=by
 unfold Xc9 at hB;simp only [Bool.and_eq_true] at hB;obtain ⟨⟨r,A⟩,u⟩:=hB;have P:=Xm7 h.rm u;have l:XrA s (k:Nat)=Option.none:=by simpa using r
 obtain ⟨f1,f2,B⟩:=XlI h P.own;have d:∃ (o:Nat),∃ t,Xox s.rm k (XoK s.rm k).1 (XoK s.rm k).2.1=o∧s.th[o]? = some (some t)∧t.q=⟨(k:Nat),(XoK s.rm k).1,(XoK s.rm k).2.1,[]⟩:=by
  rcases h.own _ _ _ P.own with ⟨o,t,f,i,b | ⟨m,b,_⟩⟩ | ⟨o,g⟩
  ·exact ⟨o,t,f,i,b⟩
  ·rw [l] at b; cases b
  ·cases g
 obtain ⟨o,t,f,i,b⟩:=d;refine ⟨P,by omega,l,⟨o,t,f,i,b⟩,f1,?_⟩;obtain ⟨p,C⟩:=XsO h.rm (P.e (o:Int) (by omega));rw [P.n _ (by omega),P.a _ (by omega)] at p;have q:=p k (XoK s.rm k).2.2.1 (XoK s.rm k).2.2.2;rw [if_pos ⟨rfl,rfl,rfl⟩] at q;obtain ⟨j,x,e,D,_,_,v,w,y,z⟩:=Xoz (h.rm.take k (o:Int)) (k:=k) (n:=(XoK s.rm k).2.2.1) (a:=(XoK s.rm k).2.2.2) (by rw [q]; omega);exact XdD h.may (by omega) ⟨v,w⟩ ⟨y,z⟩
theorem StM.OkP.begin (h:s.Ok c) (k:Nat):(Xro c s k).Ok c:=by
 unfold Xro;by_cases v:Xc9 s k=true
 ·rw [if_pos v];obtain ⟨P,F,G,⟨o,t,w,A,H⟩,I,J⟩:=Xc7 h v;rw [w];obtain ⟨i,B⟩:=XsO h.rm (P.e (o:Int) (by omega));rw [P.n _ (by omega),P.a _ (by omega)] at i B;obtain ⟨pf,fa,pt,ta⟩:True∧True∧True∧True:=⟨trivial,trivial,trivial,trivial⟩;have C:∀ (s':StM),s'.mv=s.mv.set k (some (XkR c s.rm k)) → ∀ j m,XrA s j=some m→XrA s' j=some m:=fun s' K j m b=>XkA K (fun e=>by rw [e,G] at b; cases b) b;have keep:∀ {j n a:Int},Xox s.rm j n a ≠ -1→Xox (XoP s.rm k o) j n a=Xox s.rm j n a:=fun u=>by
   rw [i,if_neg];rintro ⟨rfl,rfl,rfl⟩;exact u B
  refine ⟨h.may,h.rm.take _ _,h.kl,h.kr,h.bl,h.bi,h.tl,by show (s.mv.set _ _).length=_; rw [List.length_set]; exact h.ml,h.size,fun d f x y => ?_,fun d f x y => ?_,h.linj,fun j m b => ?_,fun j n a b => .inl ?_,(by rintro _ _ ⟨⟩),(by rintro _ _ ⟨⟩)⟩
  ·obtain ⟨l,p,q⟩:=h.small d f x y;exact ⟨l,p,(keep (by rw [q]; omega)).trans q⟩
  ·show ∃ n r,(n,r) ∈ (XoP s.rm k o).lg∧_
   rw [XoU];exact h.large d f x y
  ·rcases XpD b with ⟨rfl,e,_⟩ | ⟨u,b⟩
   ·have em:=Option.some.inj e;subst em;obtain ⟨L,R,S,T⟩:=XdG h.may I (by omega);obtain ⟨M,U,_,_⟩:=XdG h.may J (by omega);refine ⟨⟨o,t,w,A,H⟩,?_,fun e=>P.ne e.1,?_,?_,?_,?_⟩
    ·show Xox (XoP s.rm j o) j _ _=Xox s.rm j _ _
     rw [w,i,if_pos ⟨rfl,rfl,rfl⟩]
    ·show (((XdC c j _ _).toNat:Nat):Int)=_
     exact Int.toNat_of_nonneg L
    ·show (((XdC c j _ _).toNat:Nat):Int)=_
     exact Int.toNat_of_nonneg M
    ·show (((XeV c j).toNat:Nat):Int)=_
     exact Int.toNat_of_nonneg (by omega)
    ·show 0<(XeV c j).toNat
     omega
   ·obtain ⟨l,p,q⟩:=h.mv j m b;have N:=l;obtain ⟨d,f,O,_⟩:=l;exact ⟨N,(keep (by rw [p,O]; omega)).trans p,q⟩
  ·by_cases e:j=k∧n=(XoK s.rm k).2.2.1∧a=(XoK s.rm k).2.2.2
   ·obtain ⟨rfl,rfl,rfl⟩:=e;refine ⟨o,t,?_,A,.inr ⟨XkR c s.rm k,?_,rfl,rfl⟩⟩
    ·show Xox (XoP s.rm k o) k _ _=_
     rw [i,if_pos ⟨rfl,rfl,rfl⟩]
    ·refine XkD ?_;show (s.mv.set k _)[k]? = _
     rw [List.getElem?_set_self (by rw [h.ml]; exact F)]
   ·have e1:Xox (XoP s.rm k o) j n a=Xox s.rm j n a:=by rw [i,if_neg e]
    rw [e1] at b;show ∃ (d:Nat),∃ t,Xox (XoP s.rm k o) j n a=d∧_
    rw [e1];rcases h.own j n a b with ⟨d,f,D,E,z | ⟨m,z,Q⟩⟩ | ⟨_,g⟩
    ·exact ⟨d,f,D,E,.inl z⟩
    ·exact ⟨d,f,D,E,.inr ⟨m,C _ rfl j m z,Q⟩⟩
    ·cases g
 ·rw [if_neg v]; exact h
theorem XkB (h:s.OkP c pd) {k:Nat} {m:MvM} (hm:s.mv[k]? = some (some m)):m.f+m.size≤s.bs.length∧m.t+m.size≤s.bs.length∧0<m.size∧(m.f+m.size≤m.t∨m.t+m.size≤m.f):=by
 obtain ⟨⟨o,t,e1,e2,e3⟩,y,z,D,E,F,G⟩:=h.mv k m hm;have H:k<c.classes.length:=by have:=(List.getElem?_eq_some_iff.1 hm).1; have:=h.ml; omega
 have l:=h.small o t e2 (XeX h e2 (by rw [e3]; simp only; omega));rw [e3] at l;have d:=(XlI h (k:=(k:Nat)) (n:=m.pf) (a:=m.fa) (by rw [l.2.2]; omega)).1;have e:=(XlI h (k:=(k:Nat)) (n:=m.pt) (a:=m.ta) (by rw [y,e1]; omega)).1;have I:=XdG h.may d (by omega);have J:=XdG h.may e (by omega);have C:=h.bl;refine ⟨by omega,by omega,by omega,?_⟩;obtain ⟨A,f,g,B,q,r,K,L,M,N,O,P,Q,R⟩:=Xig h.may d (by simp only; omega);obtain ⟨b,i,j,f1,f2,u,S,T,U,V,W,g6,g7,g8⟩:=Xig h.may e (by simp only; omega);simp only at B q r f1 f2 u
 have v:A=k:=by omega
 have w:b=k:=by omega
 subst v;subst w;have x1:XdC c (b:Nat) m.pf m.fa=(f:Int)*c.size+(g:Int)*XeV c (b:Nat):=by unfold XdC XtH; rw [if_pos ⟨d,by simp only; omega⟩]; simp only; rw [q,r]
 have x2:XdC c (b:Nat) m.pt m.ta=(i:Int)*c.size+(j:Int)*XeV c (b:Nat):=by unfold XdC XtH; rw [if_pos ⟨e,by simp only; omega⟩]; simp only; rw [f2,u]
 have p:0≤c.size:=by have:=(Xj0 h.may).1; omega
 rcases Nat.lt_trichotomy f i with x | heq | hgt
 ·have:((f:Int)+1)*c.size≤i*c.size:=Int.mul_le_mul_of_nonneg_right (by omega) p;rw [Int.add_mul,Int.one_mul] at this;omega
 ·subst heq;rcases Nat.lt_trichotomy g j with x | heq | hgt
  ·have:((g:Int)+1)*XeV c (b:Nat)≤j*XeV c (b:Nat):=Int.mul_le_mul_of_nonneg_right (by omega) (by omega);rw [Int.add_mul,Int.one_mul] at this;omega
  ·exact absurd ⟨by omega,by omega⟩ z
  ·have:((j:Int)+1)*XeV c (b:Nat)≤g*XeV c (b:Nat):=Int.mul_le_mul_of_nonneg_right (by omega) (by omega);rw [Int.add_mul,Int.one_mul] at this;omega
 ·have:((i:Int)+1)*c.size≤f*c.size:=Int.mul_le_mul_of_nonneg_right (by omega) p;rw [Int.add_mul,Int.one_mul] at this;omega
theorem Xfe {bs:List Int} {t f n:Nat} (h:InB bs):InB (cpB bs t f n):=fun x hx=>by
 rcases Xuv hx with hx | hx
 ·exact h x hx
 ·unfold sub at hx;exact h x (List.mem_of_mem_drop (List.mem_of_mem_take hx))
theorem XgQ (m:MvM) (n:Int):goN m n≤m.size - m.gone:=by unfold goN XrQ; omega
theorem StM.OkP.step (h:s.OkP c pd) {k:Nat} {m:MvM} (hm:s.mv[k]? = some (some m)) (n:Int):(XrJ s m n).OkP c pd:=by
 obtain ⟨a,b,e,_⟩:=XkB h hm;have f:=XgQ m n;have d:=(h.mv k m hm).2.2.2.2.2.2;refine h.bytes ?_ ?_ _
 ·exact XrO (size:=m.size) (by omega) a b
 ·unfold XrN;split
  ·exact h.bi
  ·exact Xfe h.bi
theorem StM.OkP.go (h:s.Ok c) (k:Nat) (n:Int):(Xrw s k n).Ok c:=by
 unfold Xrw;cases M:XrA s (k:Nat) with
 |none=>exact h
 |some m =>
  obtain ⟨j,ej,p,hm⟩:=XkF M;obtain rfl:k=j:=by omega
  have C:=StM.OkP.step h hm n;obtain ⟨⟨o,t,e1,e2,e3⟩,N,P,a4,a5,a6,a7⟩:=h.mv k m hm;have Q:=p;simp only
  by_cases I:m.gone+goN m n<m.size
  ·rw [if_pos I];have R:∀ j m',XrA s j=some m' → ∃ J,XrA {XrJ s m n with mv:=s.mv.set k (some {m with gone:=m.gone+goN m n})} j=some J∧J.pt=m'.pt∧J.ta=m'.ta:=fun j m' p=>by
    by_cases e:j=k
    ·subst e;rw [M] at p;cases p
     refine ⟨{m with gone:=m.gone+goN m n},XkD ?_,rfl,rfl⟩;show (s.mv.set k _)[k]? = _
     rw [List.getElem?_set_self Q]
    ·exact ⟨m',XkA (s:=s) rfl e p,rfl,rfl⟩
   refine ⟨h.may,C.rm,h.kl,h.kr,C.bl,C.bi,h.tl,by show (s.mv.set _ _).length=_; rw [List.length_set]; exact h.ml,h.size,h.small,h.large,h.linj,fun j m' p => ?_,fun j n' a p => ?_,(by rintro _ _ ⟨⟩),(by rintro _ _ ⟨⟩)⟩
   ·rcases XpD p with ⟨rfl,e,_⟩ | ⟨u,p⟩
    ·have em:=Option.some.inj e;subst em;exact ⟨⟨o,t,e1,e2,e3⟩,N,P,a4,a5,a6,I⟩
    ·exact h.mv j m' p
   ·rcases h.own j n' a p with ⟨f,l,z,D,v | ⟨m',v,E,F⟩⟩ | ⟨_,g⟩
    ·exact .inl ⟨f,l,z,D,.inl v⟩
    ·obtain ⟨J,y,w,x⟩:=R j m' v;exact .inl ⟨f,l,z,D,.inr ⟨J,y,w.trans E,x.trans F⟩⟩
    ·cases g
  ·rw [if_neg I];have L:=XeX h e2 (by rw [e3]; simp only; omega);obtain ⟨O,s2,K⟩:=h.small o t e2 L;rw [e3] at O K;simp only at O K
   have S:∀ j n' a,Xox (XrJ s m n).rm j n' a=Xox s.rm j n' a:=fun _ _ _=>rfl;obtain ⟨G1,T⟩:=XgN C.rm (k:=(k:Nat)) (n:=m.pf) (i:=m.fa) (by rw [S,K]; omega);have keep:∀ {j n' a:Int},¬ (j=k∧n'=m.pf∧a=m.fa)→Xox (Xoo (XrJ s m n).rm k m.pf m.fa) j n' a=Xox s.rm j n' a:=fun u=>by rw [T,if_neg u]; rfl
   have U:m.who.toNat=o:=by omega
   have V:=(List.getElem?_eq_some_iff.1 e2).1;have W:XrH s m.who=t.size:=by unfold XrH; rw [e1,Xs8 e2]
   rw [U,W];have Xtr:∀ {f:Nat} {l:ThM},(s.th.set o (some ⟨t.size,⟨(k:Nat),m.pt,m.ta,[]⟩⟩))[f]? = some (some l)→(f=o∧l=⟨t.size,⟨(k:Nat),m.pt,m.ta,[]⟩⟩)∨(f≠o∧s.th[f]? = some (some l)):=fun h=>by
    rcases XpD h with ⟨a,b,_⟩ | hb
    ·exact .inl ⟨a,(Option.some.inj b).symm⟩
    ·exact .inr hb
   have Xth:∀ {f:Nat} {l:ThM},f≠o→s.th[f]? = some (some l)→(s.th.set o (some ⟨t.size,⟨(k:Nat),m.pt,m.ta,[]⟩⟩))[f]? = some (some l):=fun u h=>by rw [List.getElem?_set_ne (Ne.symm u)]; exact h
   have tnew:(s.th.set o (some ⟨t.size,⟨(k:Nat),m.pt,m.ta,[]⟩⟩))[o]? = some (some ⟨t.size,⟨(k:Nat),m.pt,m.ta,[]⟩⟩):=by rw [List.getElem?_set_self V]
   refine ⟨h.may,C.rm.give _ _ _,h.kl,h.kr,C.bl,C.bi,by show ((s.th.set _ _).length:Int)=_; rw [List.length_set]; exact h.tl,by show (s.mv.set _ _).length=_; rw [List.length_set]; exact h.ml,fun f l q => ?_,fun f l q A => ?_,fun f l q A => ?_,fun f G l t2 q A c1 H hp => ?_,fun j m' p => ?_,fun j n' a p => .inl ?_,(by rintro _ _ ⟨⟩),(by rintro _ _ ⟨⟩)⟩
   ·rcases Xtr q with ⟨rfl,rfl⟩ | ⟨_,q⟩
    ·exact h.size f t e2
    ·exact h.size f l q
   ·rcases Xtr q with ⟨rfl,rfl⟩ | ⟨u,q⟩
    ·refine ⟨O,rfl,?_⟩;refine (keep ?_).trans (N.trans e1);rintro ⟨_,y,w⟩;exact P ⟨y.symm,w.symm⟩
    ·obtain ⟨y,w,x⟩:=h.small f l q A;refine ⟨y,w,(keep ?_).trans x⟩;rintro ⟨d1,d2,d3⟩;rw [d1,d2,d3,K] at x;omega
   ·show ∃ n' r,(n',r) ∈ (Xoo (XrJ s m n).rm k m.pf m.fa).lg∧_
    rw [Xoq];rcases Xtr q with ⟨rfl,rfl⟩ | ⟨_,q⟩
    ·exact absurd A L
    ·exact h.large f l q A
   ·rcases Xtr q with ⟨rfl,rfl⟩ | ⟨_,q⟩
    ·exact absurd c1 (by simp only; omega)
    ·rcases Xtr A with ⟨rfl,rfl⟩ | ⟨_,A⟩
     ·exact absurd H (by simp only; omega)
     ·exact h.linj f G l t2 q A c1 H hp
   ·rcases XpD p with ⟨_,e,_⟩ | ⟨u,p⟩
    ·cases e
    ·obtain ⟨⟨f,l,y,w,x⟩,H,c3⟩:=h.mv j m' p;have B:f≠o:=fun e=>by
      subst e;rw [e2] at w;cases w
      rw [e3] at x;have:=congrArg PlcM.cls x;simp only at this
      omega
     refine ⟨⟨f,l,y,Xth B w,x⟩,(keep ?_).trans H,c3⟩;rintro ⟨d,_⟩;omega
   ·replace p:Xox (Xoo (XrJ s m n).rm k m.pf m.fa) j n' a ≠ -1:=p;have u:¬ (j=k∧n'=m.pf∧a=m.fa):=fun e=>by rw [T,if_pos e] at p; exact p rfl
    show ∃ (f:Nat),∃ l,Xox (Xoo (XrJ s m n).rm k m.pf m.fa) j n' a=f∧_
    rw [keep u] at p ⊢;rcases h.own j n' a p with ⟨f,l,z,D,v | ⟨m',v,E,F⟩⟩ | ⟨_,g⟩
    ·have B:f≠o:=fun e=>by
      subst e;rw [e2] at D;cases D
      rw [e3] at v;exact u ⟨(congrArg PlcM.cls v).symm,(congrArg PlcM.page v).symm,(congrArg PlcM.idx v).symm⟩
     exact ⟨f,l,z,Xth B D,.inl v⟩
    ·by_cases ek:j=k
     ·subst ek;rw [M] at v;cases v
      have:(f:Int)=o:=by rw [← z,← E,← F,N,e1]
      obtain rfl:f=o:=by omega
      exact ⟨f,_,z,tnew,.inl (by rw [E,F])⟩
     ·obtain ⟨i,ei,_,hi⟩:=XkF v;subst ei;obtain ⟨⟨G,t2,y,w,x⟩,H,_⟩:=h.mv i m' hi;have a8:G=f:=by
       have:(G:Int)=f:=by rw [← y,← H,E,F]; exact z
       omega
      subst a8;have B:G≠o:=fun e=>by
       subst e;rw [e2] at w;cases w
       rw [e3] at x;have:=congrArg PlcM.cls x;simp only at this
       omega
      exact ⟨G,l,z,Xth B D,.inr ⟨m',XkA (s:=s) rfl ek v,E,F⟩⟩
    ·cases g
theorem StM.OkP.finish (h:s.Ok c) (k:Int):(Xrt s k).Ok c:=by
 unfold Xrt;split
 ·exact h
 ·exact StM.OkP.go h _ _
end
section
variable {c:Conf} {s:StM} {pd:Option (Nat × PlcM)}
theorem XiD {q:Plc} {bs l:List Int} {i:Nat} (hb:InB bs) (hl:InB l):∀ k,InB (XiC c q bs i l k)
 |0=>hb
 |k+1=>fun x hx=>by
  unfold XiC at hx;rcases List.mem_or_eq_of_mem_set hx with hx | rfl
  ·exact XiD hb hl k x hx
  ·rw [List.getD_eq_getElem?_getD];cases hg:l[k]? with
   |none=>exact ⟨Int.le_refl _,by decide⟩
   |some y=>exact hl y (List.mem_of_getElem? hg)
theorem XuX (n:Nat):InB (XuW n):=fun x a=>by
 unfold XuW at a;rw [List.mem_replicate] at a;omega
theorem StM.OkP.put (h:s.OkP c pd) (q:PlcM) (i:Nat) {l:List Int} (hl:InB l):(XrB c s q i l).OkP c pd :=
 h.bytes (XiE _ _ _ _ _ _) (XiD h.bi hl _) _
theorem XoG {M:RmM} {who size:Int} (hw:0≤who) (hf:Xog c M size=0) (hp:XmF c.classes size ≠ -1):XoC c M who size=XoP M (XmF c.classes size) who∧XoE c M who size=⟨XmF c.classes size,XoS M (XmF c.classes size) who,XoQ M (XmF c.classes size) who,[]⟩∧XoD c M who size=XoR M (XmF c.classes size) who:=by
 refine ⟨?_,?_,?_⟩
 ·unfold XoC; rw [if_neg (by omega),if_neg (by omega),if_neg hp]
 ·unfold XoE; rw [if_neg (by omega),if_neg (by omega),if_neg hp]
 ·unfold XoD; rw [if_neg (by omega),if_neg (by omega),if_neg hp]
theorem XoF {M:RmM} {who size:Int} (hw:0≤who) (hf:Xog c M size=0) (hp:XmF c.classes size = -1):XoC c M who size=Xob M (Xb6 size c.size).toNat∧XoE c M who size=⟨-1,(M.pl.free.getD 0 0:Nat),0,XkJ (M.pl.free.take (Xb6 size c.size).toNat).tail⟩:=by
 refine ⟨?_,?_⟩
 ·unfold XoC; rw [if_neg (by omega),if_neg (by omega),if_pos hp]
 ·unfold XoE; rw [if_neg (by omega),if_neg (by omega),if_pos hp]
theorem Xf8 {size:Int} (hf:Xru c s size=0):(1≤size∧size≤c.most)∧(XsQ c s size=none→Xog c s.rm size=0):=by
 unfold Xru at hf;split at hf
 ·exact absurd hf (by decide)
 ·rename_i d
  refine ⟨by omega,fun a => ?_⟩;split at hf
  ·rename_i b
   unfold XsQ at a;cases hm:XrA s (XmF c.classes size) with
   |none=>rw [hm] at b; cases b
   |some m =>
    rw [hm] at a;simp only at a
    split at a
    ·cases a
    ·rename_i e
     obtain ⟨j,ej,_⟩:=XkF hm;unfold Xog;rw [if_neg d,if_neg];unfold Xos;rw [if_neg (by omega)];omega
  ·exact hf
theorem Xtr {l:List (Option ThM)} {o o1:Nat} {t t1:ThM} (h:(l.set o (some t))[o1]? = some (some t1)):(o1=o∧t1=t)∨(o1≠o∧l[o1]? = some (some t1)):=by
 rcases XpD h with ⟨a,b,_⟩ | hb
 ·exact .inl ⟨a,(Option.some.inj b).symm⟩
 ·exact .inr hb
theorem Xth {l:List (Option ThM)} {o o1:Nat} {v:Option ThM} {t1:ThM} (hne:o1≠o) (h:l[o1]? = some (some t1)):(l.set o v)[o1]? = some (some t1):=by rw [List.getElem?_set_ne (Ne.symm hne)]; exact h
theorem StM.OkP.over (h:s.OkP c pd) {o k:Nat} {size:Int} {m:MvM} (ho:s.th[o]? = some none) (hs:1≤size∧size≤c.most) (hk:XmF c.classes size=(k:Nat)) (hm:s.mv[k]? = some (some m)) (hpd:∀ o' q,pd=some (o',q)→o'=o) :
 StM.OkP c {s with mv:=s.mv.set k none,rm:=Xou s.rm k m.pt m.ta o,th:=s.th.set o (some ⟨size,⟨(k:Nat),m.pt,m.ta,[]⟩⟩)} pd:=by
 have M:=(List.getElem?_eq_some_iff.1 ho).1;obtain ⟨⟨D,U,e1,e2,e3⟩,N,V,_⟩:=h.mv k m hm;have a8:D≠o:=fun e=>by subst e; rw [ho] at e2; cases e2
 obtain ⟨W1,E⟩:=Xlz h.rm (k:=(k:Nat)) (n:=m.pt) (i:=m.ta) (who:=(o:Nat)) (by omega) (by rw [N,e1]; omega);have keep:∀ {j n a:Int},¬ (j=k∧n=m.pt∧a=m.ta)→Xox (Xou s.rm k m.pt m.ta o) j n a=Xox s.rm j n a:=fun v=>by rw [E,if_neg v]
 have W:=h.small D U e2 (XeX h e2 (by rw [e3]; simp only; omega));have other:∀ {l:Nat} {b:ThM},s.th[l]? = some (some b)→Xox s.rm b.q.cls b.q.page b.q.idx=l→b.q.pages = [] → ¬ (b.q.cls=k∧b.q.page=m.pt∧b.q.idx=m.ta):=fun {l b} f p z=>by
  rintro ⟨d1,F,G⟩;rw [d1,F,G,N,e1] at p;obtain rfl:D=l:=by omega
  rw [e2] at f;cases f
  rw [e3] at F G;exact V ⟨F,G⟩
 have O:∀ {j:Int} {m':MvM},XrA {s with mv:=s.mv.set k none,rm:=Xou s.rm k m.pt m.ta o,th:=s.th.set o (some ⟨size,⟨(k:Nat),m.pt,m.ta,[]⟩⟩)} j=some m'→j≠k∧XrA s j=some m':=fun hj=>by
  rcases XkE (s:=s) rfl hj with ⟨_,e⟩ | hj
  ·cases e
  ·exact hj
 refine ⟨h.may,h.rm.own _ _ _ _,h.kl,h.kr,h.bl,h.bi,by show ((s.th.set _ _).length:Int)=_; rw [List.length_set]; exact h.tl,by show (s.mv.set _ _).length=_; rw [List.length_set]; exact h.ml,fun l b f => ?_,fun l b f p => ?_,fun l b f p => ?_,fun l o3 b t3 f z w A hp => ?_,fun j m' hj => ?_,fun j n a hj => ?_,fun o' q H I => ?_,fun o' q H I => ?_⟩
 ·rcases Xtr f with ⟨rfl,rfl⟩ | ⟨_,f⟩
  ·exact hs
  ·exact h.size l b f
 ·rcases Xtr f with ⟨rfl,rfl⟩ | ⟨v,f⟩
  ·refine ⟨hk.symm,rfl,?_⟩;show Xox (Xou s.rm k m.pt m.ta l) k m.pt m.ta=l
   rw [E,if_pos ⟨rfl,rfl,rfl⟩]
  ·obtain ⟨J,t,B⟩:=h.small l b f p;exact ⟨J,t,(keep (other f B t)).trans B⟩
 ·show ∃ n' r,(n',r) ∈ (Xou s.rm k m.pt m.ta o).lg∧_
  rw [Xow];rcases Xtr f with ⟨rfl,rfl⟩ | ⟨_,f⟩
  ·rw [hk] at p; omega
  ·exact h.large l b f p
 ·rcases Xtr f with ⟨rfl,rfl⟩ | ⟨_,f⟩
  ·exact absurd w (by simp only; omega)
  ·rcases Xtr z with ⟨rfl,rfl⟩ | ⟨_,z⟩
   ·exact absurd A (by simp only; omega)
   ·exact h.linj l o3 b t3 f z w A hp
 ·rcases XpD hj with ⟨_,e,_⟩ | ⟨v,hj⟩
  ·cases e
  ·obtain ⟨⟨l,b,J,t,B⟩,c2,A⟩:=h.mv j m' hj;exact ⟨⟨l,b,J,Xth (fun e=>by subst e; rw [ho] at t; cases t) t,B⟩,(keep (fun d=>by have:=d.1; omega)).trans c2,A⟩
 ·replace hj:Xox (Xou s.rm k m.pt m.ta o) j n a ≠ -1:=hj;show (∃ (l:Nat),∃ b,Xox (Xou s.rm k m.pt m.ta o) j n a=l∧_)∨_
  by_cases e:j=k∧n=m.pt∧a=m.ta
  ·obtain ⟨rfl,rfl,rfl⟩:=e;exact .inl ⟨o,_,by rw [E,if_pos ⟨rfl,rfl,rfl⟩],List.getElem?_set_self M,.inl rfl⟩
  ·rw [keep e] at hj ⊢;rcases h.own j n a hj with ⟨l,b,P,u,x | ⟨m',x,Q,R⟩⟩ | g
   ·exact .inl ⟨l,b,P,Xth (fun e=>by subst e; rw [ho] at u; cases u) u,.inl x⟩
   ·have S:j≠k:=fun e2=>by
     subst e2;rw [XkD hm] at x;cases x
     exact e ⟨rfl,Q.symm,R.symm⟩
    exact .inl ⟨l,b,P,Xth (fun e=>by subst e; rw [ho] at u; cases u) u,.inr ⟨m',XkA (s:=s) rfl S x,Q,R⟩⟩
   ·exact .inr g
 ·obtain ⟨K,L,C,p4⟩:=h.ps o' q H I;have y:¬ (q.cls=k∧q.page=m.pt∧q.idx=m.ta):=fun e=>by
   refine C m ?_ ⟨e.2.1.symm,e.2.2.symm⟩;rw [e.1]; exact XkD hm
  refine ⟨K,(keep y).trans L,fun m' T=>C m' (O T).2,fun l b f => ?_⟩;rcases Xtr f with ⟨rfl,rfl⟩ | ⟨_,f⟩
  ·intro e;rw [← e] at y;exact y ⟨rfl,rfl,rfl⟩
  ·exact p4 l b f
 ·obtain ⟨n,r,K,L,C⟩:=h.pl o' q H I;refine ⟨n,r,by show (n,r) ∈ (Xou s.rm k m.pt m.ta o).lg; rw [Xow]; exact K,L,fun l b f w => ?_⟩;rcases Xtr f with ⟨rfl,rfl⟩ | ⟨_,f⟩
  ·exact absurd w (by simp only; omega)
  ·exact C l b f w
theorem StM.OkP.block (h:s.OkP c pd) {o k:Nat} {size:Int} (ho:s.th[o]? = some none) (hs:1≤size∧size≤c.most) (hk:XmF c.classes size=(k:Nat)) (hE:XoR s.rm k o=0) :
 StM.OkP c {s with rm:=XoP s.rm k o,th:=s.th.set o (some ⟨size,⟨(k:Nat),XoS s.rm k o,XoQ s.rm k o,[]⟩⟩)} pd:=by
 have F:=(List.getElem?_eq_some_iff.1 ho).1;obtain ⟨t,G⟩:=XsO h.rm hE;have keep:∀ {j n a:Int},Xox s.rm j n a ≠ -1→Xox (XoP s.rm k o) j n a=Xox s.rm j n a:=fun y=>by
  rw [t,if_neg];rintro ⟨rfl,rfl,rfl⟩;exact y G
 refine ⟨h.may,h.rm.take _ _,h.kl,h.kr,h.bl,h.bi,by show ((s.th.set _ _).length:Int)=_; rw [List.length_set]; exact h.tl,h.ml,fun d f b => ?_,fun d f b u => ?_,fun d f b u => ?_,fun d I f J b z m v K => ?_,fun j m' l => ?_,fun j n a l => ?_,fun o' q A B => ?_,fun o' q A B => ?_⟩
 ·rcases Xtr b with ⟨rfl,rfl⟩ | ⟨_,b⟩
  ·exact hs
  ·exact h.size d f b
 ·rcases Xtr b with ⟨rfl,rfl⟩ | ⟨y,b⟩
  ·refine ⟨hk.symm,rfl,?_⟩;show Xox (XoP s.rm k d) k _ _=d
   rw [t,if_pos ⟨rfl,rfl,rfl⟩]
  ·obtain ⟨w,p,x⟩:=h.small d f b u;exact ⟨w,p,(keep (by rw [x]; omega)).trans x⟩
 ·show ∃ n' r,(n',r) ∈ (XoP s.rm k o).lg∧_
  rw [XoU];rcases Xtr b with ⟨rfl,rfl⟩ | ⟨_,b⟩
  ·rw [hk] at u; omega
  ·exact h.large d f b u
 ·rcases Xtr b with ⟨rfl,rfl⟩ | ⟨_,b⟩
  ·exact absurd m (by simp only; omega)
  ·rcases Xtr z with ⟨rfl,rfl⟩ | ⟨_,z⟩
   ·exact absurd v (by simp only; omega)
   ·exact h.linj d I f J b z m v K
 ·obtain ⟨⟨d,f,w,p,x⟩,H,v⟩:=h.mv j m' l;exact ⟨⟨d,f,w,Xth (fun e=>by subst e; rw [ho] at p; cases p) p,x⟩,(keep (by rw [H,w]; omega)).trans H,v⟩
 ·replace l:Xox (XoP s.rm k o) j n a ≠ -1:=l;show (∃ (d:Nat),∃ f,Xox (XoP s.rm k o) j n a=d∧_)∨_
  by_cases e:j=k∧n=XoS s.rm k o∧a=XoQ s.rm k o
  ·obtain ⟨rfl,rfl,rfl⟩:=e;exact .inl ⟨o,_,by rw [t,if_pos ⟨rfl,rfl,rfl⟩],List.getElem?_set_self F,.inl rfl⟩
  ·have e1:Xox (XoP s.rm k o) j n a=Xox s.rm j n a:=by rw [t,if_neg e]
   rw [e1] at l ⊢;rcases h.own j n a l with ⟨d,f,L,C,M⟩ | g
   ·exact .inl ⟨d,f,L,Xth (fun e=>by subst e; rw [ho] at C; cases C) C,M⟩
   ·exact .inr g
 ·obtain ⟨D,i,E,N⟩:=h.ps o' q A B;refine ⟨D,(keep (by rw [i]; omega)).trans i,E,fun d f b => ?_⟩;rcases Xtr b with ⟨rfl,rfl⟩ | ⟨_,b⟩
  ·intro e;rw [← e] at i;simp only at i
   rw [G] at i;omega
  ·exact N d f b
 ·obtain ⟨n,r,D,i,E⟩:=h.pl o' q A B;refine ⟨n,r,by show (n,r) ∈ (XoP s.rm k o).lg; rw [XoU]; exact D,i,fun d f b m => ?_⟩;rcases Xtr b with ⟨rfl,rfl⟩ | ⟨_,b⟩
  ·exact absurd m (by simp only; omega)
  ·exact E d f b m
theorem StM.OkP.pages (h:s.OkP c pd) {o:Nat} {size:Int} (ho:s.th[o]? = some none) (hs:1≤size∧size≤c.most) (hf:Xog c s.rm size=0) (hp:XmF c.classes size = -1) :
 StM.OkP c {s with rm:=Xob s.rm (Xb6 size c.size).toNat,th:=s.th.set o (some ⟨size,⟨-1,(s.rm.pl.free.getD 0 0:Nat),0,XkJ (s.rm.pl.free.take (Xb6 size c.size).toNat).tail⟩⟩)} pd:=by
 have V:=(List.getElem?_eq_some_iff.1 ho).1;obtain ⟨f1,f2,_,_⟩:=Xf6 h.may hf hp;obtain ⟨many,B⟩:∃ many,many=(Xb6 size c.size).toNat:=⟨_,rfl⟩;have M:Xb6 size c.size=many:=by omega
 rw [← B] at f1 f2 ⊢;obtain ⟨m,u⟩:∃ m,m=s.rm.pl.free.getD 0 0:=⟨_,rfl⟩;obtain ⟨t,v⟩:∃ t,t=(s.rm.pl.free.take many).tail:=⟨_,rfl⟩;have F:m ∈ s.rm.pl.free:=by
  rw [u,List.getD_eq_getElem?_getD,List.getElem?_eq_getElem (show 0<s.rm.pl.free.length by omega)];exact List.getElem_mem _
 have i:∀ {n:Nat} {r:List Nat},(n,r) ∈ s.rm.lg→n≠m:=fun {n r} hm e=>by
  subst e;have b:=(h.rm.ok.lg n (Xj4 hm (List.mem_cons_self ..))).2;have w:=(h.rm.mok.good.free _ F).2;omega
 have D:(Xob s.rm many).lg=s.rm.lg ++ [(m,t)]:=by rw [u,v]; rfl
 have N:t.length+1=many:=by rw [v,List.length_tail,List.length_take]; omega
 rw [← u,← v];refine ⟨h.may,h.rm.big (by omega) f2,h.kl,h.kr,h.bl,h.bi,by show ((s.th.set _ _).length:Int)=_; rw [List.length_set]; exact h.tl,h.ml,fun f d b => ?_,fun f d b w => ?_,fun f d b w => ?_,fun f O d P b K x L k => ?_,fun j m' y => ?_,fun j n a y => ?_,fun o' q G z => ?_,fun o' q G z => ?_⟩
 ·rcases Xtr b with ⟨rfl,rfl⟩ | ⟨_,b⟩
  ·exact hs
  ·exact h.size f d b
 ·rcases Xtr b with ⟨rfl,rfl⟩ | ⟨E,b⟩
  ·exact absurd hp w
  ·exact h.small f d b w
 ·show ∃ n' r,(n',r) ∈ (Xob s.rm many).lg∧_
  rw [D];rcases Xtr b with ⟨rfl,rfl⟩ | ⟨_,b⟩
  ·exact ⟨m,t,by simp,rfl,by show ((t.length:Int)+1)=Xb6 size c.size; omega⟩
  ·obtain ⟨n',r,l,p⟩:=h.large f d b w;exact ⟨n',r,List.mem_append_left _ l,p⟩
 ·have page:∀ {f:Nat} {d:ThM},s.th[f]? = some (some d)→d.q.cls = -1→d.q.page≠(m:Int):=fun {f d} b x=>by
   have Q:=Decidable.byContradiction fun E=>by
    have:=(h.small f d b E).1;omega
   obtain ⟨n',r,l,p,_⟩:=h.large f d b Q;have:=i l;rw [p];simp only
   omega
  rcases Xtr b with ⟨e1,e2⟩ | ⟨_,l⟩
  ·rcases Xtr K with ⟨e3,_⟩ | ⟨_,A⟩
   ·exact e1.trans e3.symm
   ·rw [e2] at k;exact absurd k.symm (page A L)
  ·rcases Xtr K with ⟨e3,e4⟩ | ⟨_,A⟩
   ·rw [e4] at k;exact absurd k (page l x)
   ·exact h.linj f O d P l A x L k
 ·obtain ⟨⟨f,d,R,H,S⟩,T⟩:=h.mv j m' y;exact ⟨⟨f,d,R,Xth (fun e=>by subst e; rw [ho] at H; cases H) H,S⟩,T⟩
 ·replace y:Xox s.rm j n a ≠ -1:=y;rcases h.own j n a y with ⟨f,d,l,p,A⟩ | g
  ·exact .inl ⟨f,d,l,Xth (fun e=>by subst e; rw [ho] at p; cases p) p,A⟩
  ·exact .inr g
 ·obtain ⟨C,I,J,U⟩:=h.ps o' q G z;refine ⟨C,I,J,fun f d b => ?_⟩;rcases Xtr b with ⟨rfl,rfl⟩ | ⟨_,b⟩
  ·intro e;rw [← e] at z;exact z rfl
  ·exact U f d b
 ·obtain ⟨n,r,C,I,J⟩:=h.pl o' q G z;refine ⟨n,r,by show (n,r) ∈ (Xob s.rm many).lg; rw [D]; exact List.mem_append_left _ C,I,fun f d b x => ?_⟩;rcases Xtr b with ⟨rfl,rfl⟩ | ⟨_,b⟩
  ·have:=i C;simp only
   omega
  ·exact J f d b x
theorem StM.OkP.lay (h:s.OkP c pd) {o:Nat} {size:Int} (ho:s.th[o]? = some none) (hf:Xru c s size=0) (hpd:∀ o' q,pd=some (o',q)→o'=o):(Xrz c s o size).OkP c pd:=by
 obtain ⟨g,i⟩:=Xf8 hf;have base:StM.OkP c {XiH c s o size with th:=s.th.set o (some ⟨size,XiG c s o size⟩)} pd:=by
  cases a:XsQ c s size with
  |some m =>
   have e1:XiH c s o size=XeA {s with mv:=s.mv.set (XmF c.classes size).toNat none,rm:=Xou s.rm (XmF c.classes size) m.pt m.ta o} 3:=by unfold XiH; rw [a]
   have e2:XiG c s o size=⟨XmF c.classes size,m.pt,m.ta,[]⟩:=by unfold XiG; rw [a]
   unfold XsQ at a;cases hm:XrA s (XmF c.classes size) with
   |none=>rw [hm] at a; cases a
   |some m' =>
    rw [hm] at a;simp only at a
    split at a
    ·cases a
     obtain ⟨k,d,_,p⟩:=XkF hm;rw [e1,e2,d,Int.toNat_natCast];exact (h.over ho g d p hpd).tot 3
    ·cases a
  |none =>
   have e1:XiH c s o size={s with rm:=XoC c s.rm o size}:=by unfold XiH; rw [a]
   have e2:XiG c s o size=XoE c s.rm o size:=by unfold XiG; rw [a]
   have b:=i a;rw [e1,e2];by_cases f:XmF c.classes size = -1
   ·obtain ⟨j,l⟩:=XoF (c:=c) (who:=(o:Nat)) (by omega) b f;rw [j,l];exact h.pages ho g b f
   ·obtain ⟨j,l,r⟩:=XoG (c:=c) (who:=(o:Nat)) (by omega) b f;have n:=Xf9 (who:=(o:Nat)) h.rm.ok (by omega) b;rw [r] at n;obtain ⟨t,u⟩:=XmH f;obtain ⟨k,d⟩:=Int.eq_ofNat_of_zero_le t;rw [j,l];rw [d] at n ⊢;exact h.block ho g d n
 have e:Xrz c s o size=XrB c {XiH c s o size with th:=s.th.set o (some ⟨size,XiG c s o size⟩)} (XiG c s o size) 0 (XuW (XtI c (XiG c s o size).plc).toNat):=by
  unfold Xrz XrB XeA;rw [Int.toNat_natCast]
 rw [e];exact base.put _ _ (XuX _)
theorem Xof {M:RmM} {q:PlcM} (h:q.cls ≠ -1):Xoc M q=Xoo M q.cls q.page q.idx:=by unfold Xoc; rw [if_pos h]
theorem Xoe {M:RmM} (hok:M.Ok c) {n:Nat} {r:List Nat} (hm:(n,r) ∈ M.lg):Xoc M ⟨-1,(n:Nat),0,XkJ r⟩=Xor M n r:=by
 have a:XiV M.lg ((n:Nat):Int)=some r:=by
  cases b:XiV M.lg ((n:Nat):Int) with
  |none=>exact absurd rfl (XiX b _ hm)
  |some r' =>
   obtain ⟨k,e,d⟩:=XiY b;have:k=n:=by omega
   subst this;rw [Xir hok.nd d hm]
 unfold Xoc;rw [if_neg (by simp)];simp only
 rw [a]
 simp
theorem StM.OkP.dropped {o:Nat} {q:PlcM} (h:s.OkP c (some (o,q))):StM.Ok c {s with rm:=Xoc s.rm q}:=by
 by_cases p:q.cls = -1
 ·obtain ⟨n,r,u,v,w⟩:=h.pl o q rfl p;rw [v,Xoe h.rm.ok u];refine ⟨h.may,h.rm.gone u,h.kl,h.kr,h.bl,h.bi,h.tl,h.ml,h.size,h.small,fun d f l t => ?_,h.linj,h.mv,fun j n' a b => .inl ?_,(by rintro _ _ ⟨⟩),(by rintro _ _ ⟨⟩)⟩
  ·obtain ⟨n',r',H,x,I⟩:=h.large d f l t;refine ⟨n',r',?_,x,I⟩;show (n',r') ∈ XiS s.rm.lg n
   unfold XiS;refine List.mem_filter.2 ⟨H,?_⟩;have:=w d f l (by rw [x]);rw [x] at this;simp only at this
   simp only [bne_iff_ne,ne_eq];omega
  ·replace b:Xox s.rm j n' a ≠ -1:=b;rcases h.own j n' a b with g | ⟨o',g⟩
   ·exact g
   ·have e:=(Prod.mk.inj (Option.some.inj g)).2;have B:j = -1:=by rw [e] at p; exact p
    exact absurd (by rw [B]; unfold Xox; rw [Xoj (by omega)]) b
 ·obtain ⟨u,v,w,J⟩:=h.ps o q rfl p;rw [Xof p];obtain ⟨M,C⟩:=XgN h.rm (k:=q.cls) (n:=q.page) (i:=q.idx) (by rw [v]; omega);have keep:∀ {j n' a:Int},¬ (j=q.cls∧n'=q.page∧a=q.idx)→Xox (Xoo s.rm q.cls q.page q.idx) j n' a=Xox s.rm j n' a:=fun m=>by rw [C,if_neg m]
  refine ⟨h.may,h.rm.give _ _ _,h.kl,h.kr,h.bl,h.bi,h.tl,h.ml,h.size,fun d f l t => ?_,fun d f l t => ?_,h.linj,fun j m' b => ?_,fun j n' a b => .inl ?_,(by rintro _ _ ⟨⟩),(by rintro _ _ ⟨⟩)⟩
  ·obtain ⟨K,D,L⟩:=h.small d f l t;refine ⟨K,D,(keep ?_).trans L⟩;rintro ⟨y,z,A⟩;refine J d f l ?_;obtain ⟨sz,E,F,G,N⟩:=f;obtain ⟨O,P,Q,R⟩:=q;simp only at *
   rw [y,z,A,D,u]
  ·show ∃ n' r,(n',r) ∈ (Xoo s.rm q.cls q.page q.idx).lg∧_
   rw [Xoq];exact h.large d f l t
  ·obtain ⟨E,F,G⟩:=h.mv j m' b;refine ⟨E,(keep ?_).trans F,G⟩;rintro ⟨y,z,A⟩;exact w m' (by rw [← y]; exact XkD b) ⟨z,A⟩
  ·replace b:Xox (Xoo s.rm q.cls q.page q.idx) j n' a ≠ -1:=b;have m:¬ (j=q.cls∧n'=q.page∧a=q.idx):=fun e=>by rw [C,if_pos e] at b; exact b rfl
   show ∃ (d:Nat),∃ f,Xox (Xoo s.rm q.cls q.page q.idx) j n' a=d∧_
   rw [keep m] at b ⊢;rcases h.own j n' a b with g | ⟨o',g⟩
   ·exact g
   ·have e:=(Prod.mk.inj (Option.some.inj g)).2;exact absurd ⟨by rw [e],by rw [e],by rw [e]⟩ m
theorem StM.OkP.clear {o:Nat} {q:PlcM} (h:s.OkP c (some (o,q))):(Xrs c s q).Ok c:=by
 unfold Xrs;split
 ·exact h.dropped
 ·exact StM.OkP.go (StM.OkP.begin h.dropped _) _ _
theorem StM.OkP.away (h:s.Ok c) {o:Nat} {t:ThM} (ht:s.th[o]? = some (some t)) (hm:∀ (k:Nat) (m:MvM),s.mv[k]? = some (some m)→m.who≠(o:Nat)):StM.OkP c {s with th:=s.th.set o none} (some (o,t.q)):=by
 have f:∀ {b:Nat} {d:ThM},(s.th.set o none)[b]? = some (some d)→b≠o∧s.th[b]? = some (some d):=fun h1=>by
  rcases XpD h1 with ⟨_,e,_⟩ | h1
  ·cases e
  ·exact h1
 have p:∀ {k:Nat} {m:MvM},s.mv[k]? = some (some m) → ∀ {b:Nat},m.who=(b:Nat)→b≠o:=fun C b e1 e=>hm _ _ C (by rw [e1,e]);refine ⟨h.may,h.rm,h.kl,h.kr,h.bl,h.bi,by show ((s.th.set _ _).length:Int)=_; rw [List.length_set]; exact h.tl,h.ml,fun b d h1=>h.size b d (f h1).2,fun b d h1=>h.small b d (f h1).2,fun b d h1=>h.large b d (f h1).2,fun b D d F h1 L=>h.linj b D d F (f h1).2 (f L).2,fun k m C => ?_,fun j n a M => ?_,fun o' q G w => ?_,fun o' q G w => ?_⟩
 ·obtain ⟨⟨b,d,v,H,x⟩,y⟩:=h.mv k m C;exact ⟨⟨b,d,v,Xth (p C v) H,x⟩,y⟩
 ·rcases h.own j n a M with ⟨b,d,z,u,A | ⟨m,A,I,J⟩⟩ | ⟨_,g⟩
  ·by_cases e:b=o
   ·subst e;rw [ht] at u;cases u
    exact .inr ⟨b,by rw [A]⟩
   ·exact .inl ⟨b,d,z,Xth e u,.inl A⟩
  ·obtain ⟨i,ei,_,B⟩:=XkF A;subst ei;obtain ⟨⟨D,F,v,_⟩,y,_⟩:=h.mv i m B;have:(D:Int)=b:=by rw [← v,← y,I,J]; exact z
   have l:=p B v;exact .inl ⟨b,d,z,Xth (by omega) u,.inr ⟨m,A,I,J⟩⟩
  ·cases g
 ·obtain ⟨e1,e2⟩:=Prod.mk.inj (Option.some.inj G);subst e1;subst e2;obtain ⟨v,H,x⟩:=h.small o t ht (XeX h ht w);refine ⟨H,x,fun m K => ?_,fun b d h1 e => ?_⟩
  ·obtain ⟨i,ei,_,B⟩:=XkF K;rintro ⟨N,O⟩;obtain ⟨⟨D,F,E,_⟩,y,_⟩:=h.mv i m B;rw [N,O,← ei,x,E] at y;exact p B E (by omega)
  ·obtain ⟨l,h1⟩:=f h1;obtain ⟨_,_,P⟩:=h.small b d h1 (XeX h h1 (by rw [e]; exact w));rw [e,x] at P;omega
 ·obtain ⟨e1,e2⟩:=Prod.mk.inj (Option.some.inj G);subst e1;subst e2;have Q:=Decidable.byContradiction fun l=>by
   have h1:=(h.small o t ht l).1;rw [w] at h1;exact l h1.symm
  obtain ⟨n,r,z,u,_⟩:=h.large o t ht Q;refine ⟨n,r,z,u,fun b d h1 E e => ?_⟩;obtain ⟨l,h1⟩:=f h1;exact l (h.linj b o d t h1 ht E w (by rw [e,u]))
end
section
variable {c:Conf} {s:StM} {pd:Option (Nat × PlcM)}
theorem Xc8 (c:Conf) (s:StM) (k:Nat):(Xro c s k).th=s.th∧(Xro c s k).keep=s.keep∧(Xro c s k).bs=s.bs∧(Xro c s k).mv.length=s.mv.length:=by
 unfold Xro;split
 ·exact ⟨rfl,rfl,rfl,List.length_set⟩
 ·exact ⟨rfl,rfl,rfl,rfl⟩
theorem XgS (s:StM) (k:Nat) (n:Int):(Xrw s k n).keep=s.keep∧(Xrw s k n).th.length=s.th.length∧(Xrw s k n).mv.length=s.mv.length∧(Xrw s k n).rm.lg=s.rm.lg:=by
 unfold Xrw;split
 ·exact ⟨rfl,rfl,rfl,rfl⟩
 ·split
  ·exact ⟨rfl,rfl,List.length_set,rfl⟩
  ·exact ⟨rfl,List.length_set,List.length_set,Xoq _ _ _ _⟩
theorem XgT (h:s.Ok c) (k:Nat) (n:Int):(∀ (o:Nat) t,s.th[o]? = some (some t) → ∃ t',(Xrw s k n).th[o]? = some (some t')∧t'.size=t.size∧t'.q.cls=t.q.cls∧t'.q.pages=t.q.pages∧(t.q.cls≠(k:Nat)→t'=t))∧(∀ o:Nat,s.th[o]? = some none→(Xrw s k n).th[o]? = some none) ∧ ∀ j:Int,j≠k→XrA (Xrw s k n) j=XrA s j:=by
 unfold Xrw;cases q:XrA s (k:Nat) with
 |none=>exact ⟨fun o t i=>⟨t,i,rfl,rfl,rfl,fun _=>rfl⟩,fun _ h=>h,fun _ _=>rfl⟩
 |some m =>
  obtain ⟨j,ej,u,hm⟩:=XkF q;obtain rfl:k=j:=by omega
  have d:∀ {s':StM} {v:Option MvM},s'.mv=s.mv.set k v → ∀ j:Int,j≠k→XrA s' j=XrA s j:=fun {s' v} e j f=>by
   unfold XrA;split
   ·rename_i w
    rw [e,List.getD_eq_getElem?_getD,List.getD_eq_getElem?_getD,List.getElem?_set_ne (by omega)]
   ·rfl
  simp only
  split
  ·exact ⟨fun o t i=>⟨t,i,rfl,rfl,rfl,fun _=>rfl⟩,fun _ h=>h,d rfl⟩
  ·obtain ⟨⟨o,t,e1,e2,e3⟩,_⟩:=h.mv k m hm;have l:=(List.getElem?_eq_some_iff.1 e2).1;have p:XrH s m.who=t.size:=by unfold XrH; rw [e1,Xs8 e2]
   have g:m.who.toNat=o:=by omega
   refine ⟨fun b r a => ?_,fun b a => ?_,d rfl⟩
   ·show ∃ t',(s.th.set m.who.toNat _)[b]? = _∧_
    rw [g,p];by_cases e:b=o
    ·subst e;rw [e2] at a;cases a
     exact ⟨_,List.getElem?_set_self l,rfl,by rw [e3],by rw [e3],fun f=>absurd (by rw [e3]) f⟩
    ·exact ⟨r,Xth e a,rfl,rfl,rfl,fun _=>rfl⟩
   ·show (s.th.set m.who.toNat _)[b]? = _
    rw [g,List.getElem?_set_ne (fun e=>by subst e; rw [e2] at a; cases a)];exact a
theorem XgR (h:s.Ok c) {k:Nat} {m:MvM} (hm:s.mv[k]? = some (some m)) {n:Int} (hn:(m.size - m.gone:Nat)≤n):XrA (Xrw s k n) (k:Nat)=none:=by
 have a:=(List.getElem?_eq_some_iff.1 hm).1;have b:=(h.mv k m hm).2.2.2.2.2.2;unfold Xrw;rw [XkD hm];simp only
 have d:goN m n=m.size - m.gone:=by unfold goN XrQ; omega
 rw [if_neg (by omega)];unfold XrA;rw [if_pos (by omega)];show ((s.mv.set k none).getD _ none)=none
 rw [Int.toNat_natCast,List.getD_eq_getElem?_getD,List.getElem?_set_self a]; rfl
structure Xat (c:Conf) (s s':StM) (κ:Int):Prop where
 ok:s'.Ok c
 mv:XrA s' κ=none
 other:∀ j:Int,j≠κ→XrA s' j=XrA s j
 th:∀ (o:Nat) t,s.th[o]? = some (some t) → ∃ t',s'.th[o]? = some (some t')∧t'.size=t.size∧t'.q.cls=t.q.cls∧t'.q.pages=t.q.pages∧(t.q.cls≠κ→t'=t)
 no:∀ o:Nat,s.th[o]? = some none→s'.th[o]? = some none
 keep:s'.keep=s.keep∧s'.th.length=s.th.length∧s'.mv.length=s.mv.length∧s'.rm.lg=s.rm.lg
theorem Xf0 (h:s.Ok c) (κ:Int):Xat c s (Xrt s κ) κ:=by
 have a:=h.finish κ;unfold Xrt at a ⊢;cases hm:XrA s κ with
 |none=>exact ⟨h,hm,fun _ _=>rfl,fun o t d=>⟨t,d,rfl,rfl,rfl,fun _=>rfl⟩,fun _ h=>h,rfl,rfl,rfl,rfl⟩
 |some m =>
  rw [hm] at a;obtain ⟨k,rfl,i,b⟩:=XkF hm;simp only [Int.toNat_natCast] at a ⊢;obtain ⟨e,f,g⟩:=XgT h k (m.size:Nat);exact ⟨a,XgR h b (by omega),g,e,f,XgS s k _⟩
theorem XrC {o:Nat} {t:ThM} (h:s.th[o]? = some (some t)):stQ s (o:Nat)=t.q:=by unfold stQ; rw [Xs8 h]
theorem XrI {o:Nat} {t:ThM} (h:s.th[o]? = some (some t)):XrH s (o:Nat)=t.size:=by unfold XrH; rw [Xs8 h]
theorem Xf1 (h:s.Ok c) {o:Nat} {t:ThM} (ht:s.th[o]? = some (some t)):∃ t',(Xrt s t.q.cls).th[o]? = some (some t')∧t'.size=t.size∧t'.q.cls=t.q.cls∧t'.q.pages=t.q.pages∧(∀ (k:Nat) (m:MvM),(Xrt s t.q.cls).mv[k]? = some (some m)→m.who≠(o:Nat)):=by
 have F:=Xf0 h t.q.cls;obtain ⟨t',b,f,a,g,_⟩:=F.th o t ht;refine ⟨t',b,f,a,g,fun k m hm e => ?_⟩;obtain ⟨⟨i,l,n,d,j⟩,_⟩:=F.ok.mv k m hm;obtain rfl:i=o:=by omega
 rw [b] at d;cases d
 have:XrA (Xrt s t.q.cls) (k:Nat)=some m:=XkD hm;rw [j] at a;simp only at a
 rw [a,F.mv] at this;cases this
theorem XlD {o:Int} (h:XlC s o=0):∃ (j:Nat),∃ t,o=j∧s.th[j]? = some (some t):=by
 unfold XlC at h;split at h
 ·exact absurd h (by decide)
 ·cases a:XrK s o with
  |none=>rw [a] at h; exact absurd (show (9:Int)=0 from h) (by decide)
  |some t =>
   obtain ⟨j,e,_,b⟩:=Xs9 a;exact ⟨j,t,e,b⟩
theorem XlE {o:Int} (h1:XlC s o≠1) (h0:XlC s o≠0):∃ j:Nat,o=j∧j<s.th.length∧s.th[j]? = some none:=by
 unfold XlC at h1 h0;split at h1
 ·exact absurd rfl h1
 ·rename_i c
  rw [if_neg c] at h0;obtain ⟨j,rfl⟩:=Int.eq_ofNat_of_zero_le (show 0≤o by omega);have a:j<s.th.length:=by omega
  refine ⟨j,rfl,a,?_⟩;cases b:s.th[j] with
  |none=>rw [List.getElem?_eq_getElem a,b]
  |some t =>
   have:XrK s (j:Nat)=some t:=Xs8 (by rw [List.getElem?_eq_getElem a,b]);rw [this] at h0;exact absurd rfl h0
theorem Xca {o size:Int} (h:Xrn c s o size=0):∃ j:Nat,o=j∧j<s.th.length∧s.th[j]? = some none∧Xru c s size=0:=by
 unfold Xrn at h;split at h
 ·exact absurd h (by decide)
 ·rename_i e
  split at h
  ·exact absurd h (by decide)
  ·rename_i f
   obtain ⟨j,a,b,d⟩:=XlE e f;exact ⟨j,a,b,d,h⟩
theorem StM.OkP.alloc (h:s.Ok c) (o size:Int):(Xrm c s o size).Ok c:=by
 unfold Xrm;split
 ·rename_i a
  obtain ⟨j,rfl,_,b,d⟩:=Xca a;exact StM.OkP.lay h b d (by rintro _ _ ⟨⟩)
 ·exact h
theorem StM.OkP.free (h:s.Ok c) (o:Int):(Xrv c s o).Ok c:=by
 unfold Xrv;split
 ·exact h
 ·rename_i d
  obtain ⟨j,t,rfl,a⟩:=XlD (Decidable.not_not.1 d);rw [XrC a];obtain ⟨t',b,_,_,_,e⟩:=Xf1 h a;rw [XrC b,Int.toNat_natCast];exact ((Xf0 h t.q.cls).ok.away b e).clear
theorem StM.OkP.wrote (h:s.OkP c pd) (o:Int) (i n:Nat) (hi:∀ m,XrA s (stQ s o).cls=some m→i+n≤m.size):(XrM s o i n).OkP c pd:=by
 unfold XrM;split
 ·rename_i m hm
  split
  ·obtain ⟨k,_,_,a⟩:=XkF hm;obtain ⟨b,d,e,_⟩:=XkB h a;have:=hi m hm;refine h.bytes ?_ ?_ _
   ·unfold XuD;split
    ·rfl
    ·unfold XuE at *;exact Xff (by omega) (by omega)
   ·unfold XuD;split
    ·exact h.bi
    ·exact Xfe h.bi
  ·exact h
 ·exact h
theorem XeW (h:s.OkP c pd) {o:Nat} {t:ThM} (ht:s.th[o]? = some (some t)):t.q.cls=XmF c.classes t.size:=by
 by_cases a:XmF c.classes t.size = -1
 ·obtain ⟨n,r,_,e,_⟩:=h.large o t ht a;rw [e,a]
 ·exact (h.small o t ht a).1
theorem XmJ {zs:List Int} {n:Int} {k:Nat} (h:XmF zs n=(k:Nat)):n≤zs.getD k 0:=by
 unfold XmF at h;split at h
 ·omega
 ·unfold idx at h;split at h
  ·rename_i i a
   obtain ⟨b,c,_⟩:=List.findIdx?_eq_some_iff_getElem.1 a;obtain rfl:i=k:=by omega
   rw [List.getD_eq_getElem?_getD,List.getElem?_eq_getElem b];exact of_decide_eq_true c
  ·omega
theorem XhG (h:s.OkP c pd) {k:Nat} {m:MvM} (hm:s.mv[k]? = some (some m)) {o:Nat} {t:ThM} (ht:s.th[o]? = some (some t)) (hc:t.q.cls=(k:Nat)):t.size≤m.size:=by
 have a:=XeW h ht;have b:=(h.mv k m hm).2.2.2.2.2.1;rw [hc] at a;rw [b];unfold XeV;rw [Int.toNat_natCast];have d:XmF c.classes t.size ≠ -1:=by omega
 obtain ⟨_,e⟩:=XmH d;exact XmJ a.symm
theorem Xul {o i n:Int} (h:Xui s o i n=0):∃ (j:Nat),∃ t,o=j∧s.th[j]? = some (some t)∧0≤i∧0≤n∧i+n≤t.size:=by
 unfold Xui at h;by_cases a:XlC s o=0
 ·rw [if_neg (fun c=>c a)] at h;obtain ⟨j,t,rfl,b⟩:=XlD a;rw [XrI b] at h;split at h
  ·exact absurd h (by decide)
  ·exact ⟨j,t,rfl,b,by omega,by omega,by omega⟩
 ·rw [if_pos a] at h; exact absurd h a
theorem StM.OkP.read (h:s.Ok c) (o i n:Int):(XrD c s o i n).Ok c:=by
 unfold XrD;split
 ·exact h.tot _
 ·exact h
theorem StM.OkP.write (h:s.Ok c) (o i:Int) {l:List Int} (hl:InB l):(XrL c s o i l).Ok c:=by
 unfold XrL;split
 ·rename_i d
  obtain ⟨j,t,rfl,a,f,_,g⟩:=Xul d;refine (h.put _ _ hl).wrote _ _ _ fun m hm => ?_;have e:=XrC (s:=XrB c s (stQ s (j:Nat)) i.toNat l) a;rw [e] at hm;obtain ⟨k,ek,_,b⟩:=XkF hm;have:=XhG h (k:=k) (m:=m) b a ek;omega
 ·exact h
theorem StM.OkP.set (h:s.Ok c) (k keep:Int):(XrF s k keep).Ok c:=by
 unfold XrF;split
 ·rename_i a
  unfold XrG at a;split at a
  ·exact absurd a (by decide)
  ·refine ⟨h.may,h.rm,by show (s.keep.set _ _).length=_; rw [List.length_set]; exact h.kl,fun x b => ?_,h.bl,h.bi,h.tl,h.ml,h.size,h.small,h.large,h.linj,h.mv,h.own,h.ps,h.pl⟩;rcases List.mem_or_eq_of_mem_set b with b | rfl
   ·exact h.kr x b
   ·omega
 ·exact h
end
structure Ext (F:Nat→Prop) (w:World) (R:Rm) (z:Nat):Prop where
 f:¬ F z
 rb:R.rb≠z
 sb:R.sb≠z
 tb:1≠z
 ca:∀ off s,R.p.ca≠some ⟨z,off,s⟩
 ka:∀ off s,R.p.ka≠some ⟨z,off,s⟩
 lb:kd w z≠some (some 329)
 pg:kd w z≠some (some 325)
 int:kd w z=some (some 3)→R.X z
theorem Xbd.other {F S:Nat→Prop} {w w':World} {R:Rm} {M:RmM} (h:Xbd F w R M) (hc:Chg S w w') (hS:∀ z,S z→Ext F w R z):Xbd F w' R M:=by
 have r:=hc.size;have out:∀ {a:Option Addr} {l:List Int},Far F w a l→(∀ z,S z → ∀ off s,a≠some ⟨z,off,s⟩)→Far F w' a l:=fun {a l} g n=>⟨g.1.far (fun b off s e c=>n b c off s e) hc,g.2⟩;have pb:¬ S R.P.pb:=fun c=>(hS _ c).f (h.pf _ (.inl rfl));have ab:¬ S R.P.ab:=fun c=>(hS _ c).f (h.pf _ (.inr rfl));refine ⟨h.ok,hc.heap h.obj (fun c=>(hS _ c).rb rfl),out h.cls (fun z c=>(hS z c).ca),out h.kee (fun z c=>(hS z c).ka),h.may,fun b o => ?_,fun k i=>hc.cell (h.sl k i) (fun c=>(hS _ c).sb rfl),h.pool.chg hc pb ab,h.pf,?_,h.lg.chg hc (fun z c e => .inr ((hS z e).int c)) (fun c=>(hS _ c).f h.lf),h.lf,h.rf,h.sf,fun z c=>by have:=h.low z c; omega,h.tab.chg hc (fun c=>(hS _ c).tb rfl),h.tf,fun z c=>⟨by have:=(h.xl z c).1; omega,(h.xl z c).2⟩⟩
 ·obtain ⟨f,hm⟩:=h.met b o;exact ⟨f,hc.heap hm.1 (fun e=>(hS _ e).f f),hm.2⟩
 ·obtain ⟨G,a,e⟩:=h.sh;refine ⟨G,fun k x p => ?_,e⟩;obtain ⟨f,d,j⟩:=a k x p;have k:=d.at'.kds;have nf:∀ z,S z → ¬ XpG (R.S _) (G _) x.pg z:=fun z c q=>(hS z c).f (j z q).1;exact ⟨f,⟨d.ok,d.pos,d.of,d.at'.chg hc (fun z c=>⟨fun e=>nf z c (.inl e),fun e=>nf z c (.inr (.inl e)),fun e=>(hS z c).lb (e▸k.lb),fun e=>nf z c (.inr (.inr (.inl e)))⟩) (fun z c e m=>⟨fun e'=>(hS z c).pg (e'▸(d.at'.pages e m).kds.p),fun e'=>nf z c (.inr (.inr (.inr ⟨e,m,e'⟩)))⟩) (fun c=>(hS _ c).tb rfl),d.pool.chg hc (by rw [f]; exact pb) (by rw [f]; exact ab)⟩,j⟩
theorem Xbe.keep {F:Nat→Prop} {w w':World} {R:Rm} {M:RmM} (h:Xbe F w w' R M) {z:Nat} {o:Obj} (hz:w.heap[z]? = some o) (hf:¬ F z):∃ F',Xbd F' w' R M∧(∀ z,F' z→F z∨w.heap.size≤z)∧Chg F w w'∧w'.heap[z]? = some o ∧ ¬ F' z:=by
 obtain ⟨F',a,b,c⟩:=h;exact ⟨F',a,b,c,c.heap hz hf,fun h=>(b z h).elim hf (fun h=>by have:=XjD hz; omega)⟩
theorem Xsv {n off m:Nat} (h:off+m≤n):sub (XuW n) off m=List.replicate m 0:=by
 unfold sub XuW;rw [List.drop_replicate,List.take_replicate,Nat.min_eq_left (by omega)]
theorem XtV (v:Vw) (vb:Nat) (A:Ar) (V:ArV) (i m:Nat) (w:World) (hvb:Xns w vb v) (hv:w.heap[v.vb]? = some (.cells (vwL v).toArray 211 (0,0))) (hab:v.ab=A.ab) (hA:Xag w A V) (him:i+m≤V.bs.length) :
 Xan Tryz.prog 199 #[.int .i64 i,.int .i64 m,.pointer (some ⟨vb,0,none⟩)] w (fun _ w'=>Xag w' A {V.charge A m with bs:=wrB V.bs i (List.replicate m 0)}∧Chg (Xgg A) w w'):=by
 refine ζe Tryz.func199 Tryz.ntmps199 rfl (ζl hvb rfl (ζl hv rfl ?_));rw [hab];refine ζc rfl (Xcz A V i m 0 w hA him (by decide)) ?_;rintro _ c ⟨rfl,a,b⟩;exact ζa rfl (ζr Tryz.func199 rfl ⟨a,b⟩)
theorem XtU (v:Vw) (q:Plc) (at' n:Nat) (A:Ar) (V:ArV) (w:World) (hv:XbN w v) (hq:Xa4 w q) (hmb:v.mb=A.mb) (hab:v.ab=A.ab) (hck:Xeq v.c q at' n=0) (hfew:q.pages.length≤4096)
 (hPv:¬ Xgg A v.vb) (hPq:0<q.pages.length→XaX (Xgg A) q.pa) (hPc:0<v.c.classes.length→XaX (Xgg A) v.p.ca) (hPk:0<v.c.keep.length→XaX (Xgg A) v.p.ka) (hA:Xag w A V) (hlen:(V.bs.length:Int)=v.c.size*v.c.pages) :
 Xan Tryz.prog 131 #[vwV v,.agg (Xm9 q).toArray,.int .i64 at',.int .i64 n] w (fun u w'=>u = .int .i64 0∧Xag w' A (vsW q A V (Xl4 v.c q at' n) (XuW n) (Xl4 v.c q at' n).length)∧Chg (Xgg A) w w'):=by
 obtain ⟨ps,c⟩:∃ ps,ps=Xl4 v.c q at' n:=⟨_,rfl⟩;have f:∀ p ∈ ps,∃ i m:Nat,p=((i:Int),(m:Int))∧i+m≤V.bs.length:=fun p g=>by
  obtain ⟨i,m,W,h2⟩:=Xl6 hv.may hck hfew p (c▸g);exact ⟨i,m,W,by omega⟩
 have H:Xtm ps=n:=by rw [c]; exact Xl8 hv.may
 have K:(XuW n).length=n:=List.length_replicate;rw [← c];refine Xan.enter Tryz.func131 rfl Tryz.ntmps131 rfl rfl ?_;refine ζa rfl ?_;refine Xay.alloc hTT rfl ?_;intro vb w1 e1 L M a5;refine ζa rfl ?_;refine Xay.alloc hTT rfl ?_;intro qb j e2 l E a6;refine ζa rfl ?_;replace l:Xm8 j qb q:=l;have o:=M.trans E;have r:Xns j vb v:=E.heap' L;refine Xay.loadb hTT rfl r rfl rfl ?_;refine Xay.loads hTT rfl l rfl rfl ?_;have d:=foot_lt hA;have b:∀ z,XjO A z→Xgg A z:=fun z h => .inr h;have a7:=XjD hv.obj;have N:=XtW v q at' n 199 [.pointer (some ⟨vb,0,none⟩)] A (vsW q A V ps (XuW n))
  (fun k Y x=>(∀ z,Y z↔Xgg A z)∧Xns x vb v∧x.heap[v.vb]? = some (.cells (vwL v).toArray 211 (0,0))∧j.heap.size≤x.heap.size)
  (Xgg A) j (hv.grow o) (hq.grow o) hmb hck hfew
  (by rintro (h | h); exact hPv h; exact hPv (b _ h))
  (hq.rd.outNew hPq (fun z a=>by rcases a with h | h; exact .inl h; exact .inl (b _ h)))
  (hv.conf.classes.outNew hPc (fun z a=>by rcases a with h | h; exact .inl h; exact .inl (b _ h)))
  (hv.conf.keep.outNew hPk (fun z a=>by rcases a with h | h; exact .inl h; exact .inl (b _ h)))
  (by
   rintro k Y x ⟨e,s,t,B⟩ z a;have:=d z ((e z).1 a);omega)
  (by
   rintro k Y x y S ⟨e,s,t,B⟩ I hS;have no:∀ z,z<j.heap.size → ¬ XjO A z → ¬ S z:=fun z a hm h=>(hS z h).elim hm (fun h=>by omega);exact ⟨e,I.heap s (no _ (by omega) (fun h=>by have:=d _ (b _ h); omega)),I.heap t (no _ (by omega) (fun h=>hPv (b _ h))),Nat.le_trans B I.size⟩)
  (by
   rintro k Y x C O ⟨e,s,t,B⟩;rw [← c] at C;obtain ⟨i,m,g,P⟩:=f ps[k] (List.getElem_mem C);have F:(Xev q A (vsW q A V ps (XuW n) k)).bs=(vsW q A V ps (XuW n) k).bs:=Xew _ _ _;have J:(vsW q A V ps (XuW n) k).bs.length=V.bs.length:=Xt7 f (by rw [K]; exact H) (by omega);have G:=Xtq C;rw [g] at G;simp only [Int.toNat_natCast] at G;have hR:=XtV v vb A (Xev q A (vsW q A V ps (XuW n) k)) i m x s t hab O (by rw [F,J]; exact P);simp only [← c];rw [g];refine hR.mono fun _ y ⟨Q,D⟩ => ?_;rw [F] at Q;refine ⟨by rw [Xt8 C g,Xsv (by omega)]; exact Q,D.mono fun z _ a=>(e z).2 a,Y,⟨e,?_,?_,Nat.le_trans B D.size⟩,fun z a => .inl a⟩
   ·exact D.heap s (fun h=>by have:=d _ h; omega)
   ·exact D.heap t hPv)
  (hA.grow o) ⟨fun z=>Iff.rfl,r,o.heap' hv.obj,Nat.le_refl _⟩
 rw [← c] at N;refine ζc rfl (N) ?_;rintro _ w4 ⟨rfl,R,_,T⟩;refine ζa rfl ?_;have U:Chg (Xgg A) w w4:=(o.mono fun _ _ h=>h.elim).since T (fun z a h=>by rcases h with h | h; exact h; exact b _ h);exact Xay.ret1 hTT rfl Tryz.func131 rfl rfl ⟨rfl,R,U⟩
structure Sto where
 sb:Nat
 c:Conf
 p:Xal
 kb:Nat
 kc:Nat
 kr:List Value
 mb:Nat
 A:Ar
 R:Rm
 v:Vw
 tm:Nat
 vb:Nat
 vc:Nat
abbrev XrU (S:Sto):Value := .pointer (some ⟨S.sb,0,none⟩)
def XrT (S:Sto) (nk nm:Nat) (by':Int):List Value:=Xe5 S.c S.p ++ [.slice (some ⟨S.kb,0,none⟩) nk S.kc,.pointer (some ⟨S.mb,0,none⟩),.pointer (some ⟨S.A.ab,0,none⟩),rmV S.R,vwV S.v,.map (some S.tm),.slice (some ⟨S.vb,0,none⟩) nm S.vc,.int .i64 by']
def thL (size:Int) (q:Plc):List Value := .int .i64 size::Xm9 q
abbrev Mo:=List (Option (Nat × MvM))
def XkG:Option (Nat × MvM)→List Value
 |none => [.pointer none,.int .i64 0,.int .i64 0,.int .i64 0,.int .i64 0,.int .i64 0]
 |some (b,m) => [.pointer (some ⟨b,0,none⟩),.int .i64 m.who,.int .i64 m.pf,.int .i64 m.fa,.int .i64 m.pt,.int .i64 m.ta]
theorem XkH (x:Option (Nat × MvM)):(XkG x).length=6:=by cases x <;> rfl
def Xkk (mo:Mo):List (Option MvM):=mo.map fun x=>x.map (·.2)
abbrev arV (S:Sto) (s:StM):ArV:=⟨s.bs,s.rm.tot,S.R.lap⟩
abbrev Xku (b:Nat) (m:MvM):Mv:=⟨b,m.f,m.t,m.size⟩
def XaD (w:World) (a:Option Addr):Prop := ∀ b off s,a=some ⟨b,off,s⟩→kd w b=some (some 3)
theorem XaD.lt {w:World} {a:Option Addr} (h:XaD w a):ALt w a:=fun b off s e=>Xik (h b off s e)
theorem XaD.chg {S:Nat→Prop} {w w':World} {a:Option Addr} (h:XaD w a) (hc:Chg S w w') (hS:XaX S a):XaD w' a:=fun b off s e=>Xii hc (h b off s e) (hS b off s e)
theorem XaD.grow {w w':World} {a:Option Addr} (h:XaD w a) (hc:Chg XaW w w'):XaD w' a:=h.chg hc (fun _ _ _ _ h=>h)
def XbG (F:Nat→Prop) (w:World) (tm:Nat) (th:List (Option ThM)) (al:AL):Prop:=XaL w tm al∧(Xb1 al).Nodup ∧
 (∀ (o:Nat) t,th[o]? = some (some t) → ∃ q:Plc,Xnb q=t.q∧Xcb al o=some (.agg (thL t.size q).toArray)∧Xa4 w q∧XaX F q.pa∧XaD w q.pa) ∧ ∀ k:Int,(∀ (o:Nat) t,th[o]? = some (some t)→(o:Int)≠k)→Xcb al k=none
def XbF (F:Nat→Prop) (w:World) (tm:Nat) (th:List (Option ThM)):Prop := ∃ al,XbG F w tm th al
theorem XbF.far {F S:Nat→Prop} {w w':World} {tm:Nat} {th:List (Option ThM)} (h:XbF F w tm th) (hc:Chg S w w') (hS:∀ z,S z→F z) (hm:¬ S tm):XbF F w' tm th:=by
 obtain ⟨al,a,b,d,e⟩:=h;exact ⟨al,a.chg hc hm,b,fun o t g=>by
  obtain ⟨q,i,j,f,c,k⟩:=d o t g;exact ⟨q,i,j,⟨f.rd.far (c.mono hS) hc,f.len⟩,c,k.chg hc (c.mono hS)⟩,e⟩
theorem XbF.wide {F F':Nat→Prop} {w:World} {tm:Nat} {th:List (Option ThM)} (h:XbF F w tm th) (hF:∀ z,F' z→F z∨w.heap.size≤z):XbF F' w tm th:=by
 obtain ⟨al,a,b,d,e⟩:=h;exact ⟨al,a,b,fun o t f=>by
  obtain ⟨q,g,i,j,k,c⟩:=d o t f;exact ⟨q,g,i,j,fun b off s e l=>(hF b l).elim (k b off s e) (fun h=>by have:=Xik (c b off s e); omega),c⟩,e⟩
structure Xby (F Fr:Nat→Prop) (w:World) (S:Sto) (s:StM) (by':Int) (mo:Mo):Prop where
 obj:w.heap[S.sb]? = some (.cells (XrT S s.keep.length s.mv.length by').toArray 135 (0,0))
 kee:w.heap[S.kb]? = some (.cells (s.keep.map (Value.int .i64)++S.kr).toArray 3 (0,0))
 kcap:s.keep.length≤S.kc
 room:Xbd Fr w S.R s.rm
 ar:Xag w S.A (arV S s)
 vw:XbN w S.v
 th:XbF F w S.tm s.th
 mvs:w.heap[S.vb]? = some (.cells (fl XkG mo).toArray 190 (0,0))
 mvc:s.mv.length≤S.vc
 mom:Xkk mo=s.mv
 mob:∀ (k b:Nat) m,mo[k]? = some (some (b,m))→w.heap[b]? = some (.cells (Xkv S.A (Xku b m) m.gone).toArray 258 (0,0))∧F b ∧ ¬ Fr b
 mdj:∀ (j k b:Nat) m m',mo[j]? = some (some (b,m))→mo[k]? = some (some (b,m'))→j=k
 rc:S.R.c=S.c
 rp:S.R.p=S.p
 rmo:S.R.mo=some S.mb
 rX:S.R.X=fun z=>z=S.kb
 amb:S.A.mb=some S.mb
 vc:S.v.c=S.c
 vp:S.v.p=S.p
 vab:S.v.ab=S.A.ab
 vmb:S.v.mb=some S.mb
 f1:∀ z,Fr z→F z
 f2:F S.sb∧F S.kb∧F S.A.db∧F S.tm∧F S.vb
 nr:¬ Fr S.sb ∧ ¬ Fr S.kb ∧ ¬ Fr S.A.db ∧ ¬ Fr S.tm ∧ ¬ Fr S.vb
 nF:¬ F S.A.ab ∧ ¬ F S.A.mc ∧ ¬ F S.v.vb ∧ ¬ F S.R.rb ∧ ¬ F S.R.sb ∧ ¬ F 1
 ca:Far F w S.p.ca S.c.classes
 ka:Far F w S.p.ka S.c.keep
 low:∀ z,F z→z<w.heap.size
section
variable {F Fr:Nat→Prop} {w w':World} {S:Sto} {s:StM} {by':Int} {mo:Mo}
theorem Xby.lt (h:Xby F Fr w S s by' mo):S.sb<w.heap.size∧S.kb<w.heap.size∧S.A.db<w.heap.size∧S.tm<w.heap.size∧S.vb<w.heap.size :=
 ⟨h.low _ h.f2.1,h.low _ h.f2.2.1,h.low _ h.f2.2.2.1,h.low _ h.f2.2.2.2.1,h.low _ h.f2.2.2.2.2⟩
theorem XbF.kd (h:XbF F w S.tm s.th):kd w S.tm=some none:=by
 obtain ⟨al,a,_⟩:=h;exact Xil a
theorem Xby.mb (h:Xby F Fr w S s by' mo):F S.mb∧Fr S.mb∧XaO w S.mb s.rm.tot S.R.lap:=by
 obtain ⟨a,b⟩:=h.room.met _ h.rmo;exact ⟨h.f1 _ a,a,b⟩
theorem Xby.ext (h:Xby F Fr w S s by' mo) {z:Nat} {x:Option Nat} (hF:F z) (hn:¬ Fr z) (hk:kd w z=some x) (hx:∀ t,x=some t→t≠329∧t≠325∧t≠206∧(t=3→z=S.kb)):Ext Fr w S.R z:=by
 obtain ⟨j,k,m,c,d,f⟩:=h.nF;have hm:=Xj2 h.room.may;have far:∀ {a:Option Addr} {l:List Int},Far F w a l→0<l.length → ∀ off s,a≠some ⟨z,off,s⟩:=fun g i off s e=>g.2 i z off s e hF;have b:=h.rc;refine ⟨hn,fun e=>c (e▸hF),fun e=>d (e▸hF),fun e=>f (e▸hF),?_,?_,fun e => ?_,fun e => ?_,fun e => ?_⟩
 ·rw [h.rp]; exact far h.ca (by rw [b] at hm; have:=hm.n; omega)
 ·rw [h.rp]; exact far h.ka (by rw [b] at hm; have:=hm.keep; have:=hm.n; omega)
 ·rw [hk] at e; exact (hx _ (Option.some.inj e)).1 rfl
 ·rw [hk] at e; exact (hx _ (Option.some.inj e)).2.1 rfl
 ·rw [hk] at e;rw [h.rX];exact (hx _ (Option.some.inj e)).2.2.2 rfl
theorem Xby.ext' (h:Xby F Fr w S s by' mo) {z t:Nat} (hF:F z) (hn:¬ Fr z) (hk:kd w z=some (some t)) (ht:t≠329∧t≠325∧t≠206∧t≠3):Ext Fr w S.R z :=
 h.ext hF hn hk (fun t' e=>by cases e; exact ⟨ht.1,ht.2.1,ht.2.2.1,fun e=>absurd e ht.2.2.2⟩)
theorem Xby.extMap (h:Xby F Fr w S s by' mo):Ext Fr w S.R S.tm:=h.ext h.f2.2.2.2.1 h.nr.2.2.2.1 h.th.kd (fun t e=>by cases e)
theorem Xby.grow (h:Xby F Fr w S s by' mo) (hc:Chg XaW w w'):Xby F Fr w' S s by' mo :=
 {h with
  obj:=hc.heap' h.obj,kee:=hc.heap' h.kee,room:=h.room.grow hc,ar:=h.ar.grow hc,vw:=h.vw.grow hc,th:=h.th.far hc (fun _ h=>h.elim) id,mvs:=hc.heap' h.mvs,
  mob:=fun k b m hm=>by obtain ⟨a,d⟩:=h.mob k b m hm; exact ⟨hc.heap' a,d⟩,
  ca:=h.ca.chg hc (fun _ h=>h.elim),ka:=h.ka.chg hc (fun _ h=>h.elim),low:=fun z c=>by have:=h.low z c; have:=hc.size; omega}
structure Xas (F:Nat→Prop) (w:World) (S:Sto) (z:Nat):Prop where
 f:¬ F z
 e1:S.A.ab≠z∧S.A.mc≠z∧S.v.vb≠z∧S.R.rb≠z∧S.R.sb≠z∧1≠z
 ca:∀ off s,S.p.ca≠some ⟨z,off,s⟩
 ka:∀ off s,S.p.ka≠some ⟨z,off,s⟩
 kd:∃ t,kd w z=some (some t)∧t≠329∧t≠325∧t≠3
def XbH (S:Nat→Prop) (w:World) (tm:Nat):Prop := ∀ al,XaL w tm al → ∀ (k:Int) sz (q:Plc),Xcb al k=some (.agg (thL sz q).toArray)→XaX S q.pa
theorem Xby.other {T:Nat→Prop} (h:Xby F Fr w S s by' mo) (hc:Chg T w w') (hT:∀ z,T z→Xas F w S z) (ho:XbH T w S.tm):Xby F Fr w' S s by' mo:=by
 have nf:∀ {z:Nat},F z → ¬ T z:=fun i j=>(hT _ j).f i;have n:∀ z,T z→Ext Fr w S.R z:=fun z c=>by
  have e:=hT z c;obtain ⟨t,v,x,y,A⟩:=e.kd;have d:∀ {t':Nat},t≠t'→Go.Proofs.YtgddpaiandefgaaGreatDoor.kd w z≠some (some t'):=fun h e=>h (Option.some.inj (Option.some.inj (v.symm.trans e)));exact ⟨fun i=>e.f (h.f1 z i),e.e1.2.2.2.1,e.e1.2.2.2.2.1,e.e1.2.2.2.2.2,by rw [h.rp]; exact e.ca,by rw [h.rp]; exact e.ka,d x,d y,fun e=>absurd e (d A)⟩
 have far:∀ {a:Option Addr} {l:List Int},Far F w a l→(∀ z,T z → ∀ off s,a≠some ⟨z,off,s⟩)→Far F w' a l:=fun g B=>⟨g.1.far (fun b off s e c=>B b c off s e) hc,g.2⟩;have r:XbN w' S.v:=⟨hc.heap h.vw.obj (fun c=>(hT _ c).e1.2.2.1 rfl),by
  have:=h.vw.conf;rw [h.vc,h.vp] at this ⊢;exact ⟨this.classes.far (fun b off s e c=>(hT b c).ca off s e) hc,this.keep.far (fun b off s e c=>(hT b c).ka off s e) hc,this.lc,this.lk,this.size⟩,h.vw.may⟩
 refine {h with
  obj:=hc.heap h.obj (nf h.f2.1),kee:=hc.heap h.kee (nf h.f2.2.1),room:=h.room.other hc n,
  ar:=h.ar.chg hc (fun b hb c => ?_),vw:=r,th := ?_,mvs:=hc.heap h.mvs (nf h.f2.2.2.2.2),
  mob:=fun k b m hm=>by obtain ⟨a,d⟩:=h.mob k b m hm; exact ⟨hc.heap a (nf d.1),d⟩,
  ca:=far h.ca (fun z c=>(hT z c).ca),ka:=far h.ka (fun z c=>(hT z c).ka),low:=fun z c=>by have:=h.low z c; have:=hc.size; omega}
 ·rcases hb with rfl | rfl | rfl | hb
  ·exact (hT _ c).e1.1 rfl
  ·exact nf h.f2.2.2.1 c
  ·exact (hT _ c).e1.2.1 rfl
  ·rw [h.amb] at hb; cases hb; exact nf h.mb.1 c
 ·have f:=ho;obtain ⟨al,a,b,d,e⟩:=h.th;exact ⟨al,a.chg hc (nf h.f2.2.2.2.1),b,fun o t j=>by
   obtain ⟨q,C,p,u,D,E⟩:=d o t j;exact ⟨q,C,p,⟨u.rd.far (f al a _ _ _ p) hc,u.len⟩,D,E.chg hc (f al a _ _ _ p)⟩,e⟩
theorem Xby.own {T:Nat→Prop} (h:Xby F Fr w S s by' mo) (hc:Chg T w w') (hT:∀ z,T z→F z∧Ext Fr w S.R z) :
 Xbd Fr w' S.R s.rm∧XbN w' S.v∧(¬ T S.tm→XbF F w' S.tm s.th)∧(¬ T S.A.db→Xag w' S.A (arV S s))∧Far F w' S.p.ca S.c.classes∧Far F w' S.p.ka S.c.keep∧(∀ z,F z→z<w'.heap.size)∧XaO w' S.mb s.rm.tot S.R.lap:=by
 obtain ⟨d,e,f,j,k,l⟩:=h.nF;have c:¬ T S.mb:=fun a=>(hT _ a).2.f h.mb.2.1;refine ⟨h.room.other hc (fun z a=>(hT z a).2),⟨hc.heap h.vw.obj (fun a=>f (hT _ a).1),?_,h.vw.may⟩,fun hm=>h.th.far hc (fun z a=>(hT z a).1) hm,fun g=>h.ar.chg hc (fun b hb a => ?_),h.ca.chg hc (fun z a=>(hT z a).1),h.ka.chg hc (fun z a=>(hT z a).1),fun z a=>by have:=h.low z a; have:=hc.size; omega,h.mb.2.2.1 |> fun i=>⟨hc.heap i c,h.mb.2.2.2⟩⟩
 ·have:=h.vw.conf;rw [h.vc,h.vp] at this ⊢;exact ⟨(h.ca.chg hc (fun z a=>(hT z a).1)).1,(h.ka.chg hc (fun z a=>(hT z a).1)).1,this.lc,this.lk,this.size⟩
 ·rcases hb with rfl | rfl | rfl | hb
  ·exact d (hT _ a).1
  ·exact g a
  ·exact e (hT _ a).1
  ·rw [h.amb] at hb; cases hb; exact c a
end
theorem Xbd.charge2 {F T:Nat→Prop} {w w':World} {R:Rm} {M:RmM} (h:Xbd F w R M) {b:Nat} (hb:R.mo=some b) {t:Int} (hm:XaO w' b t R.lap) (hc:Chg T w w') (hT:∀ z,T z→z=b∨Ext F w R z):Xbd F w' R {M with tot:=t}:=by
 obtain ⟨f,p⟩:=h.met b hb;have kb:=Xim p;have kp:=h.pool.kds;have A:=hc.size;have no:∀ {z:Nat} {x:Option Nat},kd w z=some x→x≠some 197 → ¬ Ext F w R z → ¬ T z:=fun i j u hz=>by
  rcases hT _ hz with e | e
  ·subst e; rw [kb] at i; exact j (Option.some.inj i).symm
  ·exact u e
 have mf:∀ {z:Nat} {x:Option Nat},kd w z=some x→x≠some 197→F z → ¬ T z:=fun i j n=>no i j (fun e=>e.f n);have out:∀ {a:Option Addr} {l:List Int},Far F w a l→(∀ z,Ext F w R z → ∀ off s,a≠some ⟨z,off,s⟩)→Far F w' a l:=fun {a l} g v=>by
  refine ⟨?_,g.2⟩;by_cases y:0<l.length
  ·exact g.1.far (fun b' off s e hz=>by
    rcases hT _ hz with e' | e'
    ·subst e'; exact g.2 y b' off s e f
    ·exact v b' e' off s e) hc
  ·have:l = []:=List.eq_nil_of_length_eq_zero (by omega);subst this;exact Rd.nil _ _ _
 have rbn:¬ T R.rb:=fun hz=>(hT _ hz).elim (fun e=>h.rf (e▸f)) (fun e=>e.rb rfl);have sbn:¬ T R.sb:=fun hz=>(hT _ hz).elim (fun e=>h.sf (e▸f)) (fun e=>e.sb rfl);have tbn:¬ T 1:=fun hz=>(hT _ hz).elim (fun e=>h.tf (e▸f)) (fun e=>e.tb rfl);have pb:=mf kp.1 (by decide) (h.pf _ (.inl rfl));have ab:=mf kp.2 (by decide) (h.pf _ (.inr rfl));refine ⟨{h.ok with tot:=by have:=hm.2; show 0≤t∧t≤4611686018427387904; omega},hc.heap h.obj rbn,out h.cls (fun z e=>e.ca),out h.kee (fun z e=>e.ka),h.may,fun b' m => ?_,fun k i=>hc.cell (h.sl k i) sbn,h.pool.chg hc pb ab,h.pf,?_,h.lg.chg hc (fun z hz e=>(hT z e).elim (fun e => .inl (e▸f)) (fun e => .inr (e.int hz))) (mf (Xij h.lg) (by simp) h.lf),h.lf,h.rf,h.sf,fun z hz=>by have:=h.low z hz; omega,h.tab.chg hc tbn,h.tf,fun z hz=>⟨by have:=(h.xl z hz).1; omega,(h.xl z hz).2⟩⟩
 ·rw [hb] at m; cases m; exact ⟨f,hm⟩
 ·obtain ⟨G,a,d⟩:=h.sh;refine ⟨G,fun k x j => ?_,d⟩;obtain ⟨o,c,q⟩:=a k x j;have k:=c.at'.kds;have ap:=c.at'.apart kb (by decide);have nf:∀ z,Ext F w R z → ¬ XpG (R.S _) (G _) x.pg z:=fun z hz n=>hz.f (q z n).1;refine ⟨o,⟨c.ok,c.pos,c.of,c.at'.chg hc (fun z hz => ?_) (fun z hz => ?_) tbn,c.pool.chg hc (by rw [o]; exact pb) (by rw [o]; exact ab)⟩,q⟩
  ·rcases hT z hz with e | hz
   ·subst e; exact ap.1
   ·exact ⟨fun e=>nf z hz (.inl e),fun e=>nf z hz (.inr (.inl e)),fun e=>hz.lb (e▸k.lb),fun e=>nf z hz (.inr (.inr (.inl e)))⟩
  ·rcases hT z hz with e | hz
   ·subst e; exact ap.2
   ·exact fun e r=>⟨fun e'=>hz.pg (e'▸(c.at'.pages e r).kds.p),fun e'=>nf z hz (.inr (.inr (.inr ⟨e,r,e'⟩)))⟩
section
variable {F Fr:Nat→Prop} {w w':World} {S:Sto} {s:StM} {by':Int} {mo:Mo}
theorem XbG.put {tm:Nat} {th:List (Option ThM)} {al:AL} (h:XbG F w tm th al) {o:Nat} {size:Int} {q:Plc} {qm:PlcM} (hq:Xnb q=qm) (ho:o<th.length) (hm:XaL w' tm (Xcu al (o:Nat) (.agg (thL size q).toArray))) (hc:Chg (fun z=>z=tm) w w') (ht:F tm) (hp:Xa4 w q) (hF:XaX F q.pa) (hl:XaD w q.pa):XbF F w' tm (th.set o (some ⟨size,qm⟩)):=by
 obtain ⟨x,l,m,n⟩:=h;have up:∀ {q:Plc},Xa4 w q→XaX F q.pa→Xa4 w' q:=fun a b=>⟨a.rd.far (b.mono (S':=fun z=>z=tm) fun z e=>e▸ht) hc,a.len⟩;refine ⟨_,hm,Xk8 l _ _,fun d g c => ?_,fun k j => ?_⟩
 ·rcases Xtr c with ⟨rfl,rfl⟩ | ⟨v,c⟩
  ·exact ⟨q,hq,by rw [Xcg,if_pos rfl],up hp hF,hF,hl.chg hc (hF.mono (S':=fun z=>z=tm) fun z e=>e▸ht)⟩
  ·obtain ⟨p,r,s,t,i,u⟩:=m d g c;exact ⟨p,r,by rw [Xcg,if_neg (by omega)]; exact s,up t i,i,u.chg hc (i.mono (S':=fun z=>z=tm) fun z e=>e▸ht)⟩
 ·have f:=j o _ (List.getElem?_set_self ho);rw [Xcg,if_neg (fun e=>f e.symm)];refine n k fun d g c => ?_;by_cases e:d=o
  ·subst e; exact f
  ·exact j d g (Xth e c)
theorem XbG.del {tm:Nat} {th:List (Option ThM)} {al:AL} (h:XbG F w tm th al) {o:Nat} (hm:XaL w' tm (XbR al (o:Nat))) (hc:Chg (fun z=>z=tm) w w') (ht:F tm):XbF F w' tm (th.set o none):=by
 obtain ⟨s,c,i,j⟩:=h;refine ⟨_,hm,Xk6 c _,fun b d a => ?_,fun k l => ?_⟩
 ·rcases XpD a with ⟨_,e,_⟩ | ⟨r,a⟩
  ·cases e
  ·obtain ⟨m,n,p,g,f,q⟩:=i b d a;exact ⟨m,n,by rw [Xcd c,if_neg (by omega)]; exact p,⟨g.rd.far (f.mono (S':=fun z=>z=tm) fun z e=>e▸ht) hc,g.len⟩,f,q.chg hc (f.mono (S':=fun z=>z=tm) fun z e=>e▸ht)⟩
 ·rw [Xcd c];by_cases e:k=(o:Nat)
  ·rw [if_pos e]
  ·rw [if_neg e];refine j k fun b d a => ?_;by_cases e1:b=o
   ·subst e1; exact fun h=>e h.symm
   ·exact l b d (Xth e1 a)
theorem Xby.kds (h:Xby F Fr w S s by' mo):kd w S.sb=some (some 135)∧kd w S.kb=some (some 3)∧kd w S.A.db=some (some 5)∧kd w S.tm=some none∧kd w S.vb=some (some 190)∧kd w S.mb=some (some 197) :=
 ⟨Xih h.obj,Xih h.kee,Xih h.ar.dat,h.th.kd,Xih h.mvs,Xih h.mb.2.2.1⟩
theorem Xby.objAt {T:Nat→Prop} (h:Xby F Fr w S s by' mo) (hc:Chg T w w') (hT:∀ (k b:Nat) m,mo[k]? = some (some (b,m)) → ¬ T b):∀ (k b:Nat) m,mo[k]? = some (some (b,m))→w'.heap[b]? = some (.cells (Xkv S.A (Xku b m) m.gone).toArray 258 (0,0))∧F b ∧ ¬ Fr b:=fun k b m hm=>by
 obtain ⟨x,y⟩:=h.mob k b m hm;exact ⟨hc.heap x (hT k b m hm),y⟩
theorem Xby.kdm (h:Xby F Fr w S s by' mo) {k b:Nat} {m:MvM} (hm:mo[k]? = some (some (b,m))):kd w b=some (some 258):=Xih (h.mob k b m hm).1
theorem Xby.setBy (h:Xby F Fr w S s by' mo) {by2:Int} (hc:Chg (fun z=>z=S.sb) w w') (ho:w'.heap[S.sb]? = some (.cells (XrT S s.keep.length s.mv.length by2).toArray 135 (0,0))):Xby F Fr w' S s by2 mo:=by
 obtain ⟨a,c,d,f,g,r⟩:=h.kds;obtain ⟨i,j,l,n,o,p,q,_⟩:=h.own hc (fun z e=>⟨e▸h.f2.1,e▸h.ext' h.f2.1 h.nr.1 a (by decide)⟩);exact {h with obj:=ho,kee:=hc.heap h.kee (Xin c a (by decide)),room:=i,ar:=n (Xin d a (by decide)),vw:=j,th:=l (Xin f a (by simp)),mvs:=hc.heap h.mvs (Xin g a (by decide)),mob:=h.objAt hc (fun k b m hm=>Xin (h.kdm hm) a (by decide)),ca:=o,ka:=p,low:=q}
theorem Xby.setTh (h:Xby F Fr w S s by' mo) {th':List (Option ThM)} (hc:Chg (fun z=>z=S.tm) w w') (ht:XbF F w' S.tm th'):Xby F Fr w' S {s with th:=th'} by' mo:=by
 obtain ⟨c,d,f,a,g,q⟩:=h.kds;obtain ⟨i,j,r,l,n,o,p,_⟩:=h.own hc (fun z e=>⟨e▸h.f2.2.2.2.1,e▸h.extMap⟩);exact {h with obj:=hc.heap h.obj (Xin c a (by simp)),kee:=hc.heap h.kee (Xin d a (by simp)),room:=i,ar:=l (Xin f a (by simp)),vw:=j,th:=ht,mvs:=hc.heap h.mvs (Xin g a (by simp)),mob:=h.objAt hc (fun k b m hm=>Xin (h.kdm hm) a (by simp)),ca:=n,ka:=o,low:=p}
theorem Xkl (mo:Mo) (k:Nat) (x:Option (Nat × MvM)):Xkk (mo.set k x)=(Xkk mo).set k (x.map (·.2)):=by unfold Xkk; rw [List.map_set]
theorem Xkm {mo:Mo} {k j b:Nat} {m:MvM} {x:Option (Nat × MvM)} (h:(mo.set k x)[j]? = some (some (b,m))):(j=k∧x=some (b,m)∧k<mo.length)∨(j≠k∧mo[j]? = some (some (b,m))):=XpD h
theorem Xby.mol (h:Xby F Fr w S s by' mo):mo.length=s.mv.length:=by rw [← h.mom]; unfold Xkk; rw [List.length_map]
theorem Xby.setMv (h:Xby F Fr w S s by' mo) {k:Nat} {x:Option (Nat × MvM)} (hc:Chg (fun z=>z=S.vb) w w') (ho:w'.heap[S.vb]? = some (.cells (fl XkG (mo.set k x)).toArray 190 (0,0)))
 (hx:∀ b m,x=some (b,m)→w.heap[b]? = some (.cells (Xkv S.A (Xku b m) m.gone).toArray 258 (0,0))∧F b ∧ ¬ Fr b ∧ ∀ (j:Nat) m',mo[j]?≠some (some (b,m'))) :
 Xby F Fr w' S {s with mv:=s.mv.set k (x.map (·.2))} by' (mo.set k x):=by
 obtain ⟨l,n,o,p,a,D⟩:=h.kds;obtain ⟨q,r,t,u,v,y,A,_⟩:=h.own hc (fun z e=>⟨e▸h.f2.2.2.2.2,e▸h.ext' h.f2.2.2.2.2 h.nr.2.2.2.2 a (by decide)⟩);have f:(s.mv.set k (x.map (·.2))).length=s.mv.length:=List.length_set;refine {h with obj:=by show w'.heap[S.sb]? = some (.cells (XrT S s.keep.length (s.mv.set k (x.map (·.2))).length by').toArray _ _); rw [f]; exact hc.heap h.obj (Xin l a (by decide)),kee:=hc.heap h.kee (Xin n a (by decide)),room:=q,ar:=u (Xin o a (by decide)),vw:=r,th:=t (Xin p a (by simp)),mvs:=ho,mvc:=by show (s.mv.set k _).length≤_; rw [f]; exact h.mvc,mom:=by rw [Xkl,h.mom],mob:=fun j b m hm => ?_,mdj:=fun i j b m m' B g => ?_,ca:=v,ka:=y,low:=A}
 ·rcases Xkm hm with ⟨_,e,_⟩ | ⟨_,hm⟩
  ·obtain ⟨c,d,C,_⟩:=hx b m e;exact ⟨hc.heap c (Xin (Xih c) a (by decide)),d,C⟩
  ·obtain ⟨c,d⟩:=h.mob j b m hm;exact ⟨hc.heap c (Xin (Xih c) a (by decide)),d⟩
 ·rcases Xkm B with ⟨e1,e,_⟩ | ⟨_,gi⟩
  ·rcases Xkm g with ⟨e2,_,_⟩ | ⟨_,gj⟩
   ·exact e1.trans e2.symm
   ·exact absurd gj ((hx b m e).2.2.2 j m')
  ·rcases Xkm g with ⟨_,e,_⟩ | ⟨_,gj⟩
   ·exact absurd gi ((hx b m' e).2.2.2 i m)
   ·exact h.mdj i j b m m' gi gj
theorem Xby.adopt (h:Xby F Fr w S s by' mo) (hc:Chg XaW w w') {b:Nat} (hb:w.heap.size≤b) (hb':b<w'.heap.size):Xby (fun z=>F z∨z=b) Fr w' S s by' mo:=by
 have g:=h.grow hc;obtain ⟨f,i,j,l,n,o⟩:=h.nF;have d:∀ z,(F z∨z=b)→F z∨w.heap.size≤z:=fun z a=>a.elim .inl (fun e => .inr (by omega));have c:=h.room;have hm:=Xj2 c.may;have p:=XjD h.ar.obj;have q:=XjD h.ar.cap;have r:=XjD h.vw.obj;have t:=XjD c.obj;have u:S.R.sb<w.heap.size:=by have:=World.block_lt_of_cell? w _ (c.sl 0 (by have:=hm.n; have:=c.ok.n; omega)); exact this
 have v:1<w.heap.size:=by have:=World.block_lt_of_cell? w _ (c.tab 0 (by decide)); exact this
 exact {g with
  th:=((h.th.wide d).far hc (fun _ h=>h.elim) id),
  mob:=fun k b' m hm=>by obtain ⟨x,y,z⟩:=g.mob k b' m hm; exact ⟨x,.inl y,z⟩,
  f1:=fun z a => .inl (h.f1 z a),f2:=⟨.inl h.f2.1,.inl h.f2.2.1,.inl h.f2.2.2.1,.inl h.f2.2.2.2.1,.inl h.f2.2.2.2.2⟩,
  nF:=⟨fun a=>a.elim f (by omega),fun a=>a.elim i (by omega),fun a=>a.elim j (by omega),fun a=>a.elim l (by omega),fun a=>a.elim n (by omega),fun a=>a.elim o (by omega)⟩,
  ca:=(h.ca.grow d).chg hc (fun _ h=>h.elim),ka:=(h.ka.grow d).chg hc (fun _ h=>h.elim),low:=fun z a=>a.elim (g.low z) (by omega)}
theorem Xby.arena {T:Nat→Prop} (h:Xby F Fr w S s by' mo) {bs:List Int} {t:Int} {mo2:Mo} (hc:Chg T w w') (hT:∀ z,T z→z=S.A.db∨z=S.mb ∨ ∃ (k:Nat),∃ m,mo[k]? = some (some (z,m)))
 (hd:w'.heap[S.A.db]? = some (.cells (bs.map (Value.int .u8)).toArray 5 (0,0))) (hl:bs.length=s.bs.length) (hb:InB bs) (hm:XaO w' S.mb t S.R.lap)
 (hfl:fl XkG mo2=fl XkG mo) (hml:mo2.length=mo.length) (hmo:∀ (k b:Nat) m,mo2[k]? = some (some (b,m))→w'.heap[b]? = some (.cells (Xkv S.A (Xku b m) m.gone).toArray 258 (0,0)) ∧ ∃ m0,mo[k]? = some (some (b,m0))) :
 Xby F Fr w' S {s with bs:=bs,rm:={s.rm with tot:=t},mv:=Xkk mo2} by' mo2:=by
 obtain ⟨r,u,o,v,y,A⟩:=h.kds;obtain ⟨B,C,D,M,N,O⟩:=h.nF;have c:∀ z,T z→F z:=fun z a=>by
  rcases hT z a with e | e | ⟨k,m,e⟩
  ·exact e▸h.f2.2.2.1
  ·exact e▸h.mb.1
  ·exact (h.mob k z m e).2.1
 have kT:∀ {z:Nat} {x:Option Nat},kd w z=some x→x≠some 5→x≠some 197→x≠some 258 → ¬ T z:=fun d E G H a=>by
  rcases hT _ a with e | e | ⟨k,m,e⟩
  ·subst e; rw [o] at d; exact E (Option.some.inj d).symm
  ·subst e; rw [A] at d; exact G (Option.some.inj d).symm
  ·have:=h.kdm e; rw [this] at d; exact H (Option.some.inj d).symm
 have p:=h.room.charge2 h.rmo hm hc fun z a=>by
  rcases hT z a with e | e | ⟨k,m,e⟩
  ·exact .inr (e▸h.ext' h.f2.2.2.1 h.nr.2.2.1 o (by decide))
  ·exact .inl e
  ·obtain ⟨_,n,f⟩:=h.mob k z m e;exact .inr (h.ext' n f (h.kdm e) (by decide))
 have g:(Xkk mo2).length=s.mv.length:=by unfold Xkk; rw [List.length_map,hml,h.mol]
 refine {h with
  obj:=by show w'.heap[S.sb]? = some (.cells (XrT S s.keep.length (Xkk mo2).length by').toArray _ _); rw [g]; exact hc.heap h.obj (kT r (by decide) (by decide) (by decide)),
  kee:=hc.heap h.kee (kT u (by decide) (by decide) (by decide)),room:=p,ar := ?_,vw := ?_,th:=h.th.far hc c (kT v (by simp) (by simp) (by simp)),
  mvs:=by rw [hfl]; exact hc.heap h.mvs (kT y (by decide) (by decide) (by decide)),mvc:=by show (Xkk mo2).length≤_; rw [g]; exact h.mvc,mom:=rfl,
  mob:=fun k b m q=>by obtain ⟨n,m0,f⟩:=hmo k b m q; exact ⟨n,(h.mob k b m0 f).2⟩,
  mdj:=fun i j b m m' I J=>by obtain ⟨_,m0,f⟩:=hmo i b m I; obtain ⟨_,K,L⟩:=hmo j b m' J; exact h.mdj i j b m0 K f L,
  ca:=h.ca.chg hc c,ka:=h.ka.chg hc c,low:=fun z a=>by have:=h.low z a; have:=hc.size; omega}
 ·refine ⟨?_,hd,hc.heap h.ar.cap (fun a=>C (c _ a)),fun b l => ?_,by show bs.length≤_; rw [hl]; exact h.ar.len,hb⟩
  ·have:=hc.heap h.ar.obj (fun a=>B (c _ a));show w'.heap[S.A.ab]? = some (.cells #[.slice (some ⟨S.A.db,0,none⟩) bs.length bs.length,XtF S.A] _ _)
   rw [hl]; exact this
  ·rw [h.amb] at l; cases l; exact hm
 ·refine ⟨hc.heap h.vw.obj (fun a=>D (c _ a)),?_,h.vw.may⟩;have:=h.vw.conf;rw [h.vc,h.vp] at this ⊢;exact ⟨(h.ca.chg hc c).1,(h.ka.chg hc c).1,this.lc,this.lk,this.size⟩
theorem Xby.arena' (h:Xby F Fr w S s by' mo) {bs:List Int} {n:Int} (hc:Chg (Xgg S.A) w w') (ha:Xag w' S.A ⟨bs,Xek s.rm.tot n,S.R.lap⟩) (hl:bs.length=s.bs.length):Xby F Fr w' S (XeA {s with bs:=bs} n) by' mo:=by
 have:=h.arena (bs:=bs) (t:=Xek s.rm.tot n) (mo2:=mo) hc (fun z a=>a.elim .inl (fun e => .inr (.inl (by rw [h.amb] at e; exact (Option.some.inj e).symm)))) ha.dat hl ha.rng (ha.met _ h.amb) rfl rfl (fun k b m hm=>⟨?_,m,hm⟩)
 ·rw [h.mom] at this;exact this
 ·have kk:=h.kdm hm;obtain ⟨_,_,c,_,_,d⟩:=h.kds;refine hc.heap (h.mob k b m hm).1 ?_;rintro (e | e)
  ·exact Xin kk c (by decide) e
  ·rw [h.amb] at e; cases e; exact Xin kk d (by decide) rfl
theorem Xby.roomed {Fr':Nat→Prop} {M:RmM} (h:Xby F Fr w S s by' mo) (hr:Xbd Fr' w' S.R M) (hf:∀ z,Fr' z→Fr z∨w.heap.size≤z) (hc:Chg Fr w w'):Xby (fun z=>F z∨Fr' z) Fr' w' S {s with rm:=M} by' mo:=by
 obtain ⟨l,n,o,A,B,C⟩:=h.nF;obtain ⟨D,E,G,H,I⟩:=h.lt;obtain ⟨p,q,r,t,u⟩:=h.nr;have f:∀ z,(F z∨Fr' z)→F z∨w.heap.size≤z:=fun z a=>a.elim .inl (fun e=>(hf z e).imp (h.f1 z) id);have c:∀ {z:Nat},¬ Fr z→z<w.heap.size → ¬ Fr' z:=fun j J a=>(hf _ a).elim j (by omega);have nf:∀ {z:Nat},¬ F z→z<w.heap.size → ¬ (F z∨Fr' z):=fun j J a=>(f _ a).elim j (by omega);have d:=h.room;have hm:=Xj2 d.may;have K:=XjD h.ar.obj;have L:=XjD h.ar.cap;have N:=XjD h.vw.obj;have O:=XjD d.obj;have P:S.R.sb<w.heap.size:=by have:=World.block_lt_of_cell? w _ (d.sl 0 (by have:=hm.n; have:=d.ok.n; omega)); exact this
 have Q:1<w.heap.size:=by have:=World.block_lt_of_cell? w _ (d.tab 0 (by decide)); exact this
 have g:=(h.ca.grow f).chg hc (fun z a => .inl (h.f1 z a));have i:=(h.ka.grow f).chg hc (fun z a => .inl (h.f1 z a));exact {h with
  obj:=hc.heap h.obj p,kee:=hc.heap h.kee q,room:=hr,
  ar:=⟨hc.heap h.ar.obj (fun a=>l (h.f1 _ a)),hc.heap h.ar.dat r,hc.heap h.ar.cap (fun a=>n (h.f1 _ a)),fun b v=>by rw [h.amb] at v; cases v; exact (hr.met _ h.rmo).2,h.ar.len,h.ar.rng⟩,
  vw:=⟨hc.heap h.vw.obj (fun a=>o (h.f1 _ a)),by
   have:=h.vw.conf;rw [h.vc,h.vp] at this ⊢;exact ⟨g.1,i.1,this.lc,this.lk,this.size⟩,h.vw.may⟩,
  th:=(h.th.wide f).far hc (fun z a => .inl (h.f1 z a)) t,mvs:=hc.heap h.mvs u,
  mob:=fun k b m hm=>by obtain ⟨x,y,z⟩:=h.mob k b m hm; exact ⟨hc.heap x z,.inl y,c z (h.low b y)⟩,
  f1:=fun z a => .inr a,f2:=⟨.inl h.f2.1,.inl h.f2.2.1,.inl h.f2.2.2.1,.inl h.f2.2.2.2.1,.inl h.f2.2.2.2.2⟩,
  nr:=⟨c p D,c q E,c r G,c t H,c u I⟩,
  nF:=⟨nf l K,nf n L,nf o N,nf A O,nf B P,nf C Q⟩,ca:=g,ka:=i,
  low:=fun z a=>a.elim (fun a=>by have:=h.low z a; have:=hc.size; omega) (hr.low z)}
end
def Xbx (F:Nat→Prop) (w w':World) (S:Sto) (s:StM) (by':Int):Prop := ∃ F' Fr' mo',Xby F' Fr' w' S s by' mo'∧(∀ z,F' z→F z∨w.heap.size≤z)∧Chg F w w'
section
variable {F Fr:Nat→Prop} {w w' w'':World} {S:Sto} {s:StM} {by':Int} {mo:Mo}
theorem Xbx.of (h:Xby F Fr w' S s by' mo) (hc:Chg F w w'):Xbx F w w' S s by':=⟨F,Fr,mo,h,fun _ h => .inl h,hc⟩
theorem Xbx.trans {F1:Nat→Prop} (hF:∀ z,F1 z→F z∨w.heap.size≤z) (hc:Chg F w w') (h:Xbx F1 w' w'' S s by'):Xbx F w w'' S s by':=by
 obtain ⟨g,d,e,a,b,c⟩:=h;refine ⟨g,d,e,a,fun z f => ?_,hc.since c fun z f i => ?_⟩
 ·rcases b z f with h | h
  ·exact hF z h
  ·have:=hc.size; exact .inr (by omega)
 ·rcases hF z i with h | h
  ·exact h
  ·omega
end
theorem Xtk (c:Conf) (q:Plc) (bs:List Int) (at' m k:Nat):Xtj c q bs at' (m+k)=Xtj c q bs at' m++Xtj c q bs (at'+m) k:=by
 unfold Xtj;rw [List.range_add,List.map_append,List.map_map]
 congr 1
 apply List.map_congr_left
 intro i _;simp only [Function.comp];rw [Nat.add_assoc]
theorem Xsu {bs:List Int} {x m:Nat} (h:x+m≤bs.length):sub bs x m=(List.range m).map fun i=>bs.getD (x+i) 0:=by
 apply List.ext_getElem
 ·rw [Xst h]; simp
 ·intro i a b;rw [Xst h] at a;simp only [List.getElem_map,List.getElem_range];have e:(sub bs x m)[i]? = some (bs.getD (x+i) 0):=by
   unfold sub;rw [List.getElem?_take,if_pos a,List.getElem?_drop,List.getElem?_eq_getElem (show x+i<bs.length by omega),List.getD_eq_getElem?_getD,List.getElem?_eq_getElem (show x+i<bs.length by omega)];rfl
  exact Option.some.inj ((List.getElem?_eq_getElem _).symm.trans e)
theorem Xue {c:Conf} {q:Plc} {sz at' i:Nat} (hcl:q.cls = -1) (hsz:c.size=sz) (hi:at' % sz+i<sz):Xub c q (at'+i)=q.pages.getD (at' / sz) 0*c.size+((at' % sz:Nat):Int)+i:=by
 unfold Xub;rw [if_pos hcl,show c.size.toNat=sz from by omega];have a:(at'+i) / sz=at' / sz:=by
  have d:=Nat.div_add_mod at' sz;apply Nat.div_eq_of_lt_le
  ·rw [Nat.mul_comm]; omega
  ·rw [Nat.add_mul,Nat.one_mul,Nat.mul_comm]; omega
 have hm:(at'+i) % sz=at' % sz+i:=by
  have e:=Nat.div_add_mod at' sz;have b:=Nat.div_add_mod (at'+i) sz;rw [a] at b;omega
 rw [a,hm];omega
theorem XnL {c:Conf} {q:Plc} {bs:List Int} {sz:Nat} (hcl:q.cls = -1) (hsz:c.size=sz) (hp:1≤sz):∀ (n at':Nat),(∀ i,i<n→0≤Xub c q (at'+i)∧Xub c q (at'+i)<bs.length) →
 XnJ bs ((Xrf at' n sz).map fun s=>(q.pages.getD s.1 0*c.size+s.2.1,(s.2.2:Int)))=Xtj c q bs at' n:=by
 intro n
 induction n using Nat.strongRecOn with
 |_ n ih =>
  intro at' b;by_cases o:n=0
  ·subst o; rfl
  ·have d:=Xg7 (at':=at') hp (show 0<n by omega);have p:=Nat.mod_lt at' (show 0<sz by omega);rw [Xrg hp (by omega),List.map_cons];obtain ⟨m,hm⟩:∃ m,m=min n (sz - at' % sz):=⟨_,rfl⟩;have h:Xg6 at' n sz=(at' / sz,at' % sz,m):=by unfold Xg6; rw [hm]
   rw [h,← hm];rw [← hm] at d;have j:=b 0 (by omega);have a:=b (m - 1) (by omega);rw [Xue hcl hsz (by omega)] at j a;obtain ⟨x,e⟩:=Int.eq_ofNat_of_zero_le (show 0≤q.pages.getD (at' / sz) 0*c.size+((at' % sz:Nat):Int) by omega);rw [e] at a;have f:sub bs x m=Xtj c q bs at' m:=by
    rw [Xsu (by omega)];unfold Xtj;apply List.map_congr_left
    intro i k;rw [List.mem_range] at k;rw [Xue hcl hsz (by omega),e]
    congr 1
   have g:=ih (n - m) (by omega) (at'+m) (fun i k=>by rw [Nat.add_assoc]; exact b (m+i) (by omega));have l:n=m+(n - m):=by omega
   conv=>rhs; rw [l]
   rw [Xtk,← f,← g];unfold XnJ;rw [List.flatMap_cons];simp only
   rw [e];rfl
theorem XnM {c:Conf} {q:Plc} {bs:List Int} {at' n:Nat} (hm:XjY c=true) (hck:Xeq c q at' n=0) (hlen:(bs.length:Int)=c.size*c.pages):XnJ bs (Xl4 c q at' n)=Xtj c q bs at' n:=by
 obtain ⟨m,o,p⟩:=Xj0 hm;obtain ⟨e,_,_,l⟩:=Xeu hck;have d:∀ i,i<n→0≤Xub c q (at'+i)∧Xub c q (at'+i)<bs.length:=fun i r=>by
  have:=Xud (i:=at'+i) hm e (by omega);omega
 unfold Xl4;by_cases a:q.cls = -1
 ·rw [if_pos a];obtain ⟨sz,f⟩:=Int.eq_ofNat_of_zero_le (show 0≤c.size by omega);rw [show c.size.toNat=sz from by omega];exact XnL a f (by omega) n at' d
 ·rw [if_neg a];unfold XnJ;simp only [List.flatMap_cons,List.flatMap_nil,List.append_nil,Int.toNat_natCast];by_cases h:n=0
  ·subst h; simp [sub,Xtj]
  ·have j:=d 0 (by omega);have k:=d (n - 1) (by omega);have b:∀ i,Xub c q (at'+i)=XtH c q+at'+i:=fun i=>by unfold Xub; rw [if_neg a]; omega
   rw [b] at j k;obtain ⟨x,g⟩:=Int.eq_ofNat_of_zero_le (show 0≤XtH c q+(at':Int) by omega);rw [g,Int.toNat_natCast,Xsu (by omega)];unfold Xtj;apply List.map_congr_left
   intro i _;rw [b,g]
   congr 1
theorem Xrk {sz:Nat} (hp:1≤sz):∀ (n at' k:Nat) (h:k<(Xrf at' n sz).length),(Xrf at' n sz)[k].1*sz+(Xrf at' n sz)[k].2.1=at'+(((Xrf at' n sz).take k).map fun s=>s.2.2).sum:=by
 intro n
 induction n using Nat.strongRecOn with
 |_ n ih =>
  intro at' k h;by_cases b:n=0
  ·subst b; simp [Xri] at h
  ·have c:=Xg7 (at':=at') hp (show 0<n by omega);have e:=Nat.div_add_mod at' sz;have a:=Xrg (at':=at') hp (show 0<n by omega);cases k with
   |zero =>
    simp only [a,List.getElem_cons_zero,List.take_zero,List.map_nil,List.sum_nil];unfold Xg6;simp only
    rw [Nat.mul_comm]; omega
   |succ k =>
    have d:k<(Xrf (at'+min n (sz - at' % sz)) (n - min n (sz - at' % sz)) sz).length:=by rw [a] at h; simpa using h
    have:=ih _ (by omega) _ k d;simp only [a,List.getElem_cons_succ,List.take_succ_cons,List.map_cons,List.sum_cons];rw [this];unfold Xg6;simp only
    omega
theorem Xl1 {c:Conf} {q:Plc} {at' n k i m:Nat} (hm:XjY c=true) (hk:k<(Xl4 c q at' n).length) (hp:(Xl4 c q at' n)[k]=((i:Int),(m:Int))) :
 ∀ j,j<m→Xub c q (at'+(Xtm ((Xl4 c q at' n).take k)+j))=(i:Int)+j:=by
 obtain ⟨y,z,B⟩:=Xj0 hm;intro j C;by_cases b:q.cls = -1
 ·obtain ⟨sz,h⟩:=Int.eq_ofNat_of_zero_le (show 0≤c.size by omega);have a:Xl4 c q at' n=(Xrf at' n sz).map fun s=>(q.pages.getD s.1 0*c.size+s.2.1,(s.2.2:Int)):=by unfold Xl4; rw [if_pos b,show c.size.toNat=sz from by omega]
  have g:k<(Xrf at' n sz).length:=by rw [a,List.length_map] at hk; exact hk
  have e:=Xrk (sz:=sz) (by omega) n at' k g;obtain ⟨l,o,p,x⟩:=Xrc (page:=sz) (by omega) n at' _ (List.getElem_mem g);have r:Xtm ((Xl4 c q at' n).take k)=(((Xrf at' n sz).take k).map fun s=>s.2.2).sum:=by
   unfold Xtm;rw [a,← List.map_take,List.map_map];rfl
  have t:(q.pages.getD (Xrf at' n sz)[k].1 0*c.size+((Xrf at' n sz)[k].2.1:Int),((Xrf at' n sz)[k].2.2:Int))=((i:Int),(m:Int)):=by
   rw [← hp]; simp only [a,List.getElem_map]
  obtain ⟨e1,e2⟩:=Prod.mk.inj t;rw [r,← Nat.add_assoc,← e];obtain ⟨s,u⟩:∃ s,s=(Xrf at' n sz)[k]:=⟨_,rfl⟩;rw [← u] at e1 e2 l o p ⊢
  clear u e x
  obtain ⟨N,A,L⟩:=s;simp only at e1 e2 l o p ⊢
  have d:(N*sz+A) % sz=A:=by rw [Nat.mul_comm,Nat.mul_add_mod]; exact Nat.mod_eq_of_lt (by omega)
  have f:(N*sz+A) / sz=N:=by rw [Nat.mul_comm,Nat.mul_add_div (by omega),Nat.div_eq_of_lt (by omega)]; rfl
  rw [Xue b h (by rw [d]; omega),d,f];omega
 ·have a:Xl4 c q at' n = [(XtH c q+at',(n:Int))]:=by unfold Xl4; rw [if_neg b]
  have v:k=0:=by rw [a] at hk; simpa using hk
  subst v;have w:(XtH c q+(at':Int),(n:Int))=((i:Int),(m:Int)):=by rw [← hp]; simp only [a]; rfl
  obtain ⟨e1,e2⟩:=Prod.mk.inj w;unfold Xub;rw [if_neg b];simp only [List.take_zero,Xtm,List.map_nil,List.sum_nil];omega
theorem XiJ {c:Conf} {q:Plc} {bs l:List Int} {at' off i m:Nat} (him:i+m≤bs.length) (hol:off+m≤l.length) (hw:∀ j,j<m→Xub c q (at'+(off+j))=(i:Int)+j) :
 ∀ j,j≤m→XiC c q bs at' l (off+j)=XlU (XiC c q bs at' l off) i (sub l off m) j
 |0,_=>by rw [XlZ]; rfl
 |j+1,h=>by
  have a:(sub l off m).length=m:=Xst hol;have ih:=XiJ him hol hw j (by omega);have b:(sub l off m).getD j 0=l.getD (off+j) 0:=by
   rw [Xsu hol,List.getD_eq_getElem?_getD,List.getElem?_map,List.getElem?_range (by omega)]; rfl
  rw [← XlY (by rw [a,XiE]; exact him) (by rw [a]; omega),b,← ih];show (XiC c q bs at' l (off+j)).set (Xub c q (at'+(off+j))).toNat (l.getD (off+j) 0)=_
  rw [hw j (by omega)];rfl
theorem XuB {c:Conf} {q:Plc} {A:Ar} {V:ArV} {at':Nat} {l:List Int} (hm:XjY c=true) (hck:Xeq c q at' l.length=0) (hfew:q.pages.length≤4096) (hlen:(V.bs.length:Int)=c.size*c.pages) :
 ∀ k,k≤(Xl4 c q at' l.length).length→(vsW q A V (Xl4 c q at' l.length) l k).bs=XiC c q V.bs at' l (Xtm ((Xl4 c q at' l.length).take k))
 |0,_=>rfl
 |k+1,h=>by
  have a:k<(Xl4 c q at' l.length).length:=h;obtain ⟨i,m,b,n⟩:=Xl6 hm hck hfew _ (List.getElem_mem a);have ih:=XuB (A:=A) hm hck hfew hlen k (by omega);have j:Xtm (Xl4 c q at' l.length)=l.length:=Xl8 hm;have d:=Xtq a;rw [b] at d;simp only [Int.toNat_natCast] at d;have f:Xtm ((Xl4 c q at' l.length).take (k+1))=Xtm ((Xl4 c q at' l.length).take k)+m:=by
   rw [List.take_add_one,List.getElem?_eq_getElem a,b,Xtn]; simp [Xtm]
  have g:i+m≤V.bs.length:=by omega
  have e:Xtm ((Xl4 c q at' l.length).take k)+m≤l.length:=by omega
  rw [Xt8 a b,f,XiJ g e (Xl1 hm a b) m (Nat.le_refl _)];show wrB _ i (sub l _ m)=_
  rw [ih];have:=XlV (bs:=XiC c q V.bs at' l (Xtm ((Xl4 c q at' l.length).take k))) (l:=sub l (Xtm ((Xl4 c q at' l.length).take k)) m) (i:=i);rw [Xst e] at this;exact this.symm
theorem XuC {c:Conf} {q:Plc} {A:Ar} {V:ArV} {at':Nat} {l:List Int} (hm:XjY c=true) (hck:Xeq c q at' l.length=0) (hfew:q.pages.length≤4096) (hlen:(V.bs.length:Int)=c.size*c.pages) :
 (vsW q A V (Xl4 c q at' l.length) l (Xl4 c q at' l.length).length).bs=XiC c q V.bs at' l l.length:=by
 rw [XuB hm hck hfew hlen _ (Nat.le_refl _),List.take_length,Xl8 hm]
def Xdc (q:Plc) (k:Nat):Int:=if q.cls = -1 then (k:Int) else 0
theorem Xl5 {c:Conf} {q:Plc} {at' n:Nat} (hm:XjY c=true):((Xtm (Xl4 c q at' n):Nat):Int)+Xdc q (Xl4 c q at' n).length=Xeg c q at' n:=by
 rw [Xl8 hm];unfold Xdc Xeg Xl4;by_cases a:q.cls = -1
 ·rw [if_pos a,if_pos a,if_pos a,List.length_map]
 ·rw [if_neg a,if_neg a]
theorem Xeo {t a b:Int} (h:0≤t∧t≤4611686018427387904) (ha:0≤a) (hb:0≤b):Xek (Xek t a) b=Xek t (a+b):=by
 unfold Xek;split <;> split <;> split <;> omega
theorem Xel (t:Int):Xek t 0=t:=by unfold Xek; rw [if_pos (by omega)]
theorem Xej {V:ArV} {A:Ar} {b:Nat} {n:Int} (hb:A.mb=some b):(V.charge A n).total=Xek V.total n:=by unfold ArV.charge; rw [hb]
theorem Xex {q:Plc} {V:ArV} {A:Ar} {b:Nat} (hb:A.mb=some b):(Xev q A V).total=Xek V.total (Xdc q 1):=by
 unfold Xev Xdc;split
 ·exact Xej hb
 ·rw [Xel]
theorem Xey {q:Plc} {V:ArV} {A:Ar}:(Xev q A V).lap=V.lap:=by unfold Xev; split; exact V.charge_lap A _; rfl
theorem Xdd (q:Plc) (k:Nat):Xdc q (k+1)=Xdc q k+Xdc q 1∧0≤Xdc q k∧0≤Xdc q 1:=by unfold Xdc; split <;> omega
theorem Xtp {ps:List (Int × Int)} {k i m:Nat} (hk:k<ps.length) (hp:ps[k]=((i:Int),(m:Int))):Xtm (ps.take (k+1))=Xtm (ps.take k)+m:=by
 rw [List.take_add_one,List.getElem?_eq_getElem hk,hp,Xtn]; simp [Xtm]
theorem Xt4 {q:Plc} {A:Ar} {V:ArV} {ps:List (Int × Int)} {b:Nat} (hb:A.mb=some b) (hps:∀ p ∈ ps,∃ i m:Nat,p=((i:Int),(m:Int))) (hV:0≤V.total∧V.total≤4611686018427387904) :
 ∀ k,k≤ps.length→(vsT q A V ps k).total=Xek V.total (Xtm (ps.take k)+Xdc q k)∧(vsT q A V ps k).lap=V.lap
 |0,_=>by
  have e:((Xtm (ps.take 0):Nat):Int)+Xdc q 0=0:=by unfold Xdc; simp [Xtm]
  rw [e,Xel];exact ⟨rfl,rfl⟩
 |k+1,h=>by
  have a:k<ps.length:=h;obtain ⟨i,m,c⟩:=hps _ (List.getElem_mem a);obtain ⟨d,f⟩:=Xt4 (q:=q) hb hps hV k (by omega);obtain ⟨g,l,j⟩:=Xdd q k;rw [Xt5 a,c];simp only
  rw [ArV.charge_lap,Xey,Xej hb,Xex hb,d,Xeo hV (by omega) j,Xeo hV (by omega) (by omega),Xtp a c,g];exact ⟨by congr 1; omega,f⟩
theorem Xt6 {q:Plc} {A:Ar} {V:ArV} {ps:List (Int × Int)} {l:List Int} {b:Nat} (hb:A.mb=some b) (hps:∀ p ∈ ps,∃ i m:Nat,p=((i:Int),(m:Int))) (hV:0≤V.total∧V.total≤4611686018427387904) :
 ∀ k,k≤ps.length→(vsW q A V ps l k).total=Xek V.total (Xtm (ps.take k)+Xdc q k)∧(vsW q A V ps l k).lap=V.lap
 |0,_=>by
  have e:((Xtm (ps.take 0):Nat):Int)+Xdc q 0=0:=by unfold Xdc; simp [Xtm]
  rw [e,Xel];exact ⟨rfl,rfl⟩
 |k+1,h=>by
  have a:k<ps.length:=h;obtain ⟨i,m,c⟩:=hps _ (List.getElem_mem a);obtain ⟨d,f⟩:=Xt6 (q:=q) (l:=l) hb hps hV k (by omega);obtain ⟨g,n,j⟩:=Xdd q k;rw [Xt8 a c];show ((Xev q A (vsW q A V ps l k)).charge A m).total=_∧((Xev q A (vsW q A V ps l k)).charge A m).lap=_
  rw [ArV.charge_lap,Xey,Xej hb,Xex hb,d,Xeo hV (by omega) j,Xeo hV (by omega) (by omega),Xtp a c,g];exact ⟨by congr 1; omega,f⟩
theorem ArV.eq {V:ArV} {bs:List Int} {t l:Int} (h1:V.bs=bs) (h2:V.total=t) (h3:V.lap=l):V=⟨bs,t,l⟩:=by cases V; cases h1; cases h2; cases h3; rfl
theorem Xet {c:Conf} {q:Plc} {i n:Int} (hv:XtL c q=true) (hi:0≤i) (hn:0≤n) (h:i+n≤XtI c q):Xeq c q i n=0:=by
 unfold Xeq;rw [if_neg (by rw [hv]; decide),if_neg (by omega)]
section
variable {F Fr:Nat→Prop} {w w':World} {S:Sto} {s:StM} {by':Int} {mo:Mo} {pd:Option (Nat × PlcM)}
theorem Xby.footF (h:Xby F Fr w S s by' mo):∀ z,Xgg S.A z→F z:=fun z a=>by
 rcases a with e | e
 ·exact e▸h.f2.2.2.1
 ·rw [h.amb] at e; cases e; exact h.mb.1
theorem Xby.tot (h:Xby F Fr w S s by' mo):0≤s.rm.tot∧s.rm.tot≤4611686018427387904:=h.room.ok.tot
theorem Xby.vwf (h:Xby F Fr w S s by' mo):¬ Xgg S.A S.v.vb∧(0<S.v.c.classes.length→XaX (Xgg S.A) S.v.p.ca)∧(0<S.v.c.keep.length→XaX (Xgg S.A) S.v.p.ka):=by
 refine ⟨fun b=>h.nF.2.2.1 (h.footF _ b),fun a => ?_,fun a => ?_⟩
 ·rw [h.vc] at a; rw [h.vp]; exact (h.ca.2 a).mono h.footF
 ·rw [h.vc] at a; rw [h.vp]; exact (h.ka.2 a).mono h.footF
theorem Xl7 {c:Conf} {q:Plc} {i n:Nat} (hm:XjY c=true) (hck:Xeq c q i n=0) (hfew:q.pages.length≤4096):∀ p ∈ Xl4 c q i n,∃ a b:Nat,p=((a:Int),(b:Int)):=fun p d=>by
 obtain ⟨a,b,e,_⟩:=Xl6 hm hck hfew p d;exact ⟨a,b,e⟩
theorem XrW (h:Xby F Fr w S s by' mo) (hm:XjY S.c=true) (hbl:(s.bs.length:Int)=S.c.size*S.c.pages) (q:Plc) (i:Nat) (a:Option Addr) (cap:Nat) (l:List Int) (hq:Xa4 w q) (hF:XaX F q.pa) (hck:Xeq S.c q i l.length=0) (hfew:q.pages.length≤4096) (hr:Rd .u8 w a l) (hlc:l.length≤cap) (hin:InB l) (hout:0<l.length→XaX F a) :
 Xan Tryz.prog 128 #[vwV S.v,.agg (Xm9 q).toArray,.int .i64 i,.slice a l.length cap] w (fun u w'=>u = .int .i64 0∧Xby F Fr w' S (XrB S.c s (Xnb q) i l) by' mo∧Chg F w w'):=by
 obtain ⟨f,g,j⟩:=h.vwf;have ec:=h.vc;refine (XtS S.v q i a cap l S.A (arV S s) w h.vw hq (h.vmb.trans h.amb.symm) h.vab (by rw [ec]; exact hck) hfew f (fun _=>hF.mono h.footF) g j h.ar (by rw [ec]; exact hbl) hr hlc hin (fun k=>(hout k).mono h.footF)).mono fun u w' ⟨e,b,c⟩=>⟨e,?_,c.mono fun z _ m=>h.footF z m⟩;rw [ec] at b;obtain ⟨d,o⟩:=Xt6 (q:=q) (V:=arV S s) (l:=l) h.amb (Xl7 hm hck hfew) h.tot _ (Nat.le_refl _);rw [List.take_length,Xl5 hm] at d;have e1:=ArV.eq (XuC (A:=S.A) (V:=arV S s) hm hck hfew hbl) d o;rw [e1,XiF,Xeh] at b;exact h.arena' (bs:=XiC S.c (Xnb q).plc s.bs i l l.length) (n:=Xeg S.c (Xnb q).plc i l.length) c b (XiE _ _ _ _ _ _)
theorem XuY (n:Nat):(XuW n).length=n:=by unfold XuW; rw [List.length_replicate]
theorem XrX (h:Xby F Fr w S s by' mo) (hm:XjY S.c=true) (hbl:(s.bs.length:Int)=S.c.size*S.c.pages) (q:Plc) (i n:Nat) (hq:Xa4 w q) (hF:XaX F q.pa) (hck:Xeq S.c q i n=0) (hfew:q.pages.length≤4096) :
 Xan Tryz.prog 131 #[vwV S.v,.agg (Xm9 q).toArray,.int .i64 i,.int .i64 n] w (fun u w'=>u = .int .i64 0∧Xby F Fr w' S (XrB S.c s (Xnb q) i (XuW n)) by' mo∧Chg F w w'):=by
 obtain ⟨g,j,k⟩:=h.vwf;have ec:=h.vc;have a:=XuY n;refine (XtU S.v q i n S.A (arV S s) w h.vw hq (h.vmb.trans h.amb.symm) h.vab (by rw [ec]; exact hck) hfew g (fun _=>hF.mono h.footF) j k h.ar (by rw [ec]; exact hbl)).mono fun u w' ⟨e,b,c⟩=>⟨e,?_,c.mono fun z _ a=>h.footF z a⟩;rw [ec] at b;obtain ⟨d,m⟩:=Xt6 (q:=q) (V:=arV S s) (l:=XuW n) h.amb (Xl7 hm hck hfew) h.tot _ (Nat.le_refl _);rw [List.take_length,Xl5 hm] at d;have f:=XuC (A:=S.A) (V:=arV S s) (l:=XuW n) (q:=q) (at':=i) hm (by rw [a]; exact hck) hfew hbl;rw [a] at f;have e1:=ArV.eq f d m;rw [e1,XiF,Xeh] at b;have:=h.arena' (bs:=XiC S.c (Xnb q).plc s.bs i (XuW n) n) (n:=Xeg S.c (Xnb q).plc i n) c b (XiE _ _ _ _ _ _);unfold XrB;rw [a];exact this
theorem XrV (h:Xby F Fr w S s by' mo) (hm:XjY S.c=true) (hbl:(s.bs.length:Int)=S.c.size*S.c.pages) (q:Plc) (i n:Nat) (hq:Xa4 w q) (hF:XaX F q.pa) (hck:Xeq S.c q i n=0) (hfew:q.pages.length≤4096) :
 Xan Tryz.prog 126 #[vwV S.v,.agg (Xm9 q).toArray,.int .i64 i,.int .i64 n] w (fun u w' => ∃ u1,u = .tuple #[u1,.int .i64 0]∧Xby F Fr w' S (XeA s (Xeg S.c (Xnb q).plc i n)) by' mo∧Chg (Xgg S.A) w w' ∧
  Own w.heap.size 5 1 w' u1 n ((Xtj S.c (Xnb q).plc s.bs i n).map (Value.int .u8))):=by
 obtain ⟨j,k,l⟩:=h.vwf;have ec:=h.vc;have mF:∀ z,XjO S.A z→Xgg S.A z:=fun z a => .inr a;refine (XtQ S.v q i n S.A (arV S s) w h.vw hq (h.vmb.trans h.amb.symm) h.vab (by rw [ec]; exact hck) hfew (fun a=>j (mF _ a)) (fun _=>(hF.mono h.footF).mono mF) (fun b=>(k b).mono mF) (fun b=>(l b).mono mF) h.ar (by rw [ec]; exact hbl)).mono fun u w' ⟨u1,e,c,f,d⟩=>⟨u1,e,?_,f.mono fun z _ a=>mF z a,?_⟩
 ·rw [ec] at c;obtain ⟨g,m⟩:=Xt4 (q:=q) (V:=arV S s) h.amb (Xl7 hm hck hfew) h.tot _ (Nat.le_refl _);rw [List.take_length,Xl5 hm] at g;have e1:=ArV.eq (Xt3 q S.A (arV S s) (Xl4 S.c q i n) _) g m;rw [e1,Xeh] at c;exact h.arena' (bs:=s.bs) (n:=Xeg S.c (Xnb q).plc i n) (f.mono fun z _ a=>mF z a) c rfl
 ·rw [ec,XnM hm hck hbl] at d;have e:(Xtj S.c q s.bs i n).length=n:=by unfold Xtj; rw [List.length_map,List.length_range]
  rw [e,Xtl] at d;exact d
end
theorem XjT {n q:Int} (hn:1≤n) (hq:1≤q):n≤XjR n q*q:=by
 have a:=Int.emod_add_mul_ediv (n - 1) q;have:=Int.emod_lt_of_pos (n - 1) (show 0<q by omega);have e:XjR n q=(n - 1) / q+1:=by unfold XjR; rw [if_neg (by omega)]
 rw [e,Int.add_mul,Int.one_mul,Int.mul_comm ((n - 1) / q) q];omega
section
variable {c:Conf} {s:StM} {pd:Option (Nat × PlcM)}
theorem Xi1:∀ {l:List (Nat × List Nat)} {e:Nat × List Nat},e ∈ l→e.2.length+1≤XiZ l
 |a::l,e,h=>by
  have b:XiZ (a::l)=(a.2.length+1)+XiZ l:=by unfold XiZ; simp
  rcases List.mem_cons.1 h with rfl | h
  ·omega
  ·have:=Xi1 h; omega
theorem Xi3 (h:s.OkP c pd) {n:Nat} {r:List Nat} (hm:(n,r) ∈ s.rm.lg):(∀ m ∈ r,(m:Int)<c.pages)∧r.length≤1024:=by
 have f:=h.rm.ok.own;have a:=h.rm.mok.good;refine ⟨fun m b => ?_,?_⟩
 ·have:=(h.rm.ok.lg m (Xj4 hm (List.mem_cons_of_mem _ b))).1;omega
 ·have d:=Xi1 hm;have e:=h.rm.ok.sum;have g:=a.many;have i:=a.len;unfold XhB at e;simp only at d
  omega
theorem Xiu (h:s.OkP c pd) {n:Nat} {r:List Nat} {size:Int} (hm:(n,r) ∈ s.rm.lg) (hs:1≤size) (hr:(r.length+1:Int)=Xb6 size c.size):XtL c (PlcM.mk (-1) (n:Nat) 0 (XkJ r)).plc=true∧size≤XtI c (PlcM.mk (-1) (n:Nat) 0 (XkJ r)).plc∧(XkJ r).length≤4096:=by
 obtain ⟨g,l⟩:=Xi3 h hm;have i:1≤c.size:=by have:=(Xj0 h.may).1; omega
 have a:=XjT hs i;have k:1≤XjR size c.size:=by
  have o:0≤(size - 1) / c.size:=Int.ediv_nonneg (by omega) (by omega);unfold XjR;rw [if_neg (by omega)];omega
 have e:(r.length:Int)=XjR size c.size:=by
  unfold Xb6 at hr;split at hr <;> omega
 have j:=XkL r;have b:XtL c (PlcM.mk (-1) (n:Nat) 0 (XkJ r)).plc=true:=by
  unfold XtL PlcM.plc;show (if (-1:Int) = -1 then (decide (0<(XkJ r).length) && !(XkJ r).any fun n => !inT n c.pages) else _)=true
  rw [if_pos rfl,Bool.and_eq_true];refine ⟨decide_eq_true (by omega),?_⟩;rw [Bool.not_eq_true',List.any_eq_false];intro x d;unfold XkJ at d;obtain ⟨m,f,rfl⟩:=List.mem_map.1 d;have:=g m f;rw [Xh1.2 (by omega)]
  decide
 refine ⟨b,?_,by omega⟩;unfold XtI;rw [if_pos b];show size≤if (-1:Int) = -1 then ((XkJ r).length:Int)*c.size else _
 rw [if_pos rfl,j,e];exact a
theorem Xq8 (h:s.OkP c pd) {k n a:Int} (ho:Xox s.rm k n a ≠ -1):XtL c (PlcM.mk k n a []).plc=true∧XtI c (PlcM.mk k n a []).plc=XeV c k:=by
 obtain ⟨b,d,_⟩:=XlI h ho;refine ⟨b,?_⟩;unfold XtI;rw [if_pos (show XtL c (PlcM.mk k n a []).plc=true from b)];show (if k = -1 then _ else XeV c k)=_
 rw [if_neg (by omega)]
theorem XmI {size:Int} {k:Nat} (hp:XmF c.classes size=(k:Nat)):size≤XeV c k:=by
 unfold XeV;rw [Int.toNat_natCast];exact XmJ hp
theorem Xm0 (h:s.OkP c pd) {o:Nat} {t:ThM} (ht:s.th[o]? = some (some t)):XtL c t.q.plc=true∧t.size≤XtI c t.q.plc∧t.q.pages.length≤4096:=by
 by_cases d:XmF c.classes t.size = -1
 ·obtain ⟨n,r,f,b,g⟩:=h.large o t ht d;rw [b];exact Xiu h f (h.size o t ht).1 g
 ·obtain ⟨f,b,g⟩:=h.small o t ht d;obtain ⟨m,p⟩:=XmH d;obtain ⟨k,i⟩:=Int.eq_ofNat_of_zero_le m;obtain ⟨j,l⟩:=Xq8 h (k:=t.q.cls) (n:=t.q.page) (a:=t.q.idx) (by rw [g]; omega);have e:t.q=⟨t.q.cls,t.q.page,t.q.idx,[]⟩:=by
   obtain ⟨sz,q,u,v,w⟩:=t;simp only at b
   rw [b]
  rw [← e] at j l;refine ⟨j,?_,by rw [b]; simp⟩;rw [l,f,i];exact XmI i
end
end Go.Proofs.YtgddpaiandefgaaGreatDoor
