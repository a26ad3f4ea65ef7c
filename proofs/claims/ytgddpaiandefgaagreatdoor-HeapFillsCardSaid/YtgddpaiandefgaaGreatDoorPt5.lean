/-
  Texts put together: Tb0, Tb1, Szs, Hp0, Flt, Hp1, Hp2, Hp3, Hpm, Hp4, Aw23, Laws20, Laws20b, Laws23, Act23, Lgo, Lay, By1, By2, Bcnt, Ref10, Sr16, Laws23b.
-/
import Derived.Test.YtgddpaiandefgaaGreatDoorPt4
import Derived.Test.YtgddpaiandefgaaGreatDoorQRule24
import Derived.Test.YtgddpaiandefgaaGreatDoorQRule9
import Derived.KernelRfl
import Derived.Test.YtgddpaiandefgaaGreatDoorQRule12
set_option linter.unusedVariables false
set_option maxRecDepth 100000
namespace Go.Proofs.YtgddpaiandefgaaGreatDoor
open Go.RowKit
structure XbH where
 tb:Nat
 sb:Nat
abbrev tbV (P:XbH):Value := .pointer (some ⟨P.tb,0,none⟩)
def tbW (t:TbM) (i:Nat):Int:=if t.live.getD i false then 1 else if t.gen.getD i 0≤t.most then 0 else 2
def tbR (P:XbH) (n:Nat) (most head:Int) (g:Nat→Int):List Value := [.slice (some ⟨P.sb,0,none⟩) n n,.int .i64 most,.int .i64 head,.int .i64 (g 0),.int .i64 (g 1),.int .i64 (g 2)]
def XuG (t:TbM) (i:Nat):Int:=if i=0 then t.fl.length else if i=1 then t.live.count true else t.gen.length - t.fl.length - t.live.count true
def XjR (f:Nat→Int) (N:Nat):Int→List Nat→Prop
 |h,[]=>h=N
 |h,a::r=>h=a∧XjR f N (f (a*3+2)) r
theorem XjS {f g:Nat→Int} {N:Nat}:∀ {l:List Nat} {h:Int},(∀ a ∈ l,f (a*3+2)=g (a*3+2))→XjR f N h l→XjR g N h l
 |[],_,_,hl=>hl
 |a::r,_,hfg,hl=>⟨hl.1,by rw [← hfg a (by simp)]; exact XjS (fun b hb=>hfg b (by simp [hb])) hl.2⟩
structure XbI (w:World) (P:XbH) (t:TbM) (slots gens:Int):Prop where
 ok:t.Ok slots gens
 at':∃ head f,w.heap[P.tb]? = some (.cells (tbR P t.gen.length t.most head (XuG t)).toArray 145 (0,0))∧XaE w P.sb 147 (t.gen.length*3) f∧XjR f t.gen.length head t.fl ∧
  ∀ i,i<t.gen.length→f (i*3)=tbW t i∧f (i*3+1)=t.gen.getD i 0
def XuC (P:XbH):Nat→Prop:=fun z=>z=P.tb∨z=P.sb
section
variable {w w':World} {P:XbH} {t:TbM} {slots gens:Int} {S:Nat→Prop}
theorem XbI.chg (h:XbI w P t slots gens) (hc:Chg S w w') (h1:¬ S P.tb) (h2:¬ S P.sb):XbI w' P t slots gens:=by
 obtain ⟨head,f,a,b,c⟩:=h.at';exact ⟨h.ok,head,f,hc.heap a h1,hc.heap b h2,c⟩
theorem XbI.grow (h:XbI w P t slots gens) (hc:Chg XaX w w'):XbI w' P t slots gens:=h.chg hc id id
theorem XbI.kd (h:XbI w P t slots gens):kd w P.tb=some (some 145)∧kd w P.sb=some (some 147):=by
 obtain ⟨head,f,a,b,c⟩:=h.at';exact ⟨XiO a,XiO b⟩
theorem XbI.lt (h:XbI w P t slots gens):P.tb<w.heap.size∧P.sb<w.heap.size:=by
 obtain ⟨head,f,a,b,c⟩:=h.at';exact ⟨Xkj a,Xkj b⟩
end
theorem Xio (slot gen:Int) (w:World):Xan Tryz.prog 156 #[.int .i64 slot,.int .i64 gen] w (Grow (.bool (XuI slot gen)) w):=by
 refine ζe Tryz.func156 Tryz.ntmps156 rfl (ζb rfl (ζb rfl (ζb rfl (ζn rfl fun b I e1 B r C=>ζs B rfl fun J n s D => ?_))));have i:=r.since s (fun z t e=>by omega);refine Xay.unroll hTT rfl (ζy rfl (ζi 0 rfl (ζl n rfl (ζn rfl fun c K e3 u o E=>ζs u rfl fun L g q F => ?_))));have a:=(i.trans o).since q (fun z t e=>by have:=i.size; omega);have v:=q.heap (o.heap' n) (show ¬ b=c by have:=i.size; omega);refine ζi 0 rfl (ζl g rfl (ζi 1 rfl (ζl g rfl (ζg rfl (fun j => ?_) fun j => ?_))))
 ·exact ζr Tryz.func156 rfl ⟨XdW (by unfold XuI; rw [decide_eq_false (by have:=of_decide_eq_true j; omega)]; rfl),a⟩
 have j:=of_decide_eq_false j;refine ζi 0 rfl (ζl g rfl (ζi 2 rfl (ζl g rfl (ζg rfl (fun k => ?_) fun k => ?_))))
 ·exact ζr Tryz.func156 rfl ⟨XdW (by unfold XuI; rw [decide_eq_false (p:=slot≤4095) (by have:=of_decide_eq_true k; omega),Bool.and_false]; rfl),a⟩
 have k:=of_decide_eq_false k;refine ζj rfl (Xay.again hTT rfl (ζy rfl (ζi 3 rfl (ζl v rfl (ζn rfl fun d M e5 x y G=>ζs x rfl fun N h A H => ?_)))));have f:=(a.trans y).since A (fun z t e=>by have:=a.size; omega);refine ζi 0 rfl (ζl h rfl (ζi 1 rfl (ζl h rfl (ζg rfl (fun l => ?_) fun l => ?_))))
 ·exact ζr Tryz.func156 rfl ⟨XdW (by unfold XuI; rw [decide_eq_false (p:=1≤gen) (by have:=of_decide_eq_true l; omega),Bool.and_false]; rfl),f⟩
 have l:=of_decide_eq_false l;refine ζi 0 rfl (ζl h rfl (ζi 2 rfl (ζl h rfl (ζg rfl (fun m => ?_) fun m => ?_))))
 ·exact ζr Tryz.func156 rfl ⟨XdW (by unfold XuI; rw [decide_eq_false (p:=gen≤1023) (by have:=of_decide_eq_true m; omega),Bool.and_false]),f⟩
 have m:=of_decide_eq_false m;exact ζj rfl (Xay.again hTT rfl (ζf rfl (ζr Tryz.func156 rfl ⟨XdW (by unfold XuI; rw [decide_eq_true (p:=0≤slot) (by omega),decide_eq_true (p:=slot≤4095) (by omega),decide_eq_true (p:=1≤gen) (by omega),decide_eq_true (p:=gen≤1023) (by omega)]; rfl),f⟩)))
theorem Xin (h:Int) (w:World) (hh : -9223372036854775808≤h∧h≤9223372036854775807):Xan Tryz.prog 127 #[.int .i64 h] w (Grow (if XuI (XuK h) (XuD h)=true then .tuple #[.int .i64 (XuK h),.int .i64 (XuD h),.int .i64 0] else .tuple #[.int .i64 0,.int .i64 0,.int .i64 7]) w):=by
 have b:XfI true .i64 h 4096=XuD h:=by
  unfold XfI;rw [if_pos rfl];apply w64
  have e:=Int.mul_tdiv_add_tmod h 4096;by_cases c:0≤h
  ·rw [Int.tdiv_eq_ediv_of_nonneg c]; omega
  ·obtain ⟨x,rfl⟩:∃ x,h = -x:=⟨-h,by omega⟩;rw [Int.neg_tdiv,Int.tdiv_eq_ediv_of_nonneg (by omega)];omega
 have d:XfI false .i64 h 4096=XuK h:=by unfold XfI; rw [if_neg (by simp)]; rfl
 refine ζe Tryz.func127 Tryz.ntmps127 rfl (Xay.div hTT rfl (by omega) d rfl (Xay.div hTT rfl (by omega) b rfl (ζv (Xio (XuK h) (XuD h) w) rfl fun f a => ?_)));cases hm:XuI (XuK h) (XuD h) with
 |false =>
  exact ζy rfl (ζq rfl Tryz.func127 (.tmp rfl (.tmp rfl (.tmp rfl .nil))) ⟨rfl,a⟩)
 |true =>
  exact ζf rfl (ζq rfl Tryz.func127 (.tmp rfl (.tmp rfl (.tmp rfl .nil))) ⟨rfl,a⟩)
theorem Xim (slot gen:Int) (w:World) (hs:0≤slot∧slot≤4095) (hg:1≤gen∧gen≤1023):Xan Tryz.prog 97 #[.int .i64 slot,.int .i64 gen] w (Grow (.tuple #[.int .i64 (gen*4096+slot),.int .i64 0]) w):=by
 have hm:XuI slot gen=true:=by unfold XuI; rw [decide_eq_true (p:=0≤slot) (by omega),decide_eq_true (p:=slot≤4095) (by omega),decide_eq_true (p:=1≤gen) (by omega),decide_eq_true (p:=gen≤1023) (by omega)]; rfl
 refine ζe Tryz.func97 Tryz.ntmps97 rfl (ζv (Xio slot gen w) rfl fun b a => ?_);rw [hm];exact ζf rfl (ζj rfl (ζj rfl (ζr Tryz.func97 rfl ⟨rfl,a⟩)))
theorem Xow {P:XbH} {n k:Nat} {most head:Int} {g f:Nat→Int} {w:World} {a b:Nat} (h1:w.heap[P.tb]? = some (.cells (tbR P n most head g).toArray 145 (0,0))) (h2:XaE w P.sb 147 (n*3) f) (hk:k<n) (hn:n≤4096)
 (hf:f (k*3)=a) (hg:∀ i,-4096≤g i∧g i≤4096) (hab:a=0∧b=1∨a=1∧b=2∨a=1∧b=0):Xan Tryz.prog 96 #[tbV P,.int .i64 k,.int .i64 b] w
 (fun _ w'=>w'.heap[P.tb]? = some (.cells (tbR P n most head (upd (upd g a (g a - 1)) b (g b+1))).toArray 145 (0,0))∧XaE w' P.sb 147 (n*3) (upd f (k*3) b)∧Chg (XuC P) w w'):=by
 have l:P.sb≠P.tb:=fun e=>by
  have:=XdP h1 h2 (by decide);exact this e.symm
 refine ζe Tryz.func96 Tryz.ntmps96 rfl (ζl h1 rfl (ζi (k*3) rfl ?_));have r:w.cell? ⟨P.sb,0+k*3+0,none⟩=some (.int .i64 (a:Nat)):=by rw [XiI h2 (k:=k*3) (by omega) (by omega),hf]
 obtain ⟨rfl,rfl⟩ | ⟨rfl,rfl⟩ | ⟨rfl,rfl⟩:=hab
 ·refine ζa rfl (ζd 12 XaX (by kernel_rfl) rfl fun c=>δk c r rfl (δi 0 c rfl (δl c h1 rfl (Xaq.arith hTT c rfl (w64 (by have:=hg 0; omega)) rfl (δn c rfl fun D d=>ζi 0 rfl ?_)))));have s:=d.heap' h1;refine ζs s rfl fun E m o A=>ζd 9 XaX (by kernel_rfl) rfl fun c=>δi 1 c rfl (δl c m rfl (Xaq.arith hTT c rfl (w64 (by have:=hg 1; omega)) rfl (δn c rfl fun F j=>ζi 1 rfl ?_)));have t:=j.heap' m;refine ζs t rfl fun z u p B => ?_;have v:Chg (XuC P) w z:=(((d.mono fun _ _ h=>h.elim).trans (o.mono fun _ _ h => .inl h)).trans (j.mono fun _ _ h=>h.elim)).trans (p.mono fun _ _ h => .inl h);have x:=p.heap (j.heap' (o.heap (d.heap' h2) l)) l;exact ζS rfl x (Xq4 (i:=k*3) (by show 0+k*3+0=_; omega) (by omega)) rfl fun G y q C=>ζr Tryz.func96 rfl ⟨q.heap u (fun e=>l e.symm),y,v.trans (q.mono fun _ _ h => .inr h)⟩
 ·refine ζa rfl (ζd 12 XaX (by kernel_rfl) rfl fun c=>δk c r rfl (δi 1 c rfl (δl c h1 rfl (Xaq.arith hTT c rfl (w64 (by have:=hg 1; omega)) rfl (δn c rfl fun D d=>ζi 1 rfl ?_)))));have s:=d.heap' h1;refine ζs s rfl fun E m o A=>ζd 9 XaX (by kernel_rfl) rfl fun c=>δi 2 c rfl (δl c m rfl (Xaq.arith hTT c rfl (w64 (by have:=hg 2; omega)) rfl (δn c rfl fun F j=>ζi 2 rfl ?_)));have t:=j.heap' m;refine ζs t rfl fun z u p B => ?_;have v:Chg (XuC P) w z:=(((d.mono fun _ _ h=>h.elim).trans (o.mono fun _ _ h => .inl h)).trans (j.mono fun _ _ h=>h.elim)).trans (p.mono fun _ _ h => .inl h);have x:=p.heap (j.heap' (o.heap (d.heap' h2) l)) l;exact ζS rfl x (Xq4 (i:=k*3) (by show 0+k*3+0=_; omega) (by omega)) rfl fun G y q C=>ζr Tryz.func96 rfl ⟨q.heap u (fun e=>l e.symm),y,v.trans (q.mono fun _ _ h => .inr h)⟩
 ·refine ζa rfl (ζd 12 XaX (by kernel_rfl) rfl fun c=>δk c r rfl (δi 1 c rfl (δl c h1 rfl (Xaq.arith hTT c rfl (w64 (by have:=hg 1; omega)) rfl (δn c rfl fun D d=>ζi 1 rfl ?_)))));have s:=d.heap' h1;refine ζs s rfl fun E m o A=>ζd 9 XaX (by kernel_rfl) rfl fun c=>δi 0 c rfl (δl c m rfl (Xaq.arith hTT c rfl (w64 (by have:=hg 0; omega)) rfl (δn c rfl fun F j=>ζi 0 rfl ?_)));have t:=j.heap' m;refine ζs t rfl fun z u p B => ?_;have v:Chg (XuC P) w z:=(((d.mono fun _ _ h=>h.elim).trans (o.mono fun _ _ h => .inl h)).trans (j.mono fun _ _ h=>h.elim)).trans (p.mono fun _ _ h => .inl h);have x:=p.heap (j.heap' (o.heap (d.heap' h2) l)) l;exact ζS rfl x (Xq4 (i:=k*3) (by show 0+k*3+0=_; omega) (by omega)) rfl fun G y q C=>ζr Tryz.func96 rfl ⟨q.heap u (fun e=>l e.symm),y,v.trans (q.mono fun _ _ h => .inr h)⟩
theorem XuP {w:World} {b ty N:Nat} {f:Nat→Int} (h2:XaE w b ty N f) {k:Nat} (hk:k*3+2<N):∀ j v,[Value.int .i64 (f (k*3)),.int .i64 (f (k*3+1)),.int .i64 (f (k*3+2))][j]? = some v→w.cell? ⟨b,0+k*3+j,none⟩=some v
 |0,v,e=>by cases e; exact XiI h2 (by omega) (by omega)
 |1,v,e=>by cases e; exact XiI h2 (by omega) (by omega)
 |2,v,e=>by cases e; exact XiI h2 (by omega) (by omega)
 |j+3,v,e=>by cases e
theorem XuO {t:TbM} {i:Nat}:tbW t i=1↔t.live.getD i false=true:=by
 unfold tbW;split
 ·simp_all
 ·split <;> simp_all
theorem Xot {w:World} {P:XbH} {t:TbM} {slots gens:Int} (h:XbI w P t slots gens) (k:Int) (hk : -9223372036854775808≤k∧k≤9223372036854775807):Xan Tryz.prog 73 #[tbV P,.int .i64 k] w (Grow (.tuple #[.int .i64 (tbN t k),.int .i64 (tbE t k)]) w):=by
 obtain ⟨head,f,v,x,F,y⟩:=h.at';have G:=h.ok.n;refine ζe Tryz.func73 Tryz.ntmps73 rfl (ζv (Xin k w hk) rfl fun H a => ?_);have n:=a.heap' v;cases hm:XuI (XuK k) (XuD k) with
 |false =>
  have e:tbE t k=7:=by unfold tbE; rw [if_pos hm]
  have en:tbN t k=0:=by unfold tbN; rw [e]; rfl
  exact ζy rfl (ζr Tryz.func73 rfl ⟨by rw [e,en]; rfl,a⟩)
 |true =>
  have o:=hm;simp only [XuI,Bool.and_eq_true,decide_eq_true_eq] at o;refine ζf rfl (ζl n rfl ?_);by_cases c:(t.gen.length:Int)≤XuK k
  ·have e:tbE t k=7:=by unfold tbE; rw [if_neg (by rw [hm]; decide),if_pos c]
   have en:tbN t k=0:=by unfold tbN; rw [e]; rfl
   exact ζy rfl (ζr Tryz.func73 rfl ⟨by rw [e,en],a⟩)
  ·refine ζf rfl (ζl n rfl ?_);obtain ⟨j,g⟩:=Int.eq_ofNat_of_zero_le o.1.1.1;have q:j<t.gen.length:=by omega
   have r:=a.heap' x;obtain ⟨A,B⟩:=y j q;have eg:tbG t (XuK k)=f (j*3+1):=by
    rw [B,g];unfold tbG;rw [Int.toNat_natCast,List.getD_eq_getElem?_getD]
   have el:tbL t (XuK k)=decide (f (j*3)=1):=by
    rw [A,g,show decide (tbW t j=1)=decide (t.live.getD j false=true) from decide_eq_decide.2 XuO];unfold tbL;rw [Int.toNat_natCast,← List.getD_eq_getElem?_getD,Bool.decide_eq_true]
   rw [g];refine ζi (j*3) rfl (Xay.loadC hTT ([Value.int .i64 (f (j*3)),.int .i64 (f (j*3+1)),.int .i64 (f (j*3+2))]) rfl (by first | rfl | (simp; done) | (simp [*]; done) | (simp; omega)) (XuP r (by omega)) rfl (ζn rfl fun b I e2 C s D=>ζs C rfl fun J d u E => ?_));have i:=(a.trans s).since u (fun z K e=>by have:=a.size; omega);refine ζl d rfl ?_;by_cases l:XuD k<f (j*3+1)
   ·have e:tbE t k=6:=by unfold tbE; rw [if_neg (by rw [hm]; decide),if_neg c,eg,if_pos l]
    have en:tbN t k=0:=by unfold tbN; rw [e]; rfl
    exact ζy rfl (ζr Tryz.func73 rfl ⟨by rw [e,en],i⟩)
   refine ζf rfl (ζl d rfl ?_);by_cases p:f (j*3+1)<XuD k
   ·have e:tbE t k=7:=by unfold tbE; rw [if_neg (by rw [hm]; decide),if_neg c,eg,if_neg l,if_pos p]
    have en:tbN t k=0:=by unfold tbN; rw [e]; rfl
    exact ζy rfl (ζr Tryz.func73 rfl ⟨by rw [e,en],i⟩)
   refine ζf rfl (ζl d rfl ?_);by_cases m:f (j*3)=1
   ·have e:tbE t k=0:=by unfold tbE; rw [if_neg (by rw [hm]; decide),if_neg c,eg,if_neg l,if_neg p,el,decide_eq_true m]; rfl
    have en:tbN t k=j:=by unfold tbN; rw [if_pos e,g]
    rw [m];exact ζf rfl (ζr Tryz.func73 rfl ⟨by rw [e,en]; rfl,i⟩)
   ·have e:tbE t k=7:=by unfold tbE; rw [if_neg (by rw [hm]; decide),if_neg c,eg,if_neg l,if_neg p,el,decide_eq_false m]; rfl
    have en:tbN t k=0:=by unfold tbN; rw [e]; rfl
    exact ζY rfl (bne_iff_ne.2 (fun e=>m e)) (ζr Tryz.func73 rfl ⟨by rw [e,en],i⟩)
theorem Xos {w:World} {P:XbH} {t:TbM} {slots gens:Int} (h:XbI w P t slots gens):Xan Tryz.prog 40 #[tbV P] w (Xbs (.int .i64 (XuF t:Nat)) w):=by
 obtain ⟨head,f,a,b,c,d⟩:=h.at';exact ζe Tryz.func40 Tryz.ntmps40 rfl (ζi 1 rfl (ζl a rfl (ζr Tryz.func40 rfl ⟨rfl,rfl⟩)))
theorem Xor {w:World} {P:XbH} {t:TbM} {slots gens:Int} (h:XbI w P t slots gens):Xan Tryz.prog 44 #[tbV P] w (Xbs (.int .i64 (t.fl.length:Nat)) w):=by
 obtain ⟨head,f,a,b,c,d⟩:=h.at';exact ζe Tryz.func44 Tryz.ntmps44 rfl (ζi 0 rfl (ζl a rfl (ζr Tryz.func44 rfl ⟨rfl,rfl⟩)))
theorem XuH {t:TbM} {slots gens:Int} (h:t.Ok slots gens) (i:Nat) : -4096≤XuG t i∧XuG t i≤4096:=by
 have:=h.many;have:=h.n;have:=h.sl;unfold XuG;split
 ·omega
 ·split <;> omega
theorem XuJ {P:XbH} {n:Nat} {most head:Int} {g g':Nat→Int} (h0:g 0=g' 0) (h1:g 1=g' 1) (h2:g 2=g' 2):tbR P n most head g=tbR P n most head g':=by unfold tbR; rw [h0,h1,h2]
theorem Xg5 {α:Type} {l:List α} {i:Nat} {x d:α} (h:l[i]? = some x):l.getD i d=x:=by rw [List.getD_eq_getElem?_getD,h]; rfl
theorem Xov {w:World} {P:XbH} {t:TbM} {slots gens:Int} (h:XbI w P t slots gens) (hne:t.fl ≠ []):Xan Tryz.prog 45 #[tbV P] w
 (fun v w'=>v = .tuple #[.int .i64 (XuM t),.int .i64 (XuN t),.int .i64 0]∧XbI w' P (XuL t) slots gens∧Chg (XuC P) w w'):=by
 obtain ⟨head,f,m,C,D,E⟩:=h.at';have hn:=h.ok.n;have a4:=h.ok.sl;have a5:=h.ok.gs;obtain ⟨n,r,e⟩:∃ n r,t.fl=n::r:=by
  cases hf:t.fl with
  |nil=>exact absurd hf hne
  |cons n r=>exact ⟨n,r,rfl⟩
 rw [e] at D;obtain ⟨rfl,N⟩:=D;obtain ⟨A,c,O,F⟩:=h.ok.fr n (by rw [e]; exact List.mem_cons_self);have d:=(List.getElem?_eq_some_iff.1 c).1;have G:n<t.live.length:=by rw [h.ok.nl]; exact d
 obtain ⟨Q,H⟩:=E n d;have a6:=(h.ok.gen n A c).1;have I:f (n*3)=(0:Nat):=by
  rw [Q];unfold tbW;rw [Xg5 F,if_neg (by decide),Xg5 c,h.ok.mg,if_pos O];rfl
 rw [Xg5 c] at H;have eT:XuL t={t with live:=t.live.set n true,fl:=r}:=by unfold XuL; rw [e]
 have J:P.sb≠P.tb:=fun e=>by
  have:=XdP m C (by decide);exact this e.symm
 have R:=(List.nodup_cons.1 (e▸h.ok.nd)).1;refine ζe Tryz.func45 Tryz.ntmps45 rfl (ζd 9 XaX (by kernel_rfl) rfl fun B=>δl B m rfl (δl B m rfl (δn B rfl fun S g => ?_)));have o:=g.heap' m;refine ζf rfl (ζl o rfl (ζc rfl (Xow (a:=0) (b:=1) o (show XaE S _ _ _ _ from g.heap' C) d (by omega) I (XuH h.ok) (.inl ⟨rfl,rfl⟩)) ?_));rintro _ w2 ⟨p,q,K⟩;refine ζa rfl (ζl p rfl (ζi (n*3) rfl (ζk rfl (XiI q (k:=n*3+2) (by show 0+n*3+2=_; omega) (by omega)) rfl ?_)));rw [Xvv _ _ (show n*3+2≠n*3 by omega)];refine ζs p rfl fun T s u a7 => ?_;have x:=u.heap q J;refine ζl s rfl (ζi (n*3) rfl (ζk rfl (XiI x (k:=n*3+1) (by show 0+n*3+1=_; omega) (by omega)) rfl ?_));rw [Xvv _ _ (show n*3+1≠n*3 by omega),H];refine ζv (Xim n A T (by omega) (by omega)) rfl fun U j => ?_;have V:=(((g.mono fun _ _ h=>h.elim).trans K).trans (u.mono fun _ _ h => .inl h)).trans (j.mono fun _ _ h=>h.elim);have y:=h.ok.take;have L:=XjI (b:=true) F;simp only [Bool.false_eq_true,if_false,if_true] at L;have W:XbI U P (XuL t) slots gens:=by
  rw [eT] at y ⊢;refine ⟨y,f (n*3+2),upd f (n*3) (1:Nat),?_,j.heap' x,?_,fun i hi => ?_⟩
  ·rw [j.heap' s];refine congrArg (fun l:List Value=>some (Obj.cells l.toArray 145 (0,0))) ?_;show tbR P t.gen.length t.most _ _=tbR P t.gen.length t.most _ _
   refine XuJ ?_ ?_ ?_
   ·show t.fl.length - (1:Int)=r.length
    rw [e,List.length_cons]; omega
   ·show t.live.count true+(1:Int)=((t.live.set n true).count true:Nat)
    omega
   ·show (t.gen.length:Int) - t.fl.length - t.live.count true=t.gen.length - r.length - ((t.live.set n true).count true:Nat)
    rw [e,List.length_cons]; omega
  ·refine XjS (fun a ha => ?_) N;rw [Xvv _ _ (by omega)]
  ·obtain ⟨b1,M⟩:=E i hi;by_cases z:i=n
   ·subst z;refine ⟨?_,by rw [Xvv _ _ (by omega)]; exact M⟩;rw [Xvw];exact (XuO.2 (Xg5 (List.getElem?_set_self G))).symm
   ·refine ⟨?_,by rw [Xvv _ _ (by omega)]; exact M⟩;rw [Xvv _ _ (by omega),b1];unfold tbW;show _=if (t.live.set n true).getD i false=true then (1:Int) else _
    simp only [List.getD_eq_getElem?_getD];rw [List.getElem?_set_ne (Ne.symm z)]
 have eg:tbG t (n:Nat)=A:=by unfold tbG; rw [Int.toNat_natCast,c]; rfl
 exact ζq rfl Tryz.func45 (.tmp rfl (.tmp rfl (.tmp rfl .nil))) ⟨by unfold XuM XuN; rw [e]; simp only [eg]; rfl,W,V⟩
theorem Xoq {w:World} {P:XbH} {t:TbM} {slots gens:Int} (h:XbI w P t slots gens) (k:Int) (hk : -9223372036854775808≤k∧k≤9223372036854775807):Xan Tryz.prog 70 #[tbV P,.int .i64 k] w
 (fun v w'=>v = .int .i64 (tbE t k)∧XbI w' P (XuE t k) slots gens∧Chg (XuC P) w w'):=by
 have ao:=h.ok.sl;have ap:=h.ok.n;have aq:=h.ok.gs;have y:P.sb≠P.tb:=fun e=>by
  obtain ⟨head,f,E,F,U,G⟩:=h.at';have:=XdP E F (by decide);exact this e.symm
 refine Xan.enter Tryz.func70 rfl Tryz.ntmps70 rfl rfl ?_;refine ζa rfl ?_;refine ζc rfl (Xot h k hk) ?_;rintro _ w1 ⟨rfl,I⟩;refine ζa rfl ?_;have hg:=h.grow I;have J:Chg (XuC P) w w1:=I.mono fun _ _ h=>h.elim;by_cases m:tbE t k=0
 ·obtain ⟨b1,b2,d,b4,b5,V,H⟩:=h.ok.tbE_ok m;obtain ⟨head,f,E,F,U,G⟩:=hg.at';obtain ⟨n,z⟩:=Int.eq_ofNat_of_zero_le b1;have en:tbN t k=n:=by unfold tbN; rw [if_pos m,z]
  rw [z,Int.toNat_natCast] at d V H;have eG:tbG t (XuK k)=XuD k:=by rw [z]; unfold tbG; rw [Int.toNat_natCast,V]; rfl
  have K:n<t.live.length:=by rw [h.ok.nl]; exact d
  obtain ⟨a1,a2⟩:=G n d;rw [Xg5 V] at a2;have L:f (n*3)=(1:Nat):=by rw [a1,XuO.2 (Xg5 H)]; rfl
  have p:=h.ok.give k;have r:=XuH h.ok;have aa:=XjI (b:=false) H;simp only [Bool.false_eq_true,if_false,if_true] at aa;have ab:n ∉ t.fl:=fun hm=>by
   obtain ⟨g,_,_,a3⟩:=h.ok.fr _ hm;rw [H] at a3;cases a3
  rw [m,en];refine Xay.no hTT rfl rfl rfl ?_;refine Xay.loadb hTT rfl E rfl rfl ?_;refine Xay.index hTT rfl (j:=(n*3)) (by omega) (by omega) (by first | rfl | omega | (simp; done) | (simp; omega)) rfl ?_;refine ζk rfl (XiI F (k:=n*3+1) (by show 0+n*3+1=_; omega) (by omega)) rfl ?_;rw [a2];refine Xay.arith hTT rfl (w64 (by omega)) rfl ?_;refine Xay.store hTT rfl F (Xq4 (i:=n*3+1) (by show 0+n*3+1=_; omega) (by omega)) rfl ?_;intro w2 s M ar;refine ζa rfl ?_;have N:=M.heap E (fun e=>y e.symm);replace s:XaE w2 P.sb 147 (t.gen.length*3) (upd f (n*3+1) (XuD k+1)):=s;have ae:w2.cell? ⟨P.sb,0+n*3+1,none⟩=some (.int .i64 (XuD k+1)):=by rw [XiI s (k:=n*3+1) (by omega) (by omega),Xvw]
  refine Xay.drawn (q:=8) XaX hTT Xk3 (by kernel_rfl) rfl ?_;intro W;refine Xaq.load hTT W rfl ae (by first | exact fun h=>h | (intro h; omega) | assumption) rfl ?_;refine Xaq.loadb hTT W rfl N (by first | exact fun h=>h | (intro h; omega) | assumption) rfl rfl ?_;refine Xaq.nil W ?_;intro w3 A;refine ζa rfl ?_;have O:=A.heap' N;have Q:XaE w3 P.sb 147 (t.gen.length*3) (upd f (n*3+1) (XuD k+1)):=A.heap' s;have R:Chg (XuC P) w w3:=(J.trans (M.mono fun _ _ h => .inr h)).trans (A.mono fun _ _ h=>h.elim);by_cases u:t.most<XuD k+1
  ·have eT:XuE t k={t with gen:=t.gen.set n (XuD k+1),live:=t.live.set n false}:=by
    unfold XuE;rw [if_pos m,eG,if_neg (by omega),z,Int.toNat_natCast]
   refine Xay.yes hTT rfl (decide_eq_true u) rfl ?_;refine ζc rfl (Xow (a:=1) (b:=2) O Q d (by omega) (by rw [Xvv _ _ (by omega)]; exact L) r (.inr (.inl ⟨rfl,rfl⟩))) ?_;rintro _ w4 ⟨x,B,C⟩;refine ζa rfl ?_;have hT:XbI w4 P (XuE t k) slots gens:=by
    rw [eT] at p ⊢;refine ⟨p,head,upd (upd f (n*3+1) (XuD k+1)) (n*3) (2:Nat),?_,?_,?_,fun i o => ?_⟩
    ·rw [x];refine congrArg (fun l:List Value=>some (Obj.cells l.toArray 145 (0,0))) ?_;show tbR P t.gen.length t.most _ _=tbR P (t.gen.set n (XuD k+1)).length t.most _ _
     rw [List.length_set];refine XuJ rfl ?_ ?_
     ·show t.live.count true - (1:Int)=((t.live.set n false).count true:Nat)
      omega
     ·show (t.gen.length:Int) - t.fl.length - t.live.count true+1=(t.gen.set n (XuD k+1)).length - t.fl.length - ((t.live.set n false).count true:Nat)
      rw [List.length_set]; omega
    ·show XaE w4 P.sb _ ((t.gen.set n (XuD k+1)).length*3) _
     rw [List.length_set]; exact B
    ·show XjR _ (t.gen.set n (XuD k+1)).length _ t.fl
     rw [List.length_set];refine XjS (fun a ha => ?_) U;rw [Xvv _ _ (by omega),Xvv _ _ (by omega)]
    ·replace o:i<t.gen.length:=by simpa using o
     obtain ⟨c1,c2⟩:=G i o;by_cases c:i=n
     ·subst c;refine ⟨?_,?_⟩
      ·rw [Xvw];unfold tbW;show _=if (t.live.set i false).getD i false=true then (1:Int) else if (t.gen.set i (XuD k+1)).getD i 0≤t.most then 0 else 2
       rw [Xg5 (List.getElem?_set_self K),Xg5 (List.getElem?_set_self d),if_neg (by decide),if_neg (by omega)];rfl
      ·rw [Xvv _ _ (by omega),Xvw];exact (Xg5 (List.getElem?_set_self d)).symm
     ·refine ⟨?_,?_⟩
      ·rw [Xvv _ _ (by omega),Xvv _ _ (by omega),c1];unfold tbW;show _=if (t.live.set n false).getD i false=true then (1:Int) else if (t.gen.set n (XuD k+1)).getD i 0≤t.most then 0 else 2
       simp only [List.getD_eq_getElem?_getD];rw [List.getElem?_set_ne (Ne.symm c),List.getElem?_set_ne (Ne.symm c)]
      ·rw [Xvv _ _ (by omega),Xvv _ _ (by omega),c2];show _=(t.gen.set n (XuD k+1)).getD i 0
       simp only [List.getD_eq_getElem?_getD];rw [List.getElem?_set_ne (Ne.symm c)]
   exact Xay.ret1 hTT rfl Tryz.func70 rfl rfl ⟨rfl,hT,R.trans C⟩
  ·have eT:XuE t k={t with gen:=t.gen.set n (XuD k+1),live:=t.live.set n false,fl:=n::t.fl}:=by
    unfold XuE;rw [if_pos m,eG,if_pos (by omega),z,Int.toNat_natCast]
   refine Xay.no hTT rfl (decide_eq_false u) rfl ?_;refine ζc rfl (Xow (a:=1) (b:=0) O Q d (by omega) (by rw [Xvv _ _ (by omega)]; exact L) r (.inr (.inr ⟨rfl,rfl⟩))) ?_;rintro _ w4 ⟨x,B,C⟩;refine ζa rfl ?_;refine Xay.loadb hTT rfl x rfl rfl ?_;refine Xay.store hTT rfl B (Xq4 (i:=n*3+2) (by show 0+n*3+2=_; omega) (by omega)) rfl ?_;intro w5 D S au;refine ζa rfl ?_;have ah:=S.heap x (fun e=>y e.symm);refine Xay.store hTT rfl ah rfl rfl ?_;intro w6 ai T av;refine ζa rfl ?_;replace D:XaE w5 P.sb 147 (t.gen.length*3) (upd (upd (upd f (n*3+1) (XuD k+1)) (n*3) (0:Nat)) (n*3+2) head):=D;have aj:Chg (XuC P) w w6:=((R.trans C).trans (S.mono fun _ _ h => .inr h)).trans (T.mono fun _ _ h => .inl h);have hT:XbI w6 P (XuE t k) slots gens:=by
    rw [eT] at p ⊢;refine ⟨p,n,upd (upd (upd f (n*3+1) (XuD k+1)) (n*3) (0:Nat)) (n*3+2) head,?_,?_,?_,fun i o => ?_⟩
    ·rw [ai];refine congrArg (fun l:List Value=>some (Obj.cells l.toArray 145 (0,0))) ?_;show tbR P t.gen.length t.most _ _=tbR P (t.gen.set n (XuD k+1)).length t.most _ _
     rw [List.length_set];refine XuJ ?_ ?_ ?_
     ·show (t.fl.length:Int)+1=((n::t.fl).length:Nat)
      rw [List.length_cons]; omega
     ·show t.live.count true - (1:Int)=((t.live.set n false).count true:Nat)
      omega
     ·show (t.gen.length:Int) - t.fl.length - t.live.count true=(t.gen.set n (XuD k+1)).length - (n::t.fl).length - ((t.live.set n false).count true:Nat)
      rw [List.length_set,List.length_cons]; omega
    ·show XaE w6 P.sb _ ((t.gen.set n (XuD k+1)).length*3) _
     rw [List.length_set]; exact T.heap D y
    ·show XjR _ (t.gen.set n (XuD k+1)).length _ (n::t.fl)
     rw [List.length_set];refine ⟨rfl,?_⟩;rw [Xvw];refine XjS (fun a ha => ?_) U;have:a≠n:=fun e=>ab (e▸ha);rw [Xvv _ _ (by omega),Xvv _ _ (by omega),Xvv _ _ (by omega)]
    ·replace o:i<t.gen.length:=by simpa using o
     obtain ⟨c1,c2⟩:=G i o;by_cases c:i=n
     ·subst c;refine ⟨?_,?_⟩
      ·rw [Xvv _ _ (by omega),Xvw];unfold tbW;show _=if (t.live.set i false).getD i false=true then (1:Int) else if (t.gen.set i (XuD k+1)).getD i 0≤t.most then 0 else 2
       rw [Xg5 (List.getElem?_set_self K),Xg5 (List.getElem?_set_self d),if_neg (by decide),if_pos (by omega)];rfl
      ·rw [Xvv _ _ (by omega),Xvv _ _ (by omega),Xvw];exact (Xg5 (List.getElem?_set_self d)).symm
     ·refine ⟨?_,?_⟩
      ·rw [Xvv _ _ (by omega),Xvv _ _ (by omega),Xvv _ _ (by omega),c1];unfold tbW;show _=if (t.live.set n false).getD i false=true then (1:Int) else if (t.gen.set n (XuD k+1)).getD i 0≤t.most then 0 else 2
       simp only [List.getD_eq_getElem?_getD];rw [List.getElem?_set_ne (Ne.symm c),List.getElem?_set_ne (Ne.symm c)]
      ·rw [Xvv _ _ (by omega),Xvv _ _ (by omega),Xvv _ _ (by omega),c2];show _=(t.gen.set n (XuD k+1)).getD i 0
       simp only [List.getD_eq_getElem?_getD];rw [List.getElem?_set_ne (Ne.symm c)]
   exact Xay.ret1 hTT rfl Tryz.func70 rfl rfl ⟨rfl,hT,aj⟩
 ·refine Xay.yes hTT rfl (bne_iff_ne.2 m) rfl ?_;exact Xay.ret1 hTT rfl Tryz.func70 rfl rfl ⟨rfl,by unfold XuE; rw [if_neg m]; exact hg,J⟩
theorem XwN (t:Nat→Int) (ht:∀ i,t i=0):∀ n,XwJ [Value.int .i64 0,Value.int .i64 0,Value.int .i64 0] n=Xuk (n*3) t
 |0=>rfl
 |n+1=>by
  have e:∀ m,Xuk m t=List.replicate m (.int .i64 0):=fun m=>by
   unfold Xuk;rw [List.map_congr_left (g:=fun _=>Value.int .i64 0) (fun i _=>by rw [ht]),List.map_const',List.length_range]
  rw [XwJ,XwN t ht n,e,e];show List.replicate 3 _++_=_
  rw [List.replicate_append_replicate]
  congr 1
  omega
def XlB:Nat→Nat→Int
 |0=>fun _=>0
 |k+1=>upd (upd (upd (XlB k) (k*3) 0) (k*3+1) 1) (k*3+2) (k+1)
theorem XlC:∀ (k n:Nat),n<k→XlB k (n*3)=0∧XlB k (n*3+1)=1∧XlB k (n*3+2)=n+1
 |k+1,n,h=>by
  have e:XlB (k+1)=upd (upd (upd (XlB k) (k*3) 0) (k*3+1) 1) (k*3+2) (k+1):=rfl;rw [e];by_cases a:n=k
  ·subst a;exact ⟨by rw [Xvv _ _ (by omega),Xvv _ _ (by omega),Xvw],by rw [Xvv _ _ (by omega),Xvw],Xvw ..⟩
  ·rw [Xvv _ _ (by omega),Xvv _ _ (by omega),Xvv _ _ (by omega),Xvv _ _ (by omega),Xvv _ _ (by omega),Xvv _ _ (by omega),Xvv _ _ (by omega),Xvv _ _ (by omega),Xvv _ _ (by omega)];exact XlC k n (by omega)
theorem XjT {f:Nat→Int} {N:Nat} (h:∀ n,n<N→f (n*3+2)=n+1):∀ (m k:Nat),k+m=N→XjR f N k (List.range' k m)
 |0,k,e=>by show (k:Int)=N; omega
 |m+1,k,e=>by
  rw [List.range'_succ];refine ⟨rfl,?_⟩;rw [h k (by omega)];exact XjT h m (k+1) (by omega)
theorem Xou (N:Nat) (gens:Int) (w:World) (hN:1≤N∧N≤4096) (hg:1≤gens∧gens≤1023):Xan Tryz.prog 37 #[.int .i64 N,.int .i64 gens] w
 (fun v w' => ∃ P,v = .tuple #[tbV P,.int .i64 0]∧(w.heap.size≤P.tb∧w.heap.size≤P.sb)∧XbI w' P (XlR N gens) N gens∧Chg XaX w w'):=by
 refine ζe Tryz.func37 Tryz.ntmps37 rfl (ζf rfl (ζf rfl (ζf rfl (ζf rfl (Xay.make hTT (m:=N) (k:=N) rfl rfl rfl (Nat.le_refl _) (by first | omega | (show 24*N≤_; omega)) (by omega) fun sb E e1 c d Q=>ζa rfl (ζb rfl (ζn rfl fun tb s e2 a j R => ?_)))))));obtain ⟨P,eP⟩:∃ P:XbH,P=⟨tb,sb⟩:=⟨_,rfl⟩;replace c:XaE E P.sb 147 (N*3) (XlB 0):=by
  unfold XaE;rw [eP,c];exact congrArg (fun x:List Value=>some (Obj.cells x.toArray 147 (0,0))) (XwN (XlB 0) (fun _=>rfl) N)
 replace a:s.heap[P.tb]? = some (.cells (tbR P N gens 0 (fun _=>0)).toArray 145 (0,0)):=by rw [eP]; exact a
 have o:¬ P.tb=P.sb:=by rw [eP]; show ¬ tb=sb; omega
 rw [show tb=P.tb by rw [eP]];refine ζl a rfl ?_;rw [show sb=P.sb by rw [eP]];refine Xay.loop (α:=Nat) (fun k => [(0,false,.int .i64 N),(6,false,tbV P),(31,false,.int .i64 N),(32,false,.int .i64 k)])
  (fun k w'=>k≤N∧XaE w' P.sb 147 (N*3) (XlB k)∧Chg (fun z=>z=P.sb) s w') (fun k=>N - k) 0 ⟨rfl,rfl,rfl,rfl,trivial⟩ ⟨Nat.zero_le _,j.heap' c,Chg.refl _ _⟩ ?_
 rintro k F ⟨S,t,f⟩ ih;have g:=f.heap a o;refine ζa rfl (ζg rfl (fun p => ?_) fun p => ?_)
 ·have u:k<N:=by have:=of_decide_eq_true p; omega
  refine ζl g rfl (ζj rfl (ζb rfl (ζi (k*3) rfl ?_)));refine Xay.store hTT rfl (show F.heap[P.sb]? = some (.cells (Xuk (N*3) (XlB k)).toArray 147 (0,0)) from t) (Xq6 (i:=k*3) (by show 0+k*3=_; omega) (by omega)) rfl ?_;intro y G b A;exact ζa rfl (ζj rfl (ih (k+1) _ _ ⟨u,G,f.trans b⟩ (by omega) ⟨rfl,rfl,rfl,rfl,trivial⟩))
 ·have B:k=N:=by have:=of_decide_eq_false p; omega
  subst B;refine ζi 0 rfl (ζs g rfl fun y q b A => ?_);have H:=((d.trans j).since f (fun z I e=>by rw [eP] at e; have:z=sb:=e; omega)).since b (fun z I e=>by rw [eP] at e; have:z=tb:=e; have:=d.size; omega);have h:(XlR k gens).gen.length=k:=by show (List.replicate ((k:Nat):Int).toNat (1:Int)).length=k; rw [List.length_replicate,Int.toNat_natCast]
  have r:(XlR k gens).fl=List.range k:=by show List.range ((k:Nat):Int).toNat=_; rw [Int.toNat_natCast]
  have e1:(XlR k gens).live.count true=0:=by show (List.replicate ((k:Nat):Int).toNat false).count true=0; rw [List.count_replicate]; rfl
  have J:XbI y P (XlR k gens) k gens:=by
   refine ⟨XlS (by omega) hg,0,XlB k,?_,?_,?_,fun i C => ?_⟩
   ·rw [q,h];refine congrArg (fun l:List Value=>some (Obj.cells l.toArray 145 (0,0))) ?_;show tbR P k gens 0 (fun i=>if i=0 then (k:Int) else 0)=tbR P k gens 0 _
    refine XuJ ?_ ?_ ?_
    ·show (k:Int)=((XlR k gens).fl.length:Nat)
     rw [r,List.length_range]
    ·show (0:Int)=((XlR k gens).live.count true:Nat)
     rw [e1]; rfl
    ·show (0:Int)=((XlR k gens).gen.length:Nat) - (XlR k gens).fl.length - ((XlR k gens).live.count true:Nat)
     rw [h,r,e1,List.length_range]; omega
   ·rw [h]; exact b.heap t (fun e=>o e.symm)
   ·rw [h,r,List.range_eq_range'];exact XjT (fun n K=>(XlC k n K).2.2) k 0 (by omega)
   ·rw [h] at C;obtain ⟨L,M,_⟩:=XlC k i C;have O:(XlR k gens).live[i]? = some false:=by show (List.replicate ((k:Nat):Int).toNat false)[i]? = _; rw [List.getElem?_replicate,if_pos (by omega)]
    have D:(XlR k gens).gen[i]? = some 1:=by show (List.replicate ((k:Nat):Int).toNat (1:Int))[i]? = _; rw [List.getElem?_replicate,if_pos (by omega)]
    rw [L,M,Xg5 D];refine ⟨?_,rfl⟩;unfold tbW;rw [Xg5 O,Xg5 D,if_neg (by decide),if_pos (show (1:Int)≤(XlR (k:Nat) gens).most from hg.1)]
  exact ζr Tryz.func37 rfl ⟨P,rfl,⟨by rw [eP]; show _≤tb; have:=d.size; omega,by rw [eP]; show _≤sb; omega⟩,J,H⟩
def zsT (s:StM):List Int:=s.th.map szT
section
variable {c:Conf} {s:StM} {pd:Option (Nat × PlcM)}
theorem Xxa {l:List (Option ThM)} {o:Nat} {y:Option ThM}:(l.set o y).map szT=(l.map szT).set o (szT y):=List.map_set
theorem Xq9 {α:Type} {l:List α} {o:Nat} {x:α} (h:l[o]? = some x):l.set o x=l:=by
 obtain ⟨a,e⟩:=List.getElem?_eq_some_iff.1 h;rw [← e,List.set_getElem_self]
theorem XwY {o:Nat} {x:Option ThM} (h:s.th[o]? = some x):(zsT s)[o]? = some (szT x):=by unfold zsT; rw [List.getElem?_map,h]; rfl
theorem Xw3 (h:s.Ok c) (k:Nat) (n:Int):zsT (Xs3 s k n)=zsT s:=by
 unfold Xs3;cases hm:Xs8 s (k:Nat) with
 |none=>rfl
 |some m =>
  obtain ⟨j,ej,d,a⟩:=Xlu hm;obtain ⟨⟨o,t,e1,e2,e3⟩,_⟩:=h.mv j m a;simp only
  split
  ·rfl
  ·have b:Xti s m.who=t.size:=by rw [e1]; exact Xtj e2
   show (s.th.set m.who.toNat _).map szT=_
   rw [show m.who.toNat=o by omega,Xxa,b];show (zsT s).set o t.size=zsT s
   exact Xq9 (XwY e2)
theorem XwZ (c:Conf) (s:StM) (k:Nat):zsT (XsV c s k)=zsT s:=by unfold zsT; rw [(Xdi c s k).1]
theorem Xw1 (h:s.Ok c) (κ:Int):zsT (Xs0 s κ)=zsT s:=by
 unfold Xs0;split
 ·rfl
 ·exact Xw3 h _ _
theorem Xw0 {o:Nat} {q:PlcM} (h:s.OkP c (some (o,q))):zsT (XsZ c s q)=zsT s:=by
 unfold XsZ;split
 ·rfl
 ·rw [Xw3 (StM.OkP.begin h.dropped _),XwZ]; rfl
theorem Xw5 (c:Conf) (s:StM) (o:Nat) (size:Int):zsT (Xs6 c s (o:Nat) size)=(zsT s).set o size:=by
 show (s.th.set (o:Int).toNat _).map szT=_
 rw [Int.toNat_natCast,Xxa];rfl
theorem Xxg (s:StM) (o:Int) (i n:Nat):zsT (Xto s o i n)=zsT s:=by unfold zsT; rw [XwD]
theorem XwX (h:s.Ok c) (o size:Int):zsT (XsT c s o size)=if XsU c s o size=0 then (zsT s).set o.toNat size else zsT s:=by
 unfold XsT;split
 ·rename_i a
  obtain ⟨j,rfl,_⟩:=Xci a;rw [Xw5,Int.toNat_natCast]
 ·rfl
theorem Xw2 (h:s.Ok c) (o:Int):zsT (Xs2 c s o)=if XmC s o=0 then (zsT s).set o.toNat 0 else zsT s:=by
 unfold Xs2;by_cases a:XmC s o=0
 ·rw [if_neg (fun h=>h a),if_pos a];obtain ⟨j,t,rfl,ht⟩:=XmD a;rw [Xta ht,Int.toNat_natCast];obtain ⟨t',b,_,_,_,d⟩:=Xgl h ht;have e:=(h.finish t.q.cls).away b d;rw [Xta b,Xw0 e];show ((Xs0 s t.q.cls).th.set j none).map szT=_
  rw [Xxa];show (zsT (Xs0 s t.q.cls)).set j 0=_
  rw [Xw1 h]
 ·rw [if_pos a,if_neg a]
theorem Xw7 (h:s.Ok c) {o:Nat} {t:ThM} {size:Int} (ht:s.th[o]? = some (some t)) (hs:Xtp c t.size size=false) (hf:Xs1 c s size=0):zsT (Xs7 c s o size)=(zsT s).set o size:=by
 obtain ⟨t',M⟩:=Xlc h ht hs hf;unfold Xs7;simp only
 rw [Xta ht,Xta M.th1,Xtj ht,Xw0 (M.ok2.put _ _ (Xvb M.ok1.bi _ _))];show zsT (Xs6 c (XeQ (Xs0 s t.q.cls) _) (o:Nat) size)=_
 rw [Xw5];show (zsT (Xs0 s t.q.cls)).set o size=_
 rw [Xw1 h]
theorem Xw9 (h:s.Ok c) (o size:Int):zsT (Xtd c s o size)=if Xte c s o size=0 then (zsT s).set o.toNat size else zsT s:=by
 unfold Xtd;by_cases b:Xte c s o size=0
 ·rw [if_neg (fun h=>h b),if_pos b];obtain ⟨j,t,rfl,ht,e,d⟩:=Xpd b;rw [Xtj ht,Int.toNat_natCast];have e1:∀ (s':StM) q,zsT (Xth s' (j:Nat) ⟨size,q⟩)=(zsT s').set j size:=fun s' q=>by
   show (s'.th.set (j:Int).toNat _).map szT=_
   rw [Int.toNat_natCast,Xxa];rfl
  split
  ·split
   ·rw [Xxg,e1]; rfl
   ·rw [e1]
  ·rename_i a
   have a:Xtp c t.size size=false:=by simpa using a
   exact Xw7 h ht a (d.resolve_left (by rw [a]; decide)).2
 ·rw [if_pos b,if_neg b]
theorem Xw8 (c:Conf) (s:StM) (o i n:Int):zsT (Xtb c s o i n)=zsT s:=by unfold Xtb; split <;> rfl
theorem Xxf (c:Conf) (s:StM) (o i:Int) (l:List Int):zsT (Xtn c s o i l)=zsT s:=by
 unfold Xtn;split
 ·rw [Xxg]; rfl
 ·rfl
theorem Xxd (h:s.Ok c) (n:Int) (k:Nat):zsT (tickK c (s,n) k).1=zsT s:=by
 unfold tickK;split
 ·rfl
 ·split
  ·exact XwZ ..
  ·rw [Xw3 (StM.OkP.begin h k),XwZ]
theorem Xxe (h:s.Ok c):∀ n,zsT (tickTo c s n).1=zsT s
 |0=>rfl
 |n+1=>by rw [Xu2]; exact (Xxd (h.tickTo n) _ _).trans (Xxe h n)
theorem Xxc (h:s.Ok c):zsT (Xtm c s)=zsT s:=Xxe h _
theorem Xxb (s:StM) (k keep:Int):zsT (Xtf s k keep)=zsT s:=by unfold Xtf; split <;> rfl
theorem Xw4 (h:s.OkP c pd) (o:Nat):(∃ t,s.th[o]? = some (some t))↔1≤(zsT s).getD o 0:=by
 constructor
 ·rintro ⟨t,ht⟩;rw [List.getD_eq_getElem?_getD,XwY ht];exact (h.size o t ht).1
 ·intro a;cases ht:s.th[o]? with
  |none =>
   rw [List.getD_eq_getElem?_getD,show (zsT s)[o]? = none by unfold zsT; rw [List.getElem?_map,ht]; rfl] at a;exact absurd a (by decide)
  |some x =>
   cases x with
   |none =>
    rw [List.getD_eq_getElem?_getD,XwY ht] at a;exact absurd a (by decide)
   |some t=>exact ⟨t,rfl⟩
theorem Xw6:(zsT s).length=s.th.length:=List.length_map _
end
theorem XbC.ones {F Fr:Nat→Prop} {w w':World} {S:Sto} {s:StM} {by':Int} {mo:Mo} (h:XbC F Fr w S s by' mo) {X:Nat→Prop} (he:∀ b,X b→Xas F w S b) (hc:Chg X w w'):XbC F Fr w' S s by' mo:=by
 refine h.other hc he ?_;intro al d k sz q c;obtain ⟨v,g,x,i,j⟩:=h.th;have:=g.uniq d;subst this;by_cases a:∀ (o:Nat) t,s.th[o]? = some (some t)→(o:Int)≠k
 ·rw [j k a] at c; cases c
 ·simp only [Classical.not_forall,Decidable.not_not] at a;obtain ⟨o,l,m,n⟩:=a;obtain ⟨y,_,f,_,_,p⟩:=i o l m;rw [n,c] at f;have e:=XuQ (Option.some.inj f);rw [e];intro b' off s' e' r;obtain ⟨t,u,ht⟩:=(he b' r).kd;have:=p b' off s' e';rw [u] at this;exact ht.2.2 (Option.some.inj (Option.some.inj this))
structure HpM where
 st:StM
 tb:TbM
abbrev hpV (H:Nat):Value := .pointer (some ⟨H,0,none⟩)
def Xpa (e g:Int) (b:Value) (s:Int):Value := .agg #[.int .i64 e,.int .i64 g,b,.int .i64 s]
abbrev XlU:Value := .slice none 0 0
structure Hm (c:Conf) (n0:Nat) (w0 w:World) (F:Nat→Prop) (S:Sto) (H:Nat) (P:XbH) (s:StM) (t:TbM):Prop where
 lv:Lv c n0 w0 w F S s
 obj:w.heap[H]? = some (.cells [XtA S,tbV P,.int .i64 c.size].toArray 89 (0,0))
 tb:XbI w P t c.slots c.gens
 low:(n0≤P.tb∧n0≤P.sb)∧w0.heap.size≤P.tb∧w0.heap.size≤P.sb
 out:¬ F H ∧ ¬ F P.tb ∧ ¬ F P.sb
def Xib (F:Nat→Prop) (P:XbH):Nat→Prop:=fun z=>F z∨XuC P z
def Xaz (c:Conf) (n0:Nat) (w0 w:World) (F:Nat→Prop) (S:Sto) (H:Nat) (P:XbH) (s:StM) (t:TbM) (w':World):Prop :=
 ∃ F',Hm c n0 w0 w' F' S H P s t∧(∀ z,F' z→F z∨w.heap.size≤z)∧Chg (Xib F P) w w'
section
variable {c:Conf} {n0:Nat} {w0 w w':World} {F:Nat→Prop} {S:Sto} {H:Nat} {P:XbH} {s s':StM} {t t':TbM}
theorem Lv.ones (h:Lv c n0 w0 w F S s) {X:Nat→Prop} (hX:∀ b,X b→n0≤b∧w0.heap.size≤b ∧ ¬ F b ∧ ∃ t,kd w b=some (some t)∧t≠329∧t≠325∧t≠3) (hc:Chg X w w'):Lv c n0 w0 w' F S s:=by
 obtain ⟨Fr,mo,a⟩:=h.ok;obtain ⟨f1,f2,k,l,m,n,d,f⟩:=h.fx;refine {h with ok:=⟨Fr,mo,a.ones (fun b g => ?_) hc⟩,chg:=h.chg.since hc (fun z o e=>by have:=(hX z e).2.1; omega)};obtain ⟨p,q,i,t,j,ht⟩:=hX b g;exact ⟨i,⟨by omega,by omega,by omega,by omega,by omega,by omega⟩,fun off s e=>by have:=d _ _ _ e; omega,fun off s e=>by have:=f _ _ _ e; omega,t,j,ht⟩
theorem Hm.grow (h:Hm c n0 w0 w F S H P s t) (hc:Chg XaX w w'):Hm c n0 w0 w' F S H P s t:={h with lv:=h.lv.grow hc,obj:=hc.heap' h.obj,tb:=h.tb.grow hc}
theorem Hm.ne (h:Hm c n0 w0 w F S H P s t):¬ XuC P H:=fun e=>by
 obtain ⟨a,b⟩:=h.tb.kd;have:=XiO h.obj;exact e.elim (fun e=>by rw [← e,this] at a; cases a) (fun e=>by rw [← e,this] at b; cases b)
theorem Hm.store (h:Hm c n0 w0 w F S H P s t) (hl:XaJ c n0 w0 w F S s' w'):Xaz c n0 w0 w F S H P s' t w':=by
 obtain ⟨F',j,a,b⟩:=hl;obtain ⟨d,f,i⟩:=h.out;obtain ⟨k,l⟩:=h.tb.lt;exact ⟨F',⟨j,b.heap h.obj d,h.tb.chg b f i,h.low,fun z=>(a _ z).elim d (fun g=>by have:=Xkj h.obj; omega),fun z=>(a _ z).elim f (fun g=>by omega),fun z=>(a _ z).elim i (fun g=>by omega)⟩,a,b.mono fun _ _ e => .inl e⟩
theorem Hm.table (h:Hm c n0 w0 w F S H P s t) (hT:XbI w' P t' c.slots c.gens) (hc:Chg (XuC P) w w'):Xaz c n0 w0 w F S H P s t' w':=by
 obtain ⟨k,a,d⟩:=h.out;obtain ⟨f,g⟩:=h.tb.kd;refine ⟨F,⟨h.lv.ones (fun b i => ?_) hc,hc.heap h.obj h.ne,hT,h.low,h.out⟩,fun z j => .inl j,hc.mono fun _ _ e => .inr e⟩;rcases i with rfl | rfl
 ·exact ⟨h.low.1.1,h.low.2.1,a,_,f,by decide⟩
 ·exact ⟨h.low.1.2,h.low.2.2,d,_,g,by decide⟩
theorem Hm.self (h:Hm c n0 w0 w F S H P s t) (hc:Chg XaX w w'):Xaz c n0 w0 w F S H P s t w':=⟨F,h.grow hc,fun _ h => .inl h,hc.mono fun _ _ h=>h.elim⟩
theorem Xaz.up {w1:World} (h:Xaz c n0 w0 w1 F S H P s t w') (hc:Chg XaX w w1):Xaz c n0 w0 w F S H P s t w':=by
 obtain ⟨F',a,b,d⟩:=h;have:=hc.size;exact ⟨F',a,fun z e=>(b z e).imp id (by omega),(hc.mono fun _ _ h=>h.elim).trans d⟩
theorem Xaz.on {w1:World} (h:Xaz c n0 w0 w F S H P s t w1) (hc:Chg XaX w1 w'):Xaz c n0 w0 w F S H P s t w':=by
 obtain ⟨F',a,b,d⟩:=h;exact ⟨F',a.grow hc,b,d.trans (hc.mono fun _ _ h=>h.elim)⟩
theorem Xaz.box {w1:World} (h:Xaz c n0 w0 w F S H P s t w1) {b ty:Nat} (hF:∀ F',(∀ z,F' z→F z∨w.heap.size≤z)→Hm c n0 w0 w1 F' S H P s t → ¬ F' b) (hn:n0≤b∧w.heap.size≤b) (hk:kd w1 b=some (some ty)) (ht:(ty≠329∧ty≠325∧ty≠3)∧ty≠89∧ty≠145∧ty≠147) (h0:w0.heap.size≤b) (hc:Chg (fun z=>z=b) w1 w'):Xaz c n0 w0 w F S H P s t w':=by
 obtain ⟨F',a,d,i⟩:=h;obtain ⟨f,g⟩:=a.tb.kd;have kH:=XiO a.obj;refine ⟨F',⟨a.lv.ones (fun z e => ?_) hc,hc.heap a.obj (fun e => ?_),a.tb.chg hc (fun e => ?_) (fun e => ?_),a.low,a.out⟩,d,i.since hc (fun z j e=>by omega)⟩
 ·subst e; exact ⟨hn.1,h0,hF F' d a,ty,hk,ht.1⟩
 ·rw [e,hk] at kH; exact ht.2.1 (Option.some.inj (Option.some.inj kH))
 ·rw [e,hk] at f; exact ht.2.2.1 (Option.some.inj (Option.some.inj f))
 ·rw [e,hk] at g; exact ht.2.2.2 (Option.some.inj (Option.some.inj g))
end
theorem XgF {m:Nat} (h0:0<m) (h1:m<2 ^ 53):Ieee.double.nearest false m 0=(m.log2+1022)*2 ^ 52+m*2 ^ (52 - m.log2):=by
 have a:m.log2≤52:=by have:=(Nat.log2_lt (by omega)).2 h1; omega
 have b:m*2 ^ (52 - m.log2)<2 ^ 53:=by
  have:=Nat.lt_log2_self (n:=m)
  calc m*2 ^ (52 - m.log2)<2 ^ (m.log2+1)*2 ^ (52 - m.log2):=Nat.mul_lt_mul_of_pos_right this (Nat.pow_pos (by decide))
   _=2 ^ 53:=by rw [← Nat.pow_add]; congr 1; omega
 unfold Ieee.Format.nearest;rw [if_neg (by omega)];have e1:max ((0:Int)+m.log2 - Ieee.double.fractionBits) Ieee.double.leastPlace=m.log2 - 52:=by
  rw [show (Ieee.double.leastPlace:Int) = -1074 from rfl,show Ieee.double.fractionBits=52 from rfl]; omega
 simp only [e1];rw [show ((0:Int) - ((m.log2:Int) - 52)).toNat=52 - m.log2 by omega,show ((m.log2:Int) - 52 - 0).toNat=0 by omega];have e2:Ieee.Toward.even.cut false (m <<< (52 - m.log2)) 0=m*2 ^ (52 - m.log2):=by
  unfold Ieee.Toward.cut;simp [Nat.shiftLeft_eq,Nat.mod_one]
 rw [e2,show (((m.log2:Int) - 52) - Ieee.double.leastPlace).toNat=m.log2+1022 by rw [show (Ieee.double.leastPlace:Int) = -1074 from rfl]; omega];show (if false=true then _ else _)=_
 rw [if_neg (by decide),show Ieee.double.binade=2 ^ 52 from rfl,show Ieee.double.infRung=2047*2 ^ 52 from rfl];omega
theorem XgI {r:Nat} (h1:2 ^ 52≤r) (h2:r<2047*2 ^ 52):Ieee.double.read r = .number false (2 ^ 52+r % 2 ^ 52) (-1074+((r / 2 ^ 52 - 1:Nat):Int)):=by
 unfold Ieee.Format.read;rw [show Ieee.double.signWeight=2 ^ 63 from rfl,show Ieee.double.binade=2 ^ 52 from rfl,show Ieee.double.infRung=2047*2 ^ 52 from rfl,show (Ieee.double.leastPlace:Int) = -1074 from rfl];have e1:r / 2 ^ 63=0:=Nat.div_eq_of_lt (by omega);have e2:r % 2 ^ 63=r:=Nat.mod_eq_of_lt (by omega);simp only [e1,e2];rw [if_neg (by omega),if_pos h2];rfl
theorem XgC {m:Nat} (h0:0<m) (h1:m<2 ^ 53):Ieee.double.read (Ieee.double.nearest false m 0) = .number false (m*2 ^ (52 - m.log2)) (m.log2 - 52)∧2 ^ 52≤m*2 ^ (52 - m.log2)∧m*2 ^ (52 - m.log2)<2 ^ 53∧m.log2≤52:=by
 have a:m.log2≤52:=by have:=(Nat.log2_lt (by omega)).2 h1; omega
 have b:m*2 ^ (52 - m.log2)<2 ^ 53:=by
  have:=Nat.lt_log2_self (n:=m)
  calc m*2 ^ (52 - m.log2)<2 ^ (m.log2+1)*2 ^ (52 - m.log2):=Nat.mul_lt_mul_of_pos_right this (Nat.pow_pos (by decide))
   _=2 ^ 53:=by rw [← Nat.pow_add]; congr 1; omega
 have hm:2 ^ 52≤m*2 ^ (52 - m.log2):=by
  have:=Nat.log2_self_le (n:=m) (by omega)
  calc 2 ^ 52=2 ^ m.log2*2 ^ (52 - m.log2):=by rw [← Nat.pow_add]; congr 1; omega
   _≤m*2 ^ (52 - m.log2):=Nat.mul_le_mul_right _ this
 refine ⟨?_,hm,b,a⟩;rw [XgF h0 h1,XgI (by omega) (by omega)];generalize m*2 ^ (52 - m.log2)=M at *
 congr 1
 ·omega
 ·omega
theorem Xj3 {q k:Nat} (h1:2 ^ k≤q) (h2:q<2 ^ (k+1)):q.log2=k:=by
 have c:q≠0:=by have:=Nat.pow_pos (n:=k) (show 0<2 by decide); omega
 have a:=(Nat.log2_lt c).2 h2;have b:¬ q.log2<k:=fun h=>by have:=(Nat.log2_lt c).1 h; omega
 omega
theorem XfA {q d:Nat} (hd:d≤q.log2):∃ x,x≤1∧Ieee.Toward.even.cut false q d=q / 2 ^ d+x∧(q % 2 ^ d=0→x=0):=by
 unfold Ieee.Toward.cut;rw [Nat.min_eq_left (by omega),Nat.shiftLeft_eq,Nat.one_mul];refine ⟨_,?_,rfl,fun h => ?_⟩
 ·exact Bool.toNat_le _
 ·simp only [h];have:=Nat.pow_pos (n:=d) (show 0<2 by decide);rw [decide_eq_false (by omega),show (2 ^ d == 2*0)=false from beq_eq_false_iff_ne.2 (by omega)];rfl
theorem Xgw {q y A B:Nat} (q1:18014398509481984≤q) (q2:q<36028797018963968) (y1:y≤1) (h:A≤B) (hb:B≤52):4503599627370496≤min ((A+967+54 - B)*4503599627370496+(q / 4+y)) (2047*4503599627370496)∧min ((A+967+54 - B)*4503599627370496+(q / 4+y)) (2047*4503599627370496)≤1023*4503599627370496:=by omega
theorem Xgx {q y A B:Nat} (q1:36028797018963968≤q) (q2:q<72057594037927936) (y1:y≤1) (h:A<B) (hb:B≤52):4503599627370496≤min ((A+967+55 - B)*4503599627370496+(q / 8+y)) (2047*4503599627370496)∧min ((A+967+55 - B)*4503599627370496+(q / 8+y)) (2047*4503599627370496)≤1023*4503599627370496:=by omega
theorem Xgy {B:Nat} (hb:B≤52):4503599627370496≤min ((B+967+55 - B)*4503599627370496+(36028797018963968 / 8+0)) (2047*4503599627370496)∧min ((B+967+55 - B)*4503599627370496+(36028797018963968 / 8+0)) (2047*4503599627370496)≤1023*4503599627370496:=by omega
theorem XgH {a b:Nat} (h0:0<a) (hab:a≤b) (hb:b<2 ^ 53):∃ r,Ieee.double.div (Ieee.double.nearest false a 0) (Ieee.double.nearest false b 0)=some r∧2 ^ 52≤r∧r≤1023*2 ^ 52:=by
 obtain ⟨ea,w,z,O⟩:=XgC h0 (by omega);obtain ⟨eb,C,D,g⟩:=XgC (show 0<b by omega) hb;have m:a.log2≤b.log2:=by
  by_cases h:a.log2≤b.log2
  ·exact h
  ·have:=(Nat.log2_lt (n:=b) (k:=a.log2) (by omega)).1 (by omega);have:=Nat.log2_self_le (n:=a) (by omega);omega
 have f:a.log2=b.log2→a*2 ^ (52 - a.log2)≤b*2 ^ (52 - b.log2):=fun e=>by rw [e]; exact Nat.mul_le_mul_right _ hab
 unfold Ieee.Format.div;rw [ea,eb];generalize a*2 ^ (52 - a.log2)=M at *
 generalize b*2 ^ (52 - b.log2)=K at *
 generalize a.log2=A at *
 generalize b.log2=B at *
 have eM:=Xj3 w z;have eK:=Xj3 C D;simp only [Ieee.Datum.quotient,eM,eK,show Ieee.double.fractionBits+2+52 - 52=54 from rfl];rw [if_neg (by omega)];simp only [Option.map_some,Nat.shiftLeft_eq];refine ⟨_,rfl,?_⟩;have P:2 ^ 53≤M*2 ^ 54 / K:=by
  rw [Nat.le_div_iff_mul_le (by omega)]; omega
 have R:M*2 ^ 54 / K<2 ^ 55:=by
  rw [Nat.div_lt_iff_lt_mul (by omega)]; omega
 have E:A=B→M*2 ^ 54 / K≤2 ^ 54:=fun e=>by
  have:=f e;have:=Nat.div_le_div_right (c:=K) (Nat.mul_le_mul_right (2 ^ 54) this);rw [Nat.mul_div_cancel_left _ (by omega)] at this;exact this
 have o:A=B→M*2 ^ 54 / K=2 ^ 54→M*2 ^ 54 % K=0:=fun e h=>by
  have:=f e;have F:=Nat.div_add_mod (M*2 ^ 54) K;rw [h] at F;omega
 generalize M*2 ^ 54 / K=Q at *
 have p:(M*2 ^ 54 % K != 0).toNat≤1∧(M*2 ^ 54 % K=0→(M*2 ^ 54 % K != 0).toNat=0):=⟨by cases (M*2 ^ 54 % K != 0) <;> decide,fun h=>by rw [h]; rfl⟩;obtain ⟨x,s⟩:∃ x,x=(M*2 ^ 54 % K != 0).toNat:=⟨_,rfl⟩;rw [← s] at p ⊢;have G:A=B→Q=2 ^ 54→x=0:=fun e h=>p.2 (o e h)
 clear o s
 show 2 ^ 52≤Ieee.double.nearest false (2*Q+x) _∧Ieee.double.nearest false (2*Q+x) _≤_
 obtain ⟨l,H,i,j⟩:∃ l,(l=54∨l=55)∧2 ^ l≤2*Q+x∧2*Q+x<2 ^ (l+1):=by
  by_cases h:2*Q+x<2 ^ 55
  ·exact ⟨54,.inl rfl,by omega,by omega⟩
  ·exact ⟨55,.inr rfl,by omega,by omega⟩
 have el:=Xj3 i j;have t:2*Q+x≠0:=by omega
 have I:A=B→l=55→2*Q+x=2 ^ 55:=fun e h=>by
  subst h;have:=E e;have:Q=2 ^ 54:=by omega
  have:=G e this;omega
 generalize 2*Q+x=q at *
 unfold Ieee.Format.nearest;rw [if_neg t,el];have e1:max ((A:Int) - 52 - ((B:Int) - 52) - (54:Nat) - 1+l - Ieee.double.fractionBits) Ieee.double.leastPlace=(A:Int) - B - 107+l:=by
  rw [show (Ieee.double.leastPlace:Int) = -1074 from rfl,show Ieee.double.fractionBits=52 from rfl]; omega
 simp only [e1];rw [show ((A:Int) - 52 - ((B:Int) - 52) - (54:Nat) - 1 - ((A:Int) - B - 107+l)).toNat=0 by omega,show ((A:Int) - B - 107+l - ((A:Int) - 52 - ((B:Int) - 52) - (54:Nat) - 1)).toNat=l - 52 by omega];rw [Nat.shiftLeft_zero,show (((A:Int) - B - 107+l) - Ieee.double.leastPlace).toNat=A+967+l - B by rw [show (Ieee.double.leastPlace:Int) = -1074 from rfl]; omega];obtain ⟨y,u,J,v⟩:=XfA (q:=q) (d:=l - 52) (by omega);rw [J];show 2 ^ 52≤(if false=true then _ else _)∧(if false=true then _ else _)≤_
 rw [if_neg (by decide),show Ieee.double.binade=2 ^ 52 from rfl,show Ieee.double.infRung=2047*2 ^ 52 from rfl];obtain rfl | rfl:=H
 ·exact Xgw i j u m g
 ·by_cases e:A=B
  ·have L:=I e rfl;rw [L] at v ⊢;have N:=v (by decide);rw [N,e];exact Xgy g
  ·exact Xgx i j u (by omega) g
theorem XgB {r:Nat} (h1:2 ^ 52≤r) (h2:r≤1023*2 ^ 52):Ieee.double.order r 0=some .gt:=by
 unfold Ieee.Format.order;rw [XgI h1 (by omega),show Ieee.double.read 0 = .number false 0 (-1074) from rfl];simp only [Ieee.Datum.order,Ieee.signed,Nat.shiftLeft_eq,Nat.zero_mul];refine congrArg some ?_;rw [if_neg (by decide),if_neg (by decide)];refine Int.compare_eq_gt.2 ?_;have:0<(2 ^ 52+r % 2 ^ 52)*2 ^ (-1074+((r / 2 ^ 52 - 1:Nat):Int) - min (-1074+((r / 2 ^ 52 - 1:Nat):Int)) (-1074)).toNat:=Nat.mul_pos (by omega) (Nat.pow_pos (by decide));omega
theorem XgD {r:Nat} (h1:2 ^ 52≤r) (h2:r≤1023*2 ^ 52):Ieee.double.order r 4607182418800017408≠some .gt:=by
 unfold Ieee.Format.order;rw [XgI h1 (by omega),show Ieee.double.read 4607182418800017408 = .number false (2 ^ 52) (-52) from rfl];simp only [Ieee.Datum.order,Ieee.signed,Nat.shiftLeft_eq];rw [if_neg (by decide),if_neg (by decide),Int.min_eq_left (by omega)];intro h;have h:=Int.compare_eq_gt.1 (Option.some.inj h);by_cases e:r=1023*2 ^ 52
 ·subst e
  revert h
  decide
 ·have:(-1074+((r / 2 ^ 52 - 1:Nat):Int) - (-1074+((r / 2 ^ 52 - 1:Nat):Int))).toNat=0:=by omega
  rw [this] at h;obtain ⟨k,a⟩:∃ k,(-52 - (-1074+((r / 2 ^ 52 - 1:Nat):Int))).toNat=k+1:=⟨(-52 - (-1074+((r / 2 ^ 52 - 1:Nat):Int))).toNat - 1,by omega⟩;have b:2 ^ 52*2 ^ (k+1)≥2 ^ 53:=by
   rw [Nat.pow_succ];have:=Nat.pow_pos (n:=k) (show 0<2 by decide);omega
  rw [a] at h;generalize 2 ^ 52*2 ^ (k+1)=y at *
  omega
theorem Xgz {r:Nat} (h1:2 ^ 52≤r) (h2:r≤1023*2 ^ 52):Ieee.double.order r r=some .eq:=by
 unfold Ieee.Format.order;rw [XgI h1 (by omega)];simp only [Ieee.Datum.order];exact congrArg some (Int.compare_eq_eq.2 rfl)
theorem Xm1 {a b:Int} (h0:0<a) (hab:a≤b) (hb:b<9007199254740992) {r:Nat} (h:XoK (FloatKind.nearest .f64 a) (FloatKind.nearest .f64 b) r):Xf8 .gtr r 0=some true∧Xf8 .gtr r 4607182418800017408=some false∧Xf8 .eql r r=some true∧Xf8 .neq r r=some false:=by
 obtain ⟨a,rfl⟩:=Int.eq_ofNat_of_zero_le (show 0≤a by omega);obtain ⟨b,rfl⟩:=Int.eq_ofNat_of_zero_le (show 0≤b by omega);obtain ⟨r',e,c,d⟩:=XgH (a:=a) (b:=b) (by omega) (by omega) (by omega);have en:∀ m:Nat,FloatKind.nearest .f64 (m:Int)=Ieee.double.nearest false m 0:=fun m=>by
  show Ieee.double.nearest (decide ((m:Int)<0)) (m:Int).natAbs 0=_
  rw [decide_eq_false (by omega),Int.natAbs_natCast]
 unfold XoK at h;rw [en,en,show (FloatKind.format .f64).div=Ieee.double.div from rfl,e] at h;subst h;unfold Xf8;rw [show (FloatKind.format .f64).order=Ieee.double.order from rfl,XgB c d,Xgz c d];refine ⟨rfl,?_,rfl,rfl⟩;have:=XgD c d;refine congrArg some ?_;rw [beq_eq_false_iff_ne];exact this
theorem Xm0 {r:Nat} (h:XoK (FloatKind.nearest .f64 0) (FloatKind.nearest .f64 0) r):Xf8 .eql r r=some false∧Xf8 .neq r r=some true:=by
 unfold XoK at h;rw [show (FloatKind.format .f64).div (FloatKind.nearest .f64 0) (FloatKind.nearest .f64 0)=none from rfl] at h;obtain ⟨t,rfl⟩:=h;have:(FloatKind.format .f64).order (t % 2*2 ^ 63+9218868437227405312+1+t / 2 % (2 ^ 52 - 1)) (t % 2*2 ^ 63+9218868437227405312+1+t / 2 % (2 ^ 52 - 1))=none:=by
  have a:t / 2 % (2 ^ 52 - 1)<2 ^ 52 - 1:=Nat.mod_lt _ (by decide);generalize t / 2 % (2 ^ 52 - 1)=u at *
  have b:t % 2<2:=Nat.mod_lt _ (by decide);generalize t % 2=z at *
  have:∃ sg fr,Ieee.double.read (z*2 ^ 63+9218868437227405312+1+u) = .nan sg fr:=by
   unfold Ieee.Format.read;rw [show Ieee.double.signWeight=2 ^ 63 from rfl,show Ieee.double.binade=2 ^ 52 from rfl,show Ieee.double.infRung=2047*2 ^ 52 from rfl];have e2:(z*2 ^ 63+9218868437227405312+1+u) % 2 ^ 63=9218868437227405312+1+u:=by omega
   simp only [e2];rw [if_neg (by omega),if_neg (by omega),if_neg (by omega)];exact ⟨_,_,rfl⟩
  obtain ⟨sg,fr,e⟩:=this;show Ieee.Format.order _ _ _=_
  unfold Ieee.Format.order;rw [show FloatKind.format .f64=Ieee.double from rfl,e];rfl
 unfold Xf8;rw [show (FloatKind.format .f64).order=(FloatKind.format .f64).order from rfl,this];exact ⟨rfl,rfl⟩
theorem XoN (a b:Int) (w:World):Xan Tryz.prog 60 #[.int .i64 a,.int .i64 b] w (fun v w' => ∃ r,v = .float .f64 r∧XoK (FloatKind.nearest .f64 a) (FloatKind.nearest .f64 b) r∧Chg XaX w w'):=by
 exact ζe Tryz.func60 Tryz.ntmps60 rfl (Xay.fconv hTT rfl rfl (Xay.fconv hTT rfl rfl (Xay.fquo hTT rfl (fun _=>rfl) fun r e d c=>ζr Tryz.func60 rfl ⟨r,rfl,d,c⟩)))
section
variable {c:Conf} {n0:Nat} {w0 w:World} {F:Nat→Prop} {S:Sto} {H:Nat} {P:XbH} {s:StM} {t:TbM}
theorem XhI (h:Hm c n0 w0 w F S H P s t):Xan Tryz.prog 12 #[hpV H] w (Xbs (.int .i64 (XuF t:Nat)) w):=by
 exact ζe Tryz.func12 Tryz.ntmps12 rfl (ζl h.obj rfl (ζw (Xos h.tb) rfl (ζr Tryz.func12 rfl ⟨rfl,rfl⟩)))
theorem XhH (h:Hm c n0 w0 w F S H P s t):Xan Tryz.prog 13 #[hpV H] w (Grow (.int .i64 (XhV s.rm.pl:Nat)) w):=by
 exact ζe Tryz.func13 Tryz.ntmps13 rfl (ζl h.obj rfl (ζv (Xko h.lv) rfl fun b a=>ζr Tryz.func13 rfl ⟨rfl,a⟩))
theorem XhE (h:Hm c n0 w0 w F S H P s t):Xan Tryz.prog 22 #[hpV H] w (fun v w' => ∃ r,v = .float .f64 r∧XoK (FloatKind.nearest .f64 (XsW s)) (FloatKind.nearest .f64 ((XhV s.rm.pl:Nat)*c.size)) r∧Chg XaX w w'):=by
 have a:=XkN h.lv.inv.may;have e:((XhV s.rm.pl:Nat):Int)≤1024:=by
  have:=XnB s.rm.pl.own;have:=h.lv.inv.rm.ok.own;have:=a.pages;unfold XhV;omega
 have i:0≤((XhV s.rm.pl:Nat):Int)*c.size∧((XhV s.rm.pl:Nat):Int)*c.size≤1024*4096:=⟨Int.mul_nonneg (by omega) (by have:=a.size; omega),Int.mul_le_mul e (by have:=a.size; omega) (by have:=a.size; omega) (by decide)⟩;refine ζe Tryz.func22 Tryz.ntmps22 rfl (ζd 11 XaX (by kernel_rfl) rfl fun b=>δl b h.obj rfl (δv b (fun w' d=>Xkl (h.lv.grow d)) rfl (δv b (fun w' d=>XhH (h.grow d)) rfl (δl b h.obj rfl (δn b rfl fun j f=>ζj rfl (ζc rfl (XoN _ _ j) ?_))))));rintro _ l ⟨r,rfl,k,g⟩;exact ζa rfl (ζr Tryz.func22 rfl ⟨r,rfl,k,f.trans g⟩)
end
def Xaj (n:Nat) (F:Nat→Prop) (l:List Int) (b:Value) (w:World):Prop := ∃ a cap,b = .slice a l.length cap∧Rd .u8 w a l ∧ ∀ b' off s',a=some ⟨b',off,s'⟩→(n≤b'∧b'<w.heap.size) ∧ ¬ F b'
theorem Xaj.none (n:Nat) (F:Nat→Prop) (w:World):Xaj n F [] XlU w:=⟨_,_,rfl,Rd.nil _ _ _,by intro b' off s' e; cases e⟩
theorem Xaj.chg {n:Nat} {F:Nat→Prop} {l:List Int} {b:Value} {w w':World} {X:Nat→Prop} (h:Xaj n F l b w) (hc:Chg X w w') (hX:∀ z,X z→(z<n∨w.heap.size≤z)∨F z):Xaj n F l b w':=by
 obtain ⟨a,cap,e,f,c⟩:=h;refine ⟨a,cap,e,fun i j => ?_,fun b' off s' e=>⟨⟨(c b' off s' e).1.1,by have:=(c b' off s' e).1.2; have:=hc.size; omega⟩,(c b' off s' e).2⟩⟩;obtain ⟨b',off,e',d⟩:=f i j;exact ⟨b',off,e',hc.cell d (fun k=>(hX _ k).elim (fun g=>by have:=(c _ _ _ e').1; omega) (c _ _ _ e').2)⟩
theorem Xaj.low {n m:Nat} {F F':Nat→Prop} {l:List Int} {b:Value} {w:World} (h:Xaj n F l b w) (hm:m≤n) (hF:∀ z,n≤z→z<w.heap.size → ¬ F z → ¬ F' z):Xaj m F' l b w:=by
 obtain ⟨a,cap,e,d,c⟩:=h;exact ⟨a,cap,e,d,fun b' off s' e=>⟨⟨Nat.le_trans hm (c b' off s' e).1.1,(c b' off s' e).1.2⟩,hF _ (c b' off s' e).1.1 (c b' off s' e).1.2 (c b' off s' e).2⟩⟩
def XbJ (c:Conf) (n0:Nat) (w0 w:World) (F:Nat→Prop) (S:Sto) (H:Nat) (P:XbH) (s:StM) (t:TbM) (e g k:Int) (l:List Int) (v:Value) (w':World):Prop :=
 ∃ b F',v=Xpa e g b k∧Xaj w.heap.size F' l b w'∧Hm c n0 w0 w' F' S H P s t∧(∀ z,F' z→F z∨w.heap.size≤z)∧Chg (Xib F P) w w'
def XbN (c:Conf) (n0:Nat) (w0 w:World) (F:Nat→Prop) (S:Sto) (H:Nat) (P:XbH) (s:StM) (t:TbM) (e g k:Int) (l:List Int) (v:Value) (w':World):Prop :=
 ∃ b F',v=Xpa e g b k∧Xaj w.heap.size F' l b w'∧Hm c n0 w0 w' F' (S.relap s.rm.tot) H P s t∧(∀ z,F' z→F z∨w.heap.size≤z)∧Chg (Xib F P) w w'
section
variable {c:Conf} {n0:Nat} {w0 w w':World} {F:Nat→Prop} {S:Sto} {H:Nat} {P:XbH} {s:StM} {t:TbM} {x:HpM}
theorem Hm.low' (h:Hm c n0 w0 w F S H P s t):∀ z,F z→z<w.heap.size:=h.lv.low
theorem Hm.since0 (h:Hm c n0 w0 w F S H P s t):n0≤w.heap.size∧w0.heap.size≤w.heap.size:=by
 have:=h.tb.lt;have:=h.low;omega
theorem Hm.steps (h:Hm c n0 w0 w F S H P s t) {w':World} (hl:Lv c n0 w0 w' F (S.relap s.rm.tot) s) (hc:Chg (fun z=>z=S.mb) w w') (hF:F S.mb):Hm c n0 w0 w' F (S.relap s.rm.tot) H P s t:=by
 obtain ⟨a,b,d⟩:=h.out;exact ⟨hl,hc.heap h.obj (fun e=>a (e▸hF)),h.tb.chg hc (fun e=>b (e▸hF)) (fun e=>d (e▸hF)),h.low,h.out⟩
theorem Lv.mb (h:Lv c n0 w0 w F S s):F S.mb:=by obtain ⟨Fr,mo,a⟩:=h.ok; exact a.mb.1
theorem Hm.ones (h:Hm c n0 w0 w F S H P s t) {X:Nat→Prop} (hX:∀ q,X q→n0≤q∧w0.heap.size≤q ∧ ¬ F q ∧ ¬ XuC P q∧H≠q) (hk:∀ q,X q → ∃ ty,kd w q=some (some ty)∧ty≠329∧ty≠325∧ty≠3) (hc:Chg X w w'):Hm c n0 w0 w' F S H P s t :=
 ⟨h.lv.ones (fun q a=>⟨(hX q a).1,(hX q a).2.1,(hX q a).2.2.1,hk q a⟩) hc,hc.heap h.obj (fun e=>(hX _ e).2.2.2.2 rfl),h.tb.chg hc (fun e=>(hX _ e).2.2.2.1 (.inl rfl)) (fun e=>(hX _ e).2.2.2.1 (.inr rfl)),h.low,h.out⟩
theorem Hm.stepsD (h:Hm c n0 w0 w F S H P s t):∀ w',Chg XaX w w'→Xan Tryz.prog 47 #[XtA S] w' (fun v w2=>Chg F w' w2∧v = .int .i64 (s.rm.tot - S.R.lap)∧Lv c n0 w0 w2 F (S.relap s.rm.tot) s∧Chg (fun z=>z=S.mb) w w2∧F S.mb):=fun w' a =>
 (Xkt (h.lv.grow a)).mono fun v w2 ⟨e,f,b,d⟩=>⟨b.mono fun z _ e=>e▸d,e,f,(a.mono fun _ _ h=>h.elim).trans b,d⟩
theorem XhU (h:Hm c n0 w0 w F S H P x.st x.tb) (hlap:S.R.lap=x.st.rm.tot) (n:Int) (hn : -9223372036854775808≤n∧n≤9223372036854775807) {k:FuncId} {cap:List Value} {st':StM} {tb':TbM} {e g z:Int} {l:List Int} (hz:0≤z∧z≤2)
 (hd:tbE x.tb n=0 → ∀ w1,Chg XaX w w1→Xan Tryz.prog k (Value.int .i64 (tbN x.tb n)::cap).toArray w1 (XbJ c n0 w0 w1 F S H P st' tb' e g z l)) :
 Xan Tryz.prog 67 #[hpV H,.int .i64 n,.func (.func k) #[] cap.toArray] w
  (fun v w'=>if tbE x.tb n=0 then XbN c n0 w0 w F S H P st' tb' e g (z+(1+(st'.rm.tot - x.st.rm.tot))) l v w' else XbN c n0 w0 w F S H P x.st x.tb (tbE x.tb n) 0 1 [] v w'):=by
 have O:=h.low';have b7:=h.since0;refine ζe Tryz.func67 Tryz.ntmps67 rfl (ζn rfl fun b w1 e1 hb Q b8=>ζl (Q.heap' h.obj) rfl (ζv (Xot (h.tb.grow Q) n hn) rfl fun w2 R=>ζb rfl (ζn rfl fun d w3 e3 ak a7 b9=>ζs ak rfl fun w4 t a8 a9 => ?_)));have ba:=R.size;have o:=((Q.trans R).trans a7).since a8 (fun q a e=>by omega);have u:=a8.heap (a7.heap' (R.heap' hb)) (show ¬ b=d by omega);have h4:=h.grow o;by_cases he:tbE x.tb n=0
 ·simp only [if_pos he];refine ζy rfl (ζc rfl (hd he w4 o) ?_);rintro _ w5 ⟨bv,D,rfl,am,an,aa,T⟩;refine ζa rfl ?_;obtain ⟨a5,E,rfl,ao,ap⟩:=am;have a9:=o.size;have L:∀ q,q=b∨q=d → ¬ Xib F P q:=fun q a e=>by
   have ab:=h.tb.lt;rcases e with e | e | e
   ·have:=O q e; omega
   ·omega
   ·omega
  have U:∀ q,q=b∨q=d → ¬ D q:=fun q a e=>by
   rcases aa q e with e | e
   ·have:=O q e; omega
   ·have:=Xkj u; have:=Xkj t; omega
  have y:=U b (.inl rfl);have s:=U d (.inr rfl);have ac:=T.heap t (L d (.inr rfl));have aq:=T.heap u (L b (.inl rfl));refine ζs ac rfl fun w6 ad M bb => ?_;have ab:=h.tb.lt;have ar:∀ q,q=d→n0≤q∧w0.heap.size≤q ∧ ¬ D q ∧ ¬ XuC P q∧H≠q:=fun q a=>⟨by omega,by omega,a▸s,fun e=>by rcases e with e | e <;> omega,by have:=Xkj h.obj; omega⟩;have V:=an.ones ar (fun q a=>⟨_,a▸XiO ac,by decide⟩) M;have ae:=M.heap aq (show ¬ b=d by omega);have bc:=V.lv.inv.rm.ok.tot;have b2:=h.lv.inv.rm.ok.tot;have au:=V.out.1;refine ζd 8 D (by kernel_rfl) rfl fun j=>δl j ad rfl (δl j V.obj rfl (Xaq.callQ j rfl rfl (V.stepsD) ?_));rintro _ w7 av ⟨rfl,W,f,m⟩;refine Xaq.adv hTT j rfl (Xaq.arith hTT j rfl (w64 (by rw [hlap]; omega)) rfl (δn j rfl fun w8 i=>ζJ rfl (by rw [hlap]; omega) ?_));have G:¬ d=S.mb:=fun e=>s (e▸m);have A:=i.heap' (f.heap ad G);refine ζs A rfl fun w9 a1 B aw=>ζl a1 rfl ?_;have p:¬ b=S.mb:=fun e=>y (e▸m);have a2:=B.heap (i.heap' (f.heap ae p)) (show ¬ b=d by omega);refine ζs a2 rfl fun C r I ah => ?_;have a3:=(V.steps W f m).grow i;have ax:=f.size;have ay:=i.size;have hX:∀ q,q=b∨q=d→n0≤q∧w0.heap.size≤q ∧ ¬ D q ∧ ¬ XuC P q∧H≠q:=fun q a=>⟨by omega,by omega,a.elim (fun e=>e▸y) (fun e=>e▸s),fun e=>by
   rcases e with e | e <;> omega,by have:=Xkj h.obj; omega⟩
  have a4:∀ q,q=b∨q=d→kd w8 q=some (some 34):=fun q a=>a.elim (fun e=>e▸XiO (i.heap' (f.heap ae p))) (fun e=>e▸XiO A);have N:Chg (fun q=>q=b∨q=d) w8 C:=(B.mono fun q _ e => .inr e).trans (I.mono fun q _ e => .inl e);have J:=a3.ones hX (fun q a=>⟨_,a4 q a,by decide⟩) N;rw [hlap] at r;have bd:=O _ h.lv.mb;have hc:=((((((o.mono fun _ _ h=>h.elim).trans T).since M (fun q a e=>by omega)).since f (fun q a e => .inl (e▸h.lv.mb))).trans (i.mono fun _ _ h=>h.elim))).since N (fun q a e=>by omega);have b5:=Xkj u;have b6:=Xkj t;have az:Xaj w4.heap.size D l (.slice a5 l.length E) w5:=⟨a5,E,rfl,ao,ap⟩;have j:Xaj w.heap.size D l (.slice a5 l.length E) C:=((((az.chg M (fun q e => .inl (.inl (by omega)))).chg f (fun q e => .inl (.inl (by omega)))).chg i (fun q e=>e.elim)).chg N (fun q e => .inl (.inl (by omega)))).low a9 (fun _ _ _ h=>h);exact ζq rfl Tryz.func67 (Xbd.cell rfl rfl rfl r rfl .nil) ⟨_,D,rfl,j,J,fun q a=>(aa q a).imp id (by omega),hc⟩
 ·simp only [if_neg he];refine ζf rfl ?_;have y:¬ F b:=fun e=>by have:=O b e; omega
  have s:¬ F d:=fun e=>by have:=O d e; omega
  have K:=hlap;have au:=h4.out.1;refine ζd 8 F (by kernel_rfl) rfl fun j=>δl j t rfl (δl j h4.obj rfl (Xaq.callQ j rfl rfl (h4.stepsD) ?_));rintro _ w7 av ⟨rfl,W,f,m⟩;refine Xaq.adv hTT j rfl (Xaq.arith hTT j rfl (w64 (by rw [K]; omega)) rfl (δn j rfl fun w8 i=>ζJ rfl (by rw [K]; omega) ?_));have G:¬ d=S.mb:=fun e=>s (e▸m);have A:=i.heap' (f.heap t G);refine ζs A rfl fun w9 a1 B aw=>ζl a1 rfl ?_;have p:¬ b=S.mb:=fun e=>y (e▸m);have a2:=B.heap (i.heap' (f.heap u p)) (show ¬ b=d by omega);refine ζs a2 rfl fun C r I ah => ?_;have a3:=(h4.steps W f m).grow i;have ax:=f.size;have ay:=i.size;have hX:∀ q,q=b∨q=d→n0≤q∧w0.heap.size≤q ∧ ¬ F q ∧ ¬ XuC P q∧H≠q:=fun q a=>⟨by omega,by omega,a.elim (fun e=>e▸y) (fun e=>e▸s),fun e=>by
   have ab:=h.tb.lt;rcases e with e | e <;> omega,by have:=Xkj h.obj; omega⟩
  have a4:∀ q,q=b∨q=d→kd w8 q=some (some 34):=fun q a=>a.elim (fun e=>e▸XiO (i.heap' (f.heap u p))) (fun e=>e▸XiO A);have N:Chg (fun q=>q=b∨q=d) w8 C:=(B.mono fun q _ e => .inr e).trans (I.mono fun q _ e => .inl e);have J:=a3.ones hX (fun q a=>⟨_,a4 q a,by decide⟩) N;rw [K,Int.sub_self] at r;have hc:Chg (Xib F P) w C:=(((o.mono fun _ _ h=>h.elim).trans (f.mono fun q _ e => .inl (e▸m))).trans (i.mono fun _ _ h=>h.elim)).since N (fun q a e=>by omega);exact ζR Tryz.func67 r rfl ⟨XlU,F,rfl,.none _ _ _,J,fun q a => .inl a,hc⟩
end
section
variable {c:Conf} {n0:Nat} {w0 w w' w1 w2:World} {F F1:Nat→Prop} {S:Sto} {H:Nat} {P:XbH} {s:StM} {t:TbM} {x:HpM}
theorem Xaz.seq (hF1:∀ z,F1 z→F z∨w.heap.size≤z) (hc1:Chg (Xib F P) w w1) (h2:Xaz c n0 w0 w1 F1 S H P s t w2):Xaz c n0 w0 w F S H P s t w2:=by
 obtain ⟨F',a,b,d⟩:=h2;have:=hc1.size;exact ⟨F',a,fun z f=>(b z f).elim (hF1 z) (fun e => .inr (by omega)),hc1.since d (fun q h e=>e.elim (fun e=>(hF1 q e).elim .inl (fun g=>by omega)) .inr)⟩
theorem Hm.stores {s':StM} (h:Hm c n0 w0 w F S H P s t) (hl:Lv c n0 w0 w' F S s') (hc:Chg F w w'):Hm c n0 w0 w' F S H P s' t:=⟨hl,hc.heap h.obj h.out.1,h.tb.chg hc h.out.2.1 h.out.2.2,h.low,h.out⟩
theorem Hm.boxed (h:Hm c n0 w0 w F S H P s t) {b ty:Nat} (hb:¬ F b) (hn:n0≤b∧w0.heap.size≤b) (hP:¬ XuC P b∧H≠b) (hk:kd w b=some (some ty)) (ht:ty≠329∧ty≠325∧ty≠3) (hc:Chg (fun q=>q=b) w w'):Hm c n0 w0 w' F S H P s t :=
 h.ones (X:=fun q=>q=b) (fun q e=>e▸⟨hn.1,hn.2,hb,hP.1,hP.2⟩) (fun q e=>e▸⟨ty,hk,ht⟩) hc
theorem XhG (h:Hm c n0 w0 w F S H P s t) (slot n:Int) (hn : -9223372036854775808≤n∧n≤9223372036854775807) {a d:Nat} (ha:w.cell? ⟨a,0,none⟩=some (hpV H)) (hd:w.cell? ⟨d,0,none⟩=some (.int .i64 n)) (hFa:¬ Xib F P a) (hFd:¬ Xib F P d) :
 Xan Tryz.prog 68 #[.int .i64 slot,.pointer (some ⟨a,0,none⟩),.pointer (some ⟨d,0,none⟩)] w (XbJ c n0 w0 w F S H P (Xs2 c s slot) (XuE t n) (tbE t n) 0 2 []):=by
 have A:=h.low';have U:=h.since0;have V:=h.tb.lt;have W:=Xkj h.obj;refine ζe Tryz.func68 Tryz.ntmps68 rfl (ζn rfl fun b w1 e1 B g a0 => ?_);have l:=g.cell ha id;have C:=g.cell hd id;have v:=h.grow g;refine ζk rfl l rfl (ζl v.obj rfl ?_);refine ζc rfl (Xkn v.lv slot) ?_;rintro _ w2 ⟨rfl,D⟩;refine ζa rfl ?_;obtain ⟨F2,E,m,f⟩:=v.store D;have G:=f.cell l hFa;have I:=f.cell C hFd;have J:=f.heap B (show ¬ Xib F P b from fun e=>by
  rcases e with e | e | e
  ·have:=A b e; omega
  ·omega
  ·omega)
 refine ζd 5 XaX (by kernel_rfl) rfl fun k=>δk k G rfl (δl k E.obj rfl (δk k I rfl (δn k rfl fun w3 i => ?_)));have K:=E.grow i;refine ζc rfl (Xoq K.tb n hn) ?_;rintro _ w4 ⟨rfl,L,j⟩;refine ζa rfl ?_;obtain ⟨x,Q,o,R⟩:=K.table L j;have a1:=f.size;have a2:=i.size;have y:∀ q,x q→F q∨w.heap.size≤q:=fun q M=>(o q M).elim (fun e=>(m q e).imp id (by omega)) (fun e => .inr (by omega));have z:=(((g.mono fun _ _ h=>h.elim).trans f).trans (i.mono fun _ _ h=>h.elim)).trans (j.mono fun _ _ e => .inr e);have p:¬ XuC P b:=fun e=>by rcases e with e | e <;> omega
 have r:=j.heap (i.heap' J) p;have N:¬ x b:=fun e=>by
  rcases o b e with e | e
  ·rcases m b e with e | e
   ·have:=A b e; omega
   ·have:=Xkj B; omega
  ·omega
 refine ζb rfl (ζs r rfl fun w5 O u a3 => ?_);have T:=Q.boxed N (by omega) ⟨p,by omega⟩ (XiO r) (by decide) u;exact ζR Tryz.func68 O rfl ⟨_,x,rfl,.none _ _ _,T,y,z.since u (fun q M e=>by omega)⟩
theorem XhL (h:Hm c n0 w0 w F S H P s t) (slot i m:Int) (hi : -9223372036854775808≤i∧i≤9223372036854775807) (hm : -9223372036854775808≤m∧m≤9223372036854775807) {a d d':Nat} (ha:w.cell? ⟨a,0,none⟩=some (hpV H)) (hd:w.cell? ⟨d,0,none⟩=some (.int .i64 i)) (hd':w.cell? ⟨d',0,none⟩=some (.int .i64 m)) (hFa:¬ Xib F P a) (hFd:¬ Xib F P d) (hFd':¬ Xib F P d') :
 Xan Tryz.prog 71 #[.int .i64 slot,.pointer (some ⟨a,0,none⟩),.pointer (some ⟨d,0,none⟩),.pointer (some ⟨d',0,none⟩)] w (XbJ c n0 w0 w F S H P (Xtb c s slot i m) t (Xwd s slot i m) 0 0 (Xtc c s slot i m)):=by
 have D:=h.low';have a2:=h.since0;have a3:=h.tb.lt;have a4:=Xkj h.obj;refine Xan.enter Tryz.func71 rfl Tryz.ntmps71 rfl rfl ?_;refine ζa rfl ?_;refine Xay.alloc hTT rfl ?_;intro b l e1 J g a5;refine ζa rfl ?_;have K:=g.cell ha id;have L:=g.cell hd id;have E:=g.cell hd' id;have G:=h.grow g;refine Xay.drawn (q:=12) F hTT Xk3 (by kernel_rfl) rfl ?_;intro k;have a6:¬ F a:=fun e=>hFa (.inl e);have a7:¬ F d:=fun e=>hFd (.inl e);have V:¬ F d':=fun e=>hFd' (.inl e);have a8:=h.out.1;refine Xaq.load hTT k rfl K (by first | exact fun h=>h | (intro h; omega) | assumption) rfl ?_;refine Xaq.loadb hTT k rfl G.obj (by first | exact fun h=>h | (intro h; omega) | assumption) rfl rfl ?_;refine Xaq.load hTT k rfl L (by first | exact fun h=>h | (intro h; omega) | assumption) rfl ?_;refine Xaq.load hTT k rfl E (by first | exact fun h=>h | (intro h; omega) | assumption) rfl ?_;have M:∀ w',Chg XaX l w'→Xan Tryz.prog 72 #[XtA S,.int .i64 slot,.int .i64 i,.int .i64 m] w' (fun v f=>Chg F w' f ∧ ∃ a cap,v = .tuple #[.slice a (Xtc c s slot i m).length cap,.int .i64 (Xwd s slot i m)]∧Rd .u8 f a (Xtc c s slot i m)∧(∀ b off s',a=some ⟨b,off,s'⟩→l.heap.size≤b∧b<f.heap.size)∧Lv c n0 w0 f F S (Xtb c s slot i m)∧Chg F l f):=fun w' o =>
  (Xkq (G.lv.grow o) slot i m hi hm).mono fun v f ⟨a,cap,e1,e2,e3,e4,e5⟩ =>
   ⟨e5,a,cap,e1,e2,fun b off s' e=>⟨by have:=(e3 b off s' e).1; have:=o.size; omega,(e3 b off s' e).2⟩,e4,(o.mono fun _ _ h=>h.elim).trans e5⟩
 refine Xaq.callQ k rfl rfl (M) ?_;rintro _ f a9 ⟨ra,rcap,rfl,N,y,O,z⟩;refine Xaq.adv hTT k rfl ?_;refine Xaq.nil k ?_;intro w3 j;refine ζa rfl ?_;have Q:=G.stores O z;have p:Chg (Xib F P) l f:=z.mono fun _ _ e => .inl e;obtain ⟨n,r⟩:∃ n,n=F:=⟨_,rfl⟩;rw [← r] at Q;have A:∀ q,n q→F q∨l.heap.size≤q:=fun q x => .inl (r▸x);have R:Xaj l.heap.size n (Xtc c s slot i m) (.slice ra (Xtc c s slot i m).length rcap) f:=⟨ra,rcap,rfl,N,fun b' off s' e=>⟨y b' off s' e,fun e2=>by have:=(y b' off s' e).1; have:=D b' (r▸e2); omega⟩⟩;have W:=Q.grow j;have aa:=p.size;have ab:=j.size;have ac:=Xkj J;have B:¬ XuC P b:=fun e=>by rcases e with e | e <;> omega
 have C:=j.heap' (p.heap J (show ¬ Xib F P b from fun e=>by
  rcases e with e | e
  ·have:=D b e; omega
  ·exact B e))
 have T:¬ n b:=fun e=>by
  rcases A b e with e | e
  ·have:=D b e; omega
  ·omega
 refine Xay.build hTT rfl rfl ?_;refine Xay.store hTT rfl C rfl rfl ?_;intro w5 U u ad;refine ζa rfl ?_;have h5:=W.boxed T (by omega) ⟨B,by omega⟩ (XiO C) (by decide) u;have I:Chg (Xib F P) w w5:=(((g.mono fun _ _ h=>h.elim).trans p).trans (j.mono fun _ _ h=>h.elim)).since u (fun q x e=>by omega);exact ζq rfl Tryz.func71 (Xbd.cell rfl rfl rfl U rfl .nil) ⟨_,n,rfl,((R.chg j (fun q e=>e.elim)).chg u (fun q e => .inl (.inl (by omega)))).low (by omega) (fun _ _ _ h=>h),h5,fun q x=>(A q x).imp id (by omega),I⟩
theorem XhR (h:Hm c n0 w0 w F S H P s t) (slot i:Int) (ba:Option Addr) (bc:Nat) (l:List Int) (hi : -9223372036854775808≤i∧i≤9223372036854775807) (hr:Rd .u8 w ba l) (hlc:l.length≤bc) (hl:l.length≤9223372036854775807) (hin:InB l) (hout:0<l.length→Xa0 F ba)
 {a d d':Nat} (ha:w.cell? ⟨a,0,none⟩=some (hpV H)) (hd:w.cell? ⟨d,0,none⟩=some (.int .i64 i)) (hd':w.cell? ⟨d',0,none⟩=some (.slice ba l.length bc)) :
 Xan Tryz.prog 76 #[.int .i64 slot,.pointer (some ⟨a,0,none⟩),.pointer (some ⟨d,0,none⟩),.pointer (some ⟨d',0,none⟩)] w (XbJ c n0 w0 w F S H P (Xtn c s slot i l) t (Xwd s slot i l.length) 0 0 []):=by
 have E:=h.low';have U:=h.since0;have V:=h.tb.lt;have W:=Xkj h.obj;refine Xan.enter Tryz.func76 rfl Tryz.ntmps76 rfl rfl ?_;refine ζa rfl ?_;refine Xay.alloc hTT rfl ?_;intro b G e1 I g a0;refine ζa rfl ?_;have J:=g.cell ha id;have K:=g.cell hd id;have v:=g.cell hd' id;have x:=h.grow g;refine Xay.drawn (q:=7) XaX hTT Xk3 (by kernel_rfl) rfl ?_;intro k;refine Xaq.load hTT k rfl J (by first | exact fun h=>h | (intro h; omega) | assumption) rfl ?_;refine Xaq.loadb hTT k rfl x.obj (by first | exact fun h=>h | (intro h; omega) | assumption) rfl rfl ?_;refine Xaq.load hTT k rfl K (by first | exact fun h=>h | (intro h; omega) | assumption) rfl ?_;refine Xaq.load hTT k rfl v (by first | exact fun h=>h | (intro h; omega) | assumption) rfl ?_;refine Xaq.nil k ?_;intro wd j;refine ζa rfl ?_;refine ζc rfl (Xkv (x.lv.grow j) slot i ba bc l hi ((hr.chg g).chg j) hlc hl hin hout) ?_;rintro _ y ⟨rfl,L⟩;refine ζa rfl ?_;obtain ⟨z,O,A,B⟩:=(x.grow j).store L;have a1:=j.size;have o:∀ q,z q→F q∨G.heap.size≤q:=fun q n=>(A q n).imp id (by omega);have m:Chg (Xib F P) G y:=(j.mono fun _ _ h=>h.elim).trans B;obtain ⟨C,f⟩:∃ C,C=y:=⟨_,rfl⟩;rw [← f];replace f:Chg XaX y C:=f▸Chg.refl _ _;have Q:=O.grow f;have a2:=m.size;have a3:=f.size;have a4:=Xkj I;have p:¬ XuC P b:=fun e=>by rcases e with e | e <;> omega
 have r:=f.heap' (m.heap I (show ¬ Xib F P b from fun e=>by
  rcases e with e | e
  ·have:=E b e; omega
  ·exact p e))
 have M:¬ z b:=fun e=>by
  rcases o b e with e | e
  ·have:=E b e; omega
  ·omega
 refine Xay.build hTT rfl rfl ?_;refine Xay.store hTT rfl r rfl rfl ?_;intro R N u a5;refine ζa rfl ?_;have T:=Q.boxed M (by omega) ⟨p,by omega⟩ (XiO r) (by decide) u;have D:Chg (Xib F P) w R:=(((g.mono fun _ _ h=>h.elim).trans m).trans (f.mono fun _ _ h=>h.elim)).since u (fun q n e=>by omega);exact ζq rfl Tryz.func76 (Xbd.cell rfl rfl rfl N rfl .nil) ⟨_,z,rfl,.none _ _ _,T,fun q n=>(o q n).imp id (by omega),D⟩
theorem XhN (h:Hm c n0 w0 w F S H P s t) (slot size:Int) {a d:Nat} (ha:w.cell? ⟨a,0,none⟩=some (hpV H)) (hd:w.cell? ⟨d,0,none⟩=some (.int .i64 size)) :
 Xan Tryz.prog 78 #[.int .i64 slot,.pointer (some ⟨a,0,none⟩),.pointer (some ⟨d,0,none⟩)] w (XbJ c n0 w0 w F S H P (Xtd c s slot size) t (Xte c s slot size) 0 0 []):=by
 have B:=h.low';have Q:=h.since0;have R:=h.tb.lt;have T:=Xkj h.obj;refine Xan.enter Tryz.func78 rfl Tryz.ntmps78 rfl rfl ?_;refine ζa rfl ?_;refine Xay.alloc hTT rfl ?_;intro b C e1 D g U;refine ζa rfl ?_;have E:=g.cell ha id;have G:=g.cell hd id;have r:=h.grow g;refine Xay.drawn (q:=6) XaX hTT Xk3 (by kernel_rfl) rfl ?_;intro k;refine Xaq.load hTT k rfl E (by first | exact fun h=>h | (intro h; omega) | assumption) rfl ?_;refine Xaq.loadb hTT k rfl r.obj (by first | exact fun h=>h | (intro h; omega) | assumption) rfl rfl ?_;refine Xaq.load hTT k rfl G (by first | exact fun h=>h | (intro h; omega) | assumption) rfl ?_;refine Xaq.nil k ?_;intro wd i;refine ζa rfl ?_;refine ζc rfl (Xkr (r.lv.grow i) slot size) ?_;rintro _ u ⟨rfl,I⟩;refine ζa rfl ?_;obtain ⟨v,L,x,y⟩:=(r.grow i).store I;have V:=i.size;have m:∀ q,v q→F q∨C.heap.size≤q:=fun q l=>(x q l).imp id (by omega);have j:Chg (Xib F P) C u:=(i.mono fun _ _ h=>h.elim).trans y;obtain ⟨z,f⟩:∃ z,z=u:=⟨_,rfl⟩;rw [← f];replace f:Chg XaX u z:=f▸Chg.refl _ _;have M:=L.grow f;have W:=j.size;have a0:=f.size;have a1:=Xkj D;have n:¬ XuC P b:=fun e=>by rcases e with e | e <;> omega
 have o:=f.heap' (j.heap D (show ¬ Xib F P b from fun e=>by
  rcases e with e | e
  ·have:=B b e; omega
  ·exact n e))
 have J:¬ v b:=fun e=>by
  rcases m b e with e | e
  ·have:=B b e; omega
  ·omega
 refine Xay.build hTT rfl rfl ?_;refine Xay.store hTT rfl o rfl rfl ?_;intro N K p a2;refine ζa rfl ?_;have O:=M.boxed J (by omega) ⟨n,by omega⟩ (XiO o) (by decide) p;have A:Chg (Xib F P) w N:=(((g.mono fun _ _ h=>h.elim).trans j).trans (f.mono fun _ _ h=>h.elim)).since p (fun q l e=>by omega);exact ζq rfl Tryz.func78 (Xbd.cell rfl rfl rfl K rfl .nil) ⟨_,v,rfl,.none _ _ _,O,fun q l=>(m q l).imp id (by omega),A⟩
end
structure HpM.Ok (c:Conf) (x:HpM):Prop where
 st:x.st.Ok c
 tb:x.tb.Ok c.slots c.gens
 link:∀ o:Nat,x.tb.live.getD o false=true↔1≤(zsT x.st).getD o 0
def Xic (c:Conf) (x:HpM) (n:Int):HpM:=if tbE x.tb n=0 then ⟨Xs2 c x.st (tbN x.tb n),XuE x.tb n⟩ else x
def Xie (c:Conf) (x:HpM) (n i m:Int):HpM:=if tbE x.tb n=0 then ⟨Xtb c x.st (tbN x.tb n) i m,x.tb⟩ else x
def Xig (x:HpM) (n i m:Int):Int:=if tbE x.tb n=0 then Xwd x.st (tbN x.tb n) i m else tbE x.tb n
def Xif (c:Conf) (x:HpM) (n i m:Int):List Int:=if tbE x.tb n=0 then Xtc c x.st (tbN x.tb n) i m else []
def Xil (c:Conf) (x:HpM) (n i:Int) (l:List Int):HpM:=if tbE x.tb n=0 then ⟨Xtn c x.st (tbN x.tb n) i l,x.tb⟩ else x
def Xih (c:Conf) (x:HpM) (n size:Int):HpM:=if tbE x.tb n=0 then ⟨Xtd c x.st (tbN x.tb n) size,x.tb⟩ else x
def Xii (c:Conf) (x:HpM) (n size:Int):Int:=if tbE x.tb n=0 then Xte c x.st (tbN x.tb n) size else tbE x.tb n
def Xik (c:Conf) (x:HpM):HpM:=⟨Xtm c x.st,x.tb⟩
def Xij (x:HpM) (k keep:Int):HpM:=⟨Xtf x.st k keep,x.tb⟩
def Xid (c:Conf) (x:HpM) (size:Int):Prop:=Xs1 c x.st size=0∧x.tb.fl ≠ []
instance (c:Conf) (x:HpM) (size:Int):Decidable (Xid c x size):=by unfold Xid; exact inferInstance
def Xh2 (c:Conf) (x:HpM) (size:Int):HpM:=if Xid c x size then ⟨XsT c x.st (XuN x.tb) size,XuL x.tb⟩ else x
def Xh3 (c:Conf) (x:HpM) (size:Int):Int:=if Xs1 c x.st size=3 then 3 else if x.tb.fl = [] then 4 else Xs1 c x.st size
def Xh4 (c:Conf) (x:HpM) (size:Int):Int:=if Xid c x size then XuM x.tb else 0
def Xh5 (c:Conf) (x:HpM) (size:Int):Int:=if Xid c x size then 2+((Xh2 c x size).st.rm.tot - x.st.rm.tot) else 0
def XlD (c:Conf):HpM:=⟨XlO c,XlR c.slots c.gens⟩
theorem Xg8 (x:List Bool) (i j:Nat) (v:Bool):(x.set i v).getD j false=if i=j∧i<x.length then v else x.getD j false:=by
 rw [List.getD_eq_getElem?_getD,List.getElem?_set,List.getD_eq_getElem?_getD];by_cases h:i=j
 ·subst h;by_cases a:i<x.length
  ·simp [a]
  ·simp [a]
 ·simp [h]
section
variable {c:Conf} {x:HpM}
theorem XmF {s:StM} {j:Nat} {t:ThM} (h:s.th[j]? = some (some t)):XmC s (j:Nat)=0:=by
 unfold XmC;have a:=(List.getElem?_eq_some_iff.1 h).1;rw [if_neg (by omega),XuT h]
theorem HpM.Ok.len (h:x.Ok c):(zsT x.st).length=x.tb.live.length:=by
 have:=h.st.tl;have:=h.tb.n;have:=h.tb.nl;rw [Xw6];omega
theorem HpM.Ok.slot (h:x.Ok c) {n:Int} (hE:tbE x.tb n=0):∃ j:Nat,tbN x.tb n=j∧j<x.tb.live.length ∧ ∃ t,x.st.th[j]? = some (some t):=by
 obtain ⟨b,d,e,f,g,i,a⟩:=h.tb.tbE_ok hE;refine ⟨(XuK n).toNat,by unfold tbN; rw [if_pos hE]; omega,(List.getElem?_eq_some_iff.1 a).1,(Xw4 h.st _).2 ((h.link _).1 (Xg5 a))⟩
theorem HpM.Ok.free (h:x.Ok c) (n:Int):(Xic c x n).Ok c:=by
 unfold Xic;split
 ·rename_i a
  obtain ⟨j,ej,b,t,ht⟩:=h.slot a;have d:=h.len;refine ⟨h.st.free _,h.tb.give n,fun o => ?_⟩;show (XuE x.tb n).live.getD o false=true↔1≤(zsT (Xs2 c x.st (tbN x.tb n))).getD o 0
  rw [Xw2 h.st,ej,if_pos (XmF ht),Int.toNat_natCast,Xha];unfold XuE;have ej':(XuK n).toNat=j:=by unfold tbN at ej; rw [if_pos a] at ej; omega
  rw [if_pos a];show (x.tb.live.set (XuK n).toNat false).getD o false=true↔_
  rw [ej',Xg8];by_cases e:j=o
  ·rw [if_pos ⟨e,b⟩,if_pos ⟨e,by omega⟩]
   simp
  ·rw [if_neg (fun g=>e g.1),if_neg (fun g=>e g.1)];exact h.link o
 ·exact h
theorem HpM.Ok.keep (h:x.Ok c) {s':StM} (hs:s'.Ok c) (hz:zsT s'=zsT x.st):HpM.Ok c ⟨s',x.tb⟩:=⟨hs,h.tb,fun o=>by rw [show zsT (HpM.mk s' x.tb).st=zsT x.st from hz]; exact h.link o⟩
theorem HpM.Ok.read (h:x.Ok c) (n i m:Int):(Xie c x n i m).Ok c:=by
 unfold Xie;split
 ·exact h.keep (h.st.read _ i m) (Xw8 ..)
 ·exact h
theorem HpM.Ok.write (h:x.Ok c) (n i:Int) {l:List Int} (hl:InB l):(Xil c x n i l).Ok c:=by
 unfold Xil;split
 ·exact h.keep (h.st.write _ i hl) (Xxf ..)
 ·exact h
theorem HpM.Ok.tick (h:x.Ok c):(Xik c x).Ok c:=h.keep h.st.tick (Xxc h.st)
theorem HpM.Ok.set (h:x.Ok c) (k keep:Int):(Xij x k keep).Ok c:=h.keep (h.st.set k keep) (Xxb ..)
theorem HpM.Ok.resize (h:x.Ok c) (n size:Int):(Xih c x n size).Ok c:=by
 unfold Xih;split
 ·rename_i a
  obtain ⟨j,ej,e,t,ht⟩:=h.slot a;refine ⟨h.st.resize _ size,h.tb,fun o => ?_⟩;show x.tb.live.getD o false=true↔1≤(zsT (Xtd c x.st (tbN x.tb n) size)).getD o 0
  rw [Xw9 h.st];split
  ·rename_i b
   obtain ⟨_,_,_,_,d,_⟩:=Xpd b;rw [ej,Int.toNat_natCast,Xha];split
   ·rename_i g
    rw [← g.1];exact ⟨fun _=>d.1,fun _=>(h.link j).2 ((Xw4 h.st j).1 ⟨t,ht⟩)⟩
   ·exact h.link o
  ·exact h.link o
 ·exact h
theorem HpM.Ok.goes (h:x.Ok c) {size:Int} (hg:Xid c x size):∃ j:Nat,XuN x.tb=j∧j<x.tb.live.length∧x.tb.live.getD j false=false∧XuL x.tb={x.tb with live:=x.tb.live.set j true,fl:=x.tb.fl.tail}∧XsU c x.st j size=0:=by
 cases hf:x.tb.fl with
 |nil=>exact absurd hf hg.2
 |cons j r =>
  obtain ⟨g,m,n,a⟩:=h.tb.fr j (by rw [hf]; exact List.mem_cons_self);refine ⟨j,by unfold XuN; rw [hf],(List.getElem?_eq_some_iff.1 a).1,Xg5 a,by unfold XuL; rw [hf]; rfl,?_⟩;have i:=h.len;have l:=(List.getElem?_eq_some_iff.1 a).1;have b:¬ ∃ t,x.st.th[j]? = some (some t):=fun k=>by
   have:=(h.link j).2 ((Xw4 h.st j).1 k);rw [Xg5 a] at this;cases this
  rw [Xw6] at i;have d:x.st.th[j]? = some none:=by
   cases f:x.st.th[j]? with
   |none=>rw [List.getElem?_eq_none_iff] at f; omega
   |some y=>cases y with
    |none=>rfl
    |some t=>exact absurd ⟨t,f⟩ b
  have e:XmC x.st (j:Nat)=9:=by
   unfold XmC;rw [if_neg (by omega),show Xtl x.st (j:Nat)=none by unfold Xtl; rw [if_pos (by omega),Int.toNat_natCast,List.getD_eq_getElem?_getD,d]; rfl]
  unfold XsU;rw [e,if_neg (by decide),if_neg (by decide)];exact hg.1
theorem HpM.Ok.alloc (h:x.Ok c) (size:Int):(Xh2 c x size).Ok c:=by
 unfold Xh2;split
 ·rename_i a
  obtain ⟨j,e1,e2,e3,e4,e5⟩:=h.goes a;have d:=h.len;have b:=(Xgs a.1).1.1;refine ⟨h.st.alloc _ size,h.tb.take,fun o => ?_⟩;show (XuL x.tb).live.getD o false=true↔1≤(zsT (XsT c x.st (XuN x.tb) size)).getD o 0
  rw [XwX h.st,e1,if_pos e5,e4,Int.toNat_natCast,Xha];show (x.tb.live.set j true).getD o false=true↔_
  rw [Xg8];by_cases e:j=o
  ·rw [if_pos ⟨e,e2⟩,if_pos ⟨e,by omega⟩];simp [b]
  ·rw [if_neg (fun g=>e g.1),if_neg (fun g=>e g.1)];exact h.link o
 ·exact h
theorem XlE (hm:XkH c=true) (hA:Xbg c (XlH c 0)):(XlD c).Ok c:=by
 have a:(1≤c.slots∧c.slots≤4096)∧1≤c.gens∧c.gens≤1023:=by
  unfold XkH at hm;simp only [Bool.and_eq_true,decide_eq_true_eq,Xwe] at hm;omega
 refine ⟨XlQ hm hA,XlS a.1 a.2,fun o => ?_⟩;have e1:(XlD c).tb.live.getD o false=false:=by
  show (List.replicate c.slots.toNat false).getD o false=false
  rw [List.getD_eq_getElem?_getD,List.getElem?_replicate];split <;> rfl
 have e2:(zsT (XlD c).st).getD o 0=0:=by
  show ((List.replicate c.slots.toNat (none:Option ThM)).map szT).getD o 0=0
  rw [List.getD_eq_getElem?_getD,List.getElem?_map,List.getElem?_replicate];split <;> rfl
 rw [e1,e2]
 simp
end
structure Hv (c:Conf) (n0:Nat) (w0 w:World) (F:Nat→Prop) (S:Sto) (H:Nat) (P:XbH) (x:HpM):Prop where
 hm:Hm c n0 w0 w F S H P x.st x.tb
 lap:S.R.lap=x.st.rm.tot
 ok:x.Ok c
def XaA (c:Conf) (n0:Nat) (w0 w:World) (F:Nat→Prop) (H:Nat) (P:XbH) (x:HpM) (w':World):Prop :=
 ∃ F' S',Hv c n0 w0 w' F' S' H P x∧(∀ z,F' z→F z∨w.heap.size≤z)∧Chg (Xib F P) w w'
def Xap (c:Conf) (n0:Nat) (w0 w:World) (F:Nat→Prop) (H:Nat) (P:XbH) (x:HpM) (e g k:Int) (l:List Int) (v:Value) (w':World):Prop :=
 ∃ b F' S',v=Xpa e g b k∧Xaj w.heap.size F' l b w'∧Hv c n0 w0 w' F' S' H P x∧(∀ z,F' z→F z∨w.heap.size≤z)∧Chg (Xib F P) w w'
section
variable {c:Conf} {n0:Nat} {w0 w w':World} {F:Nat→Prop} {S:Sto} {H:Nat} {P:XbH} {s:StM} {t:TbM} {x x':HpM} {e g k:Int} {l:List Int} {v:Value}
theorem Hv.grow (h:Hv c n0 w0 w F S H P x) (hc:Chg XaX w w'):Hv c n0 w0 w' F S H P x:={h with hm:=h.hm.grow hc}
theorem XaA.up {w1:World} (h:XaA c n0 w0 w1 F H P x w') (hc:Chg XaX w w1):XaA c n0 w0 w F H P x w':=by
 obtain ⟨F',S',a,b,d⟩:=h;have:=hc.size;exact ⟨F',S',a,fun z e=>(b z e).imp id (by omega),(hc.mono fun _ _ h=>h.elim).trans d⟩
theorem XaA.on {w1:World} (h:XaA c n0 w0 w F H P x w1) (hc:Chg XaX w1 w'):XaA c n0 w0 w F H P x w':=by
 obtain ⟨F',S',a,b,d⟩:=h;exact ⟨F',S',a.grow hc,b,d.trans (hc.mono fun _ _ h=>h.elim)⟩
theorem Hv.self (h:Hv c n0 w0 w F S H P x) (hc:Chg XaX w w'):XaA c n0 w0 w F H P x w':=⟨F,S,h.grow hc,fun _ h => .inl h,hc.mono fun _ _ h=>h.elim⟩
theorem Hv.boxed (h:Hv c n0 w0 w F S H P x) {b ty:Nat} (hb:¬ F b) (hn:n0≤b∧w0.heap.size≤b) (hP:¬ XuC P b∧H≠b) (hk:kd w b=some (some ty)) (ht:ty≠329∧ty≠325∧ty≠3) (hc:Chg (fun q=>q=b) w w'):Hv c n0 w0 w' F S H P x :=
 {h with hm:=h.hm.boxed hb hn hP hk ht hc}
theorem XhF (h:Hv c n0 w0 w F S H P x) (n:Int) (hn : -9223372036854775808≤n∧n≤9223372036854775807):Xan Tryz.prog 25 #[hpV H,.int .i64 n] w
 (Xap c n0 w0 w F H P (Xic c x n) (tbE x.tb n) 0 ((if tbE x.tb n=0 then 2 else 0)+(1+((Xic c x n).st.rm.tot - x.st.rm.tot))) []):=by
 have t:=h.hm.low';have a2:=h.hm.since0;have a3:=h.hm.tb.lt;have a4:=Xkj h.hm.obj;have E:=h.ok.free n;refine ζe Tryz.func25 Tryz.ntmps25 rfl (ζn rfl fun a w1 e1 W R a5=>ζn rfl fun d w2 e2 hd G a6=>ζn rfl fun b T e3 U u a7 => ?_);have I:=u.heap' (G.heap' W);have J:=u.heap' hd;have g:=(R.trans G).trans u;have K:=g.size;have M:=h.grow g;have L:∀ q,w.heap.size≤q → ¬ Xib F P q:=fun q s e=>by
  rcases e with e | e | e
  ·have:=t q e; omega
  ·omega
  ·omega
 refine ζl I rfl (ζl J rfl (ζc rfl (XhU M.hm M.lap n hn (k:=68) (cap := [.pointer (some ⟨a,0,none⟩),.pointer (some ⟨d,0,none⟩)]) (z:=2) (by omega) (fun p w' v=>XhG (M.hm.grow v) (tbN x.tb n) n hn (v.cell (Xek (off:=0) I rfl) id) (v.cell (Xek (off:=0) J rfl) id) (L a (by omega)) (L d (by omega)))) ?_));rintro _ w4 i;refine ζa rfl ?_;by_cases p:tbE x.tb n=0
 ·have eX:Xic c x n=⟨Xs2 c x.st (tbN x.tb n),XuE x.tb n⟩:=by unfold Xic; rw [if_pos p]
  rw [if_pos p] at i;rw [eX] at E ⊢;rw [if_pos p];obtain ⟨bv,r,rfl,y,N,j,l⟩:=i;obtain ⟨ra,rc,rfl,O,A⟩:=y;have m:¬ XuC P b:=fun e=>by rcases e with e | e <;> omega
  have o:=l.heap U (show ¬ Xib F P b from fun e=>by
   rcases e with e | e
   ·have:=t b e; omega
   ·exact m e)
  have B:¬ r b:=fun e=>by
   rcases j b e with e | e
   ·have:=t b e; omega
   ·omega
  refine ζs o rfl fun w5 C f V => ?_;have Q:=N.boxed B (by omega) ⟨m,by omega⟩ (XiO o) (by decide) f;have D:=((show Xaj T.heap.size r _ (.slice ra _ rc) _ from ⟨ra,rc,rfl,O,A⟩).chg f (fun q e => .inl (.inl (by omega)))).low K (fun _ _ _ h=>h);exact ζR Tryz.func25 C rfl ⟨_,r,_,rfl,D,⟨Q,rfl,E⟩,fun q s=>(j q s).imp id (by omega),(((g.mono fun _ _ h=>h.elim).trans l)).since f (fun q s e=>by omega)⟩
 ·have eX:Xic c x n=x:=by unfold Xic; rw [if_neg p]
  rw [if_neg p] at i;rw [eX,if_neg p,Int.sub_self];obtain ⟨bv,r,rfl,y,N,j,l⟩:=i;obtain ⟨ra,rc,rfl,O,A⟩:=y;have m:¬ XuC P b:=fun e=>by rcases e with e | e <;> omega
  have o:=l.heap U (show ¬ Xib F P b from fun e=>by
   rcases e with e | e
   ·have:=t b e; omega
   ·exact m e)
  have B:¬ r b:=fun e=>by
   rcases j b e with e | e
   ·have:=t b e; omega
   ·omega
  refine ζs o rfl fun w5 C f V => ?_;have Q:=N.boxed B (by omega) ⟨m,by omega⟩ (XiO o) (by decide) f;have D:=((show Xaj T.heap.size r _ (.slice ra _ rc) _ from ⟨ra,rc,rfl,O,A⟩).chg f (fun q e => .inl (.inl (by omega)))).low K (fun _ _ _ h=>h);exact ζR Tryz.func25 C rfl ⟨_,r,_,rfl,D,⟨Q,rfl,h.ok⟩,fun q s=>(j q s).imp id (by omega),(((g.mono fun _ _ h=>h.elim).trans l)).since f (fun q s e=>by omega)⟩
theorem XhK (h:Hv c n0 w0 w F S H P x) (n i m:Int) (hn : -9223372036854775808≤n∧n≤9223372036854775807) (hi : -9223372036854775808≤i∧i≤9223372036854775807) (hm : -9223372036854775808≤m∧m≤9223372036854775807):Xan Tryz.prog 26 #[hpV H,.int .i64 n,.int .i64 i,.int .i64 m] w
 (Xap c n0 w0 w F H P (Xie c x n i m) (Xig x n i m) 0 (0+(1+((Xie c x n i m).st.rm.tot - x.st.rm.tot))) (Xif c x n i m)):=by
 have B:=h.hm.low';have a8:=h.hm.since0;have a9:=h.hm.tb.lt;have aa:=Xkj h.hm.obj;have K:=h.ok.read n i m;refine ζe Tryz.func26 Tryz.ntmps26 rfl (ζn rfl fun a w1 e1 ha V ab=>ζn rfl fun d w2 e2 hd L ac=>ζn rfl fun d' ad ae W t a6=>ζn rfl fun b w3 e3 hb v af => ?_);have M:=v.heap' (t.heap' (L.heap' ha));have a2:=v.heap' (t.heap' hd);have O:=v.heap' W;have g:=((V.trans L).trans t).trans v;have N:=g.size;have Q:=h.grow g;have C:∀ q,w.heap.size≤q → ¬ Xib F P q:=fun q A e=>by
  rcases e with e | e | e
  ·have:=B q e; omega
  ·omega
  ·omega
 refine ζl M rfl (ζc rfl (XhU Q.hm Q.lap n hn (k:=71) (cap := [.pointer (some ⟨a,0,none⟩),.pointer (some ⟨d,0,none⟩),.pointer (some ⟨d',0,none⟩)]) (z:=0) (by omega) (fun j w' y=>XhL (Q.hm.grow y) (tbN x.tb n) i m hi hm (y.cell (Xek (off:=0) M rfl) id) (y.cell (Xek (off:=0) a2 rfl) id) (y.cell (Xek (off:=0) O rfl) id) (C a (by omega)) (C d (by omega)) (C d' (by omega)))) ?_);rintro _ w4 l;refine ζa rfl ?_;by_cases j:tbE x.tb n=0
 ·have eX:Xie c x n i m=⟨Xtb c x.st (tbN x.tb n) i m,x.tb⟩:=by unfold Xie; rw [if_pos j]
  have eE:Xig x n i m=Xwd x.st (tbN x.tb n) i m:=by unfold Xig; rw [if_pos j]
  have eB:Xif c x n i m=Xtc c x.st (tbN x.tb n) i m:=by unfold Xif; rw [if_pos j]
  rw [if_pos j] at l;rw [eX] at K ⊢;rw [eE,eB];obtain ⟨bv,u,rfl,D,R,o,p⟩:=l;obtain ⟨ra,rc,rfl,T,E⟩:=D;have r:¬ XuC P b:=fun e=>by rcases e with e | e <;> omega
  have s:=p.heap hb (show ¬ Xib F P b from fun e=>by
   rcases e with e | e
   ·have:=B b e; omega
   ·exact r e)
  have G:¬ u b:=fun e=>by
   rcases o b e with e | e
   ·have:=B b e; omega
   ·omega
  refine ζs s rfl fun w5 I f a3 => ?_;have U:=R.boxed G (by omega) ⟨r,by omega⟩ (XiO s) (by decide) f;have J:=((show Xaj w3.heap.size u _ (.slice ra _ rc) _ from ⟨ra,rc,rfl,T,E⟩).chg f (fun q e => .inl (.inl (by omega)))).low N (fun _ _ _ h=>h);exact ζR Tryz.func26 I rfl ⟨_,u,_,rfl,J,⟨U,rfl,K⟩,fun q A=>(o q A).imp id (by omega),(((g.mono fun _ _ h=>h.elim).trans p)).since f (fun q A e=>by omega)⟩
 ·have eX:Xie c x n i m=x:=by unfold Xie; rw [if_neg j]
  have eE:Xig x n i m=tbE x.tb n:=by unfold Xig; rw [if_neg j]
  have eB:Xif c x n i m = []:=by unfold Xif; rw [if_neg j]
  rw [if_neg j] at l;rw [eX,eE,eB,Int.sub_self];obtain ⟨bv,u,rfl,D,R,o,p⟩:=l;obtain ⟨ra,rc,rfl,T,E⟩:=D;have r:¬ XuC P b:=fun e=>by rcases e with e | e <;> omega
  have s:=p.heap hb (show ¬ Xib F P b from fun e=>by
   rcases e with e | e
   ·have:=B b e; omega
   ·exact r e)
  have G:¬ u b:=fun e=>by
   rcases o b e with e | e
   ·have:=B b e; omega
   ·omega
  refine ζs s rfl fun w5 I f a3 => ?_;have U:=R.boxed G (by omega) ⟨r,by omega⟩ (XiO s) (by decide) f;have J:=((show Xaj w3.heap.size u _ (.slice ra _ rc) _ from ⟨ra,rc,rfl,T,E⟩).chg f (fun q e => .inl (.inl (by omega)))).low N (fun _ _ _ h=>h);exact ζR Tryz.func26 I rfl ⟨_,u,_,rfl,J,⟨U,rfl,h.ok⟩,fun q A=>(o q A).imp id (by omega),(((g.mono fun _ _ h=>h.elim).trans p)).since f (fun q A e=>by omega)⟩
theorem XhQ (h:Hv c n0 w0 w F S H P x) (n i:Int) (ba:Option Addr) (bc:Nat) (l:List Int) (hn : -9223372036854775808≤n∧n≤9223372036854775807) (hi : -9223372036854775808≤i∧i≤9223372036854775807) (hr:Rd .u8 w ba l) (hlc:l.length≤bc) (hl:l.length≤9223372036854775807) (hin:InB l) (hout:0<l.length→Xa0 F ba):Xan Tryz.prog 29 #[hpV H,.int .i64 n,.int .i64 i,.slice ba l.length bc] w
 (Xap c n0 w0 w F H P (Xil c x n i l) (Xig x n i l.length) 0 (0+(1+((Xil c x n i l).st.rm.tot - x.st.rm.tot))) []):=by
 have I:=h.hm.low';have a6:=h.hm.since0;have a7:=h.hm.tb.lt;have a8:=Xkj h.hm.obj;have J:=h.ok.write n i hin;refine ζe Tryz.func29 Tryz.ntmps29 rfl (ζn rfl fun a w1 e1 ha T a9=>ζn rfl fun d w2 e2 hd K aa=>ζn rfl fun d' ab ac U t a4=>ζn rfl fun b V e3 W y ad => ?_);have L:=y.heap' (t.heap' (K.heap' ha));have a0:=y.heap' (t.heap' hd);have N:=y.heap' U;have f:=((T.trans K).trans t).trans y;have M:=f.size;have O:=h.grow f;refine ζl L rfl (ζc rfl (XhU O.hm O.lap n hn (k:=76) (cap := [.pointer (some ⟨a,0,none⟩),.pointer (some ⟨d,0,none⟩),.pointer (some ⟨d',0,none⟩)]) (z:=0) (by omega) (fun u w' m=>XhR (O.hm.grow m) (tbN x.tb n) i ba bc l hi ((hr.chg f).chg m) hlc hl hin hout (m.cell (Xek (off:=0) L rfl) id) (m.cell (Xek (off:=0) a0 rfl) id) (m.cell (Xek (off:=0) N rfl) id))) ?_);rintro _ w4 j;refine ζa rfl ?_;by_cases u:tbE x.tb n=0
 ·have eX:Xil c x n i l=⟨Xtn c x.st (tbN x.tb n) i l,x.tb⟩:=by unfold Xil; rw [if_pos u]
  have eE:Xig x n i l.length=Xwd x.st (tbN x.tb n) i l.length:=by unfold Xig; rw [if_pos u]
  rw [if_pos u] at j;rw [eX] at J ⊢;rw [eE];obtain ⟨bv,v,rfl,A,Q,o,p⟩:=j;obtain ⟨ra,rc,rfl,hr,B⟩:=A;have r:¬ XuC P b:=fun e=>by rcases e with e | e <;> omega
  have s:=p.heap W (show ¬ Xib F P b from fun e=>by
   rcases e with e | e
   ·have:=I b e; omega
   ·exact r e)
  have C:¬ v b:=fun e=>by
   rcases o b e with e | e
   ·have:=I b e; omega
   ·omega
  refine ζs s rfl fun w5 D g a1 => ?_;have R:=Q.boxed C (by omega) ⟨r,by omega⟩ (XiO s) (by decide) g;have E:=((show Xaj V.heap.size v _ (.slice ra _ rc) _ from ⟨ra,rc,rfl,hr,B⟩).chg g (fun q e => .inl (.inl (by omega)))).low M (fun _ _ _ h=>h);exact ζR Tryz.func29 D rfl ⟨_,v,_,rfl,E,⟨R,rfl,J⟩,fun q G=>(o q G).imp id (by omega),(((f.mono fun _ _ h=>h.elim).trans p)).since g (fun q G e=>by omega)⟩
 ·have eX:Xil c x n i l=x:=by unfold Xil; rw [if_neg u]
  have eE:Xig x n i l.length=tbE x.tb n:=by unfold Xig; rw [if_neg u]
  rw [if_neg u] at j;rw [eX,eE,Int.sub_self];obtain ⟨bv,v,rfl,A,Q,o,p⟩:=j;obtain ⟨ra,rc,rfl,hr,B⟩:=A;have r:¬ XuC P b:=fun e=>by rcases e with e | e <;> omega
  have s:=p.heap W (show ¬ Xib F P b from fun e=>by
   rcases e with e | e
   ·have:=I b e; omega
   ·exact r e)
  have C:¬ v b:=fun e=>by
   rcases o b e with e | e
   ·have:=I b e; omega
   ·omega
  refine ζs s rfl fun w5 D g a1 => ?_;have R:=Q.boxed C (by omega) ⟨r,by omega⟩ (XiO s) (by decide) g;have E:=((show Xaj V.heap.size v _ (.slice ra _ rc) _ from ⟨ra,rc,rfl,hr,B⟩).chg g (fun q e => .inl (.inl (by omega)))).low M (fun _ _ _ h=>h);exact ζR Tryz.func29 D rfl ⟨_,v,_,rfl,E,⟨R,rfl,h.ok⟩,fun q G=>(o q G).imp id (by omega),(((f.mono fun _ _ h=>h.elim).trans p)).since g (fun q G e=>by omega)⟩
theorem XhM (h:Hv c n0 w0 w F S H P x) (n size:Int) (hn : -9223372036854775808≤n∧n≤9223372036854775807):Xan Tryz.prog 30 #[hpV H,.int .i64 n,.int .i64 size] w
 (Xap c n0 w0 w F H P (Xih c x n size) (Xii c x n size) 0 (0+(1+((Xih c x n size).st.rm.tot - x.st.rm.tot))) []):=by
 have D:=h.hm.low';have a1:=h.hm.since0;have a2:=h.hm.tb.lt;have a3:=Xkj h.hm.obj;have E:=h.ok.resize n size;refine ζe Tryz.func30 Tryz.ntmps30 rfl (ζn rfl fun a w1 e1 V O a4=>ζn rfl fun d w2 e2 W G a5=>ζn rfl fun b Q e3 R s a6 => ?_);have I:=s.heap' (G.heap' V);have T:=s.heap' W;have g:=(O.trans G).trans s;have J:=g.size;have K:=h.grow g;refine ζl I rfl (ζc rfl (XhU K.hm K.lap n hn (k:=78) (cap := [.pointer (some ⟨a,0,none⟩),.pointer (some ⟨d,0,none⟩)]) (z:=0) (by omega) (fun p w' t=>XhN (K.hm.grow t) (tbN x.tb n) size (t.cell (Xek (off:=0) I rfl) id) (t.cell (Xek (off:=0) T rfl) id))) ?_);rintro _ w4 i;refine ζa rfl ?_;by_cases p:tbE x.tb n=0
 ·have eX:Xih c x n size=⟨Xtd c x.st (tbN x.tb n) size,x.tb⟩:=by unfold Xih; rw [if_pos p]
  have eE:Xii c x n size=Xte c x.st (tbN x.tb n) size:=by unfold Xii; rw [if_pos p]
  rw [if_pos p] at i;rw [eX] at E ⊢;rw [eE];obtain ⟨bv,r,rfl,u,L,j,l⟩:=i;obtain ⟨ra,rc,rfl,M,v⟩:=u;have m:¬ XuC P b:=fun e=>by rcases e with e | e <;> omega
  have o:=l.heap R (show ¬ Xib F P b from fun e=>by
   rcases e with e | e
   ·have:=D b e; omega
   ·exact m e)
  have y:¬ r b:=fun e=>by
   rcases j b e with e | e
   ·have:=D b e; omega
   ·omega
  refine ζs o rfl fun w5 A f U => ?_;have N:=L.boxed y (by omega) ⟨m,by omega⟩ (XiO o) (by decide) f;have B:=((show Xaj Q.heap.size r _ (.slice ra _ rc) _ from ⟨ra,rc,rfl,M,v⟩).chg f (fun q e => .inl (.inl (by omega)))).low J (fun _ _ _ h=>h);exact ζR Tryz.func30 A rfl ⟨_,r,_,rfl,B,⟨N,rfl,E⟩,fun q C=>(j q C).imp id (by omega),(((g.mono fun _ _ h=>h.elim).trans l)).since f (fun q C e=>by omega)⟩
 ·have eX:Xih c x n size=x:=by unfold Xih; rw [if_neg p]
  have eE:Xii c x n size=tbE x.tb n:=by unfold Xii; rw [if_neg p]
  rw [if_neg p] at i;rw [eX,eE,Int.sub_self];obtain ⟨bv,r,rfl,u,L,j,l⟩:=i;obtain ⟨ra,rc,rfl,M,v⟩:=u;have m:¬ XuC P b:=fun e=>by rcases e with e | e <;> omega
  have o:=l.heap R (show ¬ Xib F P b from fun e=>by
   rcases e with e | e
   ·have:=D b e; omega
   ·exact m e)
  have y:¬ r b:=fun e=>by
   rcases j b e with e | e
   ·have:=D b e; omega
   ·omega
  refine ζs o rfl fun w5 A f U => ?_;have N:=L.boxed y (by omega) ⟨m,by omega⟩ (XiO o) (by decide) f;have B:=((show Xaj Q.heap.size r _ (.slice ra _ rc) _ from ⟨ra,rc,rfl,M,v⟩).chg f (fun q e => .inl (.inl (by omega)))).low J (fun _ _ _ h=>h);exact ζR Tryz.func30 A rfl ⟨_,r,_,rfl,B,⟨N,rfl,h.ok⟩,fun q C=>(j q C).imp id (by omega),(((g.mono fun _ _ h=>h.elim).trans l)).since f (fun q C e=>by omega)⟩
theorem XhP (h:Hv c n0 w0 w F S H P x):Xan Tryz.prog 31 #[hpV H] w (Xap c n0 w0 w F H P (Xik c x) 0 0 ((Xik c x).st.rm.tot - x.st.rm.tot) []):=by
 have t:=h.hm.low';have E:=h.hm.since0;have G:=h.hm.tb.lt;have I:=Xkj h.hm.obj;have u:=h.ok.tick;refine ζe Tryz.func31 Tryz.ntmps31 rfl (ζn rfl fun b L e1 B d J => ?_);have o:=h.hm.grow d;refine ζl o.obj rfl ?_;refine ζc rfl (Xku o.lv) ?_;rintro _ M ⟨rfl,v⟩;refine ζa rfl ?_;obtain ⟨y,p,f,g⟩:=o.store v;have z:=p.obj;refine ζl z rfl (ζc rfl (Xkt p.lv) ?_);rintro _ N ⟨rfl,A,a,i⟩;refine ζa rfl ?_;have C:=p.steps A a i;have j:¬ XuC P b:=fun e=>by rcases e with e | e <;> omega
 have k:¬ y b:=fun e=>by
  rcases f b e with e | e
  ·have:=t b e; omega
  ·omega
 have l:=a.heap (g.heap B (show ¬ Xib F P b from fun e=>by
  rcases e with e | e
  ·have:=t b e; omega
  ·exact j e)) (fun e=>k (e▸i))
 refine ζb rfl (ζs l rfl fun O m n K => ?_);have D:=C.boxed k (by omega) ⟨j,by omega⟩ (XiO l) (by decide) n;have r:=(((d.mono fun _ _ h=>h.elim).trans g).since a (fun q s e => .inl (e▸h.hm.lv.mb))).since n (fun q s e=>by omega);rw [h.lap] at m;exact ζq rfl Tryz.func31 (Xbd.cell rfl rfl rfl m rfl .nil) ⟨_,y,_,rfl,.none _ _ _,⟨D,rfl,u⟩,fun q s=>(f q s).imp id (by omega),r⟩
theorem XhO (h:Hv c n0 w0 w F S H P x) (k keep:Int):Xan Tryz.prog 32 #[hpV H,.int .i64 k,.int .i64 keep] w (Xap c n0 w0 w F H P (Xij x k keep) (Xtg x.st k keep) 0 ((Xij x k keep).st.rm.tot - x.st.rm.tot) []):=by
 have u:=h.hm.low';have G:=h.hm.since0;have I:=h.hm.tb.lt;have J:=Xkj h.hm.obj;have v:=h.ok.set k keep;refine ζe Tryz.func32 Tryz.ntmps32 rfl (ζn rfl fun b M e1 C d K => ?_);have p:=h.hm.grow d;refine ζl p.obj rfl ?_;refine ζc rfl (Xks p.lv k keep) ?_;rintro _ N ⟨rfl,y⟩;refine ζa rfl ?_;obtain ⟨z,r,f,g⟩:=p.store y;have A:=r.obj;refine ζl A rfl (ζc rfl (Xkt r.lv) ?_);rintro _ O ⟨rfl,B,a,i⟩;refine ζa rfl ?_;have D:=r.steps B a i;have j:¬ XuC P b:=fun e=>by rcases e with e | e <;> omega
 have l:¬ z b:=fun e=>by
  rcases f b e with e | e
  ·have:=u b e; omega
  ·omega
 have m:=a.heap (g.heap C (show ¬ Xib F P b from fun e=>by
  rcases e with e | e
  ·have:=u b e; omega
  ·exact j e)) (fun e=>l (e▸i))
 refine ζb rfl (ζs m rfl fun Q n o L => ?_);have E:=D.boxed l (by omega) ⟨j,by omega⟩ (XiO m) (by decide) o;have s:=(((d.mono fun _ _ h=>h.elim).trans g).since a (fun q t e => .inl (e▸h.hm.lv.mb))).since o (fun q t e=>by omega);rw [h.lap] at n;exact ζq rfl Tryz.func32 (Xbd.cell rfl rfl rfl n rfl .nil) ⟨_,z,_,rfl,.none _ _ _,⟨E,rfl,v⟩,fun q t=>(f q t).imp id (by omega),s⟩
theorem XhD (h:Hv c n0 w0 w F S H P x) (size:Int):Xan Tryz.prog 14 #[hpV H,.int .i64 size] w (Xap c n0 w0 w F H P (Xh2 c x size) (Xh3 c x size) (Xh4 c x size) (Xh5 c x size) []):=by
 have J:=h.hm.low';have a2:=h.hm.since0;have a3:=h.hm.tb.lt;have a4:=Xkj h.hm.obj;have m:=h.ok.alloc size;refine ζe Tryz.func14 Tryz.ntmps14 rfl (ζn rfl fun b w1 e1 r k a5 => ?_);have D:=h.hm.grow k;refine ζl D.obj rfl (ζv (Xkm D.lv size) rfl fun w2 d => ?_);have i:=D.grow d;by_cases e3:Xs1 c x.st size=3
 ·have a:¬ Xid c x size:=fun a=>by have:=a.1; omega
  have eX:Xh2 c x size=x:=by unfold Xh2; rw [if_neg a]
  have eE:Xh3 c x size=3:=by unfold Xh3; rw [if_pos e3]
  have eH:Xh4 c x size=0:=by unfold Xh4; rw [if_neg a]
  have eK:Xh5 c x size=0:=by unfold Xh5; rw [if_neg a]
  rw [eX,eE,eH,eK,e3];refine ζf rfl (ζy rfl (ζb rfl (ζs (d.heap' r) rfl fun E f l t => ?_)));have g:=(k.trans d).since l (fun q n e=>by omega);exact ζR Tryz.func14 f rfl ⟨_,F,S,rfl,.none _ _ _,h.grow g,fun _ h => .inl h,g.mono fun _ _ h=>h.elim⟩
 refine ζy rfl (ζl i.obj rfl (ζw (Xor i.tb) rfl ?_));by_cases e4:x.tb.fl = []
 ·have a:¬ Xid c x size:=fun a=>a.2 e4;have eX:Xh2 c x size=x:=by unfold Xh2; rw [if_neg a]
  have eE:Xh3 c x size=4:=by unfold Xh3; rw [if_neg e3,if_pos e4]
  have eH:Xh4 c x size=0:=by unfold Xh4; rw [if_neg a]
  have eK:Xh5 c x size=0:=by unfold Xh5; rw [if_neg a]
  rw [eX,eE,eH,eK,e4];refine ζy rfl (ζb rfl (ζs (d.heap' r) rfl fun E f l t => ?_));have g:=(k.trans d).since l (fun q n e=>by omega);exact ζR Tryz.func14 f rfl ⟨_,F,S,rfl,.none _ _ _,h.grow g,fun _ h => .inl h,g.mono fun _ _ h=>h.elim⟩
 have a6:=List.length_pos_iff.2 e4;refine ζf rfl ?_;by_cases s:Xs1 c x.st size=0
 ·have a:Xid c x size:=⟨s,e4⟩;obtain ⟨j,K,g2,g3,g4,V⟩:=h.ok.goes a;have eX:Xh2 c x size=⟨XsT c x.st (XuN x.tb) size,XuL x.tb⟩:=by unfold Xh2; rw [if_pos a]
  have eE:Xh3 c x size=0:=by unfold Xh3; rw [if_neg e3,if_neg e4,s]
  have eH:Xh4 c x size=XuM x.tb:=by unfold Xh4; rw [if_pos a]
  have eK:Xh5 c x size=2+((Xh2 c x size).st.rm.tot - x.st.rm.tot):=by unfold Xh5; rw [if_pos a]
  rw [eX] at m eK ⊢;rw [eE,eH,eK,s];refine ζf rfl (ζl i.obj rfl (ζc rfl (Xov i.tb e4) ?_));rintro _ wt ⟨rfl,L,M⟩;refine ζa rfl ?_;obtain ⟨Ft,ht,N,G⟩:=i.table L M;have O:=ht.obj;refine ζl O rfl ?_;refine ζc rfl (Xkk ht.lv (XuN x.tb) size) ?_;rintro _ wa ⟨rfl,Q⟩;refine ζa rfl ?_;rw [K,V];have o:=(Xaz.seq N G (ht.store Q)).up d;rw [K] at o m;have a7:0≤(XsT c x.st (j:Nat) size).rm.tot∧(XsT c x.st (j:Nat) size).rm.tot≤4611686018427387904:=m.st.rm.ok.tot;have W:=h.hm.lv.inv.rm.ok.tot;obtain ⟨R,i,u,v⟩:=o;have T:=i.obj;refine Xay.loadb hTT rfl T rfl rfl ?_;refine ζc rfl (Xkt i.lv) ?_;rintro _ E ⟨rfl,U,p,y⟩;refine ζa rfl ?_;have h3:=i.steps U p y;have z:¬ XuC P b:=fun e=>by rcases e with e | e <;> omega
  have A:¬ R b:=fun e=>by
   rcases u b e with e | e
   ·have:=J b e; omega
   ·omega
  have f:=p.heap (v.heap r (show ¬ Xib F P b from fun e=>by
   rcases e with e | e
   ·have:=J b e; omega
   ·exact z e)) (fun e=>A (e▸y))
  refine Xay.arith hTT rfl (w64 (by rw [h.lap]; omega)) rfl ?_;refine ζb rfl (ζs f rfl fun w5 B C a8 => ?_);have h5:=h3.boxed A (by omega) ⟨z,by omega⟩ (XiO f) (by decide) C;have I:=(((k.mono fun _ _ h=>h.elim).trans v).since p (fun q n e => .inl (e▸h.hm.lv.mb))).since C (fun q n e=>by omega);rw [h.lap] at B;exact ζq rfl Tryz.func14 (Xbd.cell rfl rfl rfl B rfl .nil) ⟨_,R,_,rfl,.none _ _ _,⟨h5,rfl,m⟩,fun q n=>(u q n).imp id (by omega),I⟩
 ·have a:¬ Xid c x size:=fun a=>s a.1;have eX:Xh2 c x size=x:=by unfold Xh2; rw [if_neg a]
  have eE:Xh3 c x size=Xs1 c x.st size:=by unfold Xh3; rw [if_neg e3,if_neg e4]
  have eH:Xh4 c x size=0:=by unfold Xh4; rw [if_neg a]
  have eK:Xh5 c x size=0:=by unfold Xh5; rw [if_neg a]
  rw [eX,eE,eH,eK];refine ζy rfl (ζb rfl (ζs (d.heap' r) rfl fun E f l t => ?_));have g:=(k.trans d).since l (fun q n e=>by omega);exact ζR Tryz.func14 f rfl ⟨_,F,S,rfl,.none _ _ _,h.grow g,fun _ h => .inl h,g.mono fun _ _ h=>h.elim⟩
end
theorem XhJ (c:Conf) (p:Xal) (w:World) (hc:Xam w c p) (ht:XbD w) (hm:XkH c=true):Xan Tryz.prog 10 #[.agg (Xfl c p).toArray] w (fun v w' => ∃ n0 F S H P,v = .tuple #[hpV H,.int .i64 0]∧Hv c n0 w w' F S H P (XlD c)∧Chg XaX w w'∧w.heap.size≤n0∧n0≤w'.heap.size∧S.p=p):=by
 have o:(1≤c.slots∧c.slots≤4096)∧1≤c.gens∧c.gens≤1023:=by
  have hm:=hm;unfold XkH at hm;simp only [Bool.and_eq_true,decide_eq_true_eq,Xwe] at hm;omega
 refine ζe Tryz.func10 Tryz.ntmps10 rfl (ζn rfl fun b x e1 q f D => ?_);refine ζl q rfl (ζc rfl (Xkp c p x (hc.chg f) (ht.grow f) hm) ?_);rintro _ l ⟨F,S,rfl,j,m,r,g⟩;refine ζa rfl (ζf rfl ?_);have h:=g.heap' q;refine ζl h rfl (ζl h rfl ?_);obtain ⟨N,n⟩:=Int.eq_ofNat_of_zero_le (show 0≤c.slots by omega);rw [n];refine ζc rfl (Xou N c.gens l (by omega) o.2) ?_;rintro _ J ⟨P,rfl,s,y,i⟩;refine ζa rfl (ζl (i.heap' h) rfl (ζb rfl (ζn rfl fun H A e4 B k E => ?_)));have G:=g.size;have I:=i.size;have a:=j.low;have C:=j.inv.rm;have d:=i.trans k;have t:=j.base;have u:Hm c l.heap.size w A F S H P (XlO c) (XlR N c.gens) :=
  ⟨{(j.grow d) with base:=fun z e=>by have:=t z e; omega,chg:=((f.trans g).trans d)},by rw [B]; rfl,by rw [n]; exact y.grow k,⟨⟨s.1,s.2⟩,by omega,by omega⟩,
   fun e=>by have:=a _ e; omega,fun e=>by have:=a _ e; omega,fun e=>by have:=a _ e; omega⟩
 have eN:XlD c=⟨XlO c,XlR N c.gens⟩:=by unfold XlD; rw [n]
 exact ζr Tryz.func10 rfl ⟨l.heap.size,F,S,H,P,rfl,⟨by rw [eN]; exact u,by rw [eN]; exact m,XlE hm C⟩,(f.trans g).trans d,by omega,by omega,r⟩
def XsC:Conf:=⟨64,4,[32],[0],8,5,3,128⟩
def XhY:List Int := [104,105]
def Xdg:HpM:=XlD XsC
def aw23x1:HpM:=Xh2 XsC Xdg 20
def aw23x2:HpM:=Xil XsC aw23x1 4096 0 XhY
def aw23x3:HpM:=Xie XsC aw23x2 4096 0 3
def aw23x4:HpM:=Xic XsC aw23x3 4096
def aw23x5:HpM:=Xic XsC aw23x4 4096
def aw23x6:HpM:=Xh2 XsC aw23x5 0
theorem Xdd:XkH XsC=true:=by kernel_rfl
theorem Xc6:Xh3 XsC Xdg 20=0∧Xh4 XsC Xdg 20=4096∧Xh5 XsC Xdg 20=41:=⟨by kernel_rfl,by kernel_rfl,by kernel_rfl⟩
theorem Xc7:Xig aw23x1 4096 0 2=0∧0+(1+(aw23x2.st.rm.tot - aw23x1.st.rm.tot))=3:=⟨by kernel_rfl,by kernel_rfl⟩
theorem Xc8:Xig aw23x2 4096 0 3=0∧0+(1+(aw23x3.st.rm.tot - aw23x2.st.rm.tot))=4∧Xif XsC aw23x2 4096 0 3 = [104,105,0]:=⟨by kernel_rfl,by kernel_rfl,by kernel_rfl⟩
theorem Xdc:XsW aw23x3.st=20∧((XhV aw23x3.st.rm.pl:Nat):Int)*64=64:=⟨by kernel_rfl,by kernel_rfl⟩
theorem Xc9:tbE aw23x3.tb 4096=0∧2+(1+(aw23x4.st.rm.tot - aw23x3.st.rm.tot))=10:=⟨by kernel_rfl,by kernel_rfl⟩
theorem Xda:tbE aw23x4.tb 4096=6∧0+(1+(aw23x5.st.rm.tot - aw23x4.st.rm.tot))=1:=⟨by kernel_rfl,by kernel_rfl⟩
theorem Xdb:Xh3 XsC aw23x5 0=3:=by kernel_rfl
theorem Xde:XsW aw23x6.st=0∧((XhV aw23x6.st.rm.pl:Nat):Int)*64=0∧XuF aw23x6.tb=0:=⟨by kernel_rfl,by kernel_rfl,by kernel_rfl⟩
theorem Xdf:(FloatKind.format .f64).div (FloatKind.nearest .f64 20) (FloatKind.nearest .f64 64)=some 4599301119452119040:=by kernel_rfl


theorem Rd.of23 {k:IntKind} {w:World} {b:Nat} {c:Array Value} {t:TypeId} {fz:Nat × Nat} {zs:List Int} (h:w.heap[b]? = some (.cells c t fz)) (hc:c=(zs.map (Value.int k)).toArray):Rd k w (some ⟨b,0,none⟩) zs:=fun i a =>
 ⟨b,0,rfl,by rw [Xel h,hc]; simp [a]⟩
section
variable {c:Conf} {n0:Nat} {w0 w w1 w2 w':World} {F F':Nat→Prop} {S:Sto} {H:Nat} {P:XbH} {x:HpM}
theorem Hv.off (h:Hv c n0 w0 w F S H P x) {b:Nat} (hb:w.heap.size≤b):¬ Xib F P b:=fun e=>by
 have a:=h.hm.tb.lt;rcases e with e | e | e
 ·have:=h.hm.low' b e; omega
 ·omega
 ·omega
theorem Hv.fresh (h:Hv c n0 w0 w F S H P x) {b ty:Nat} (hc:Chg XaX w w1) (hb:w.heap.size≤b) (hk:kd w1 b=some (some ty)) (ht:ty≠329∧ty≠325∧ty≠3) (hst:Chg (fun q=>q=b) w1 w2):Hv c n0 w0 w2 F S H P x:=by
 have f:=h.hm.since0;have d:=Xkj h.hm.obj;have a:=h.off hb;exact (h.grow hc).boxed (fun e=>a (.inl e)) (by omega) ⟨fun e=>a (.inr e),by omega⟩ hk ht hst
theorem XiV {b:Nat} {o:Obj} (h:w.heap[b]? = some o) (hn:¬ Xib F P b) (hc:Chg (Xib F P) w w') (hF:∀ z,F' z→F z∨w.heap.size≤z):w'.heap[b]? = some o ∧ ¬ Xib F' P b :=
 ⟨hc.heap h hn,fun e=>e.elim (fun e=>(hF b e).elim (fun g=>hn (.inl g)) (fun g=>by have:=Xkj h; omega)) (fun e=>hn (.inr e))⟩
theorem Xaj.op {n:Nat} {l:List Int} {b:Value} (h:Xaj n F l b w) (hP:P.tb<n∧P.sb<n) (hc:Chg (Xib F P) w w') (hF:∀ z,F' z→F z∨w.heap.size≤z):Xaj n F' l b w':=by
 obtain ⟨a,cap,e,j,f⟩:=h;have k:=(show Xaj n F l b w from ⟨a,cap,e,j,f⟩).chg hc (fun z m=>m.elim .inr (fun e => .inl (.inl (by rcases e with e | e <;> omega))));obtain ⟨o,d,e2,i,c⟩:=k;have e3:a=o:=by rw [e] at e2; cases e2; rfl
 subst e3;exact ⟨a,d,e2,i,fun b' off s' e=>⟨(c b' off s' e).1,fun g=>(hF b' g).elim (c b' off s' e).2 (fun g=>by have:=(f b' off s' e).1; omega)⟩⟩
end
theorem Xjb (w:World):Xan Tryz.prog 35 #[] w (fun v w' => ∃ p,v = .agg (Xfl XsC p).toArray∧Xam w' XsC p∧Chg XaX w w'):=by
 refine ζe Tryz.func35 Tryz.ntmps35 rfl (ζn rfl fun b u e1 l e o=>Xay.buildSlice hTT rfl fun f x e2 g d q=>ζa rfl (Xay.buildSlice hTT rfl fun h y e3 i a r=>ζa rfl (ζb rfl (ζs (a.heap' (d.heap' l)) rfl fun m j c s => ?_))));have n:Xam m XsC ⟨some ⟨f,0,none⟩,1,some ⟨h,0,none⟩,1⟩ :=
  ⟨Rd.of23 (c.heap (a.heap' g) (by omega)) rfl,Rd.of23 (c.heap i (by omega)) rfl,by decide,by decide,by unfold XaC; decide⟩
 exact ζR Tryz.func35 j rfl ⟨⟨some ⟨f,0,none⟩,1,some ⟨h,0,none⟩,1⟩,rfl,n,((e.trans d).trans a).since c (fun k z t=>by omega)⟩
theorem Xi8 (w:World) (ht:XbD w):Xan Tryz.prog 9 #[] w (Grow (.bool true) w):=by
 refine ζe Tryz.func9 Tryz.ntmps9 rfl (ζc rfl (Xjb w) ?_);rintro _ ws ⟨p,rfl,be,a9⟩;refine ζa rfl (ζc rfl (XhJ XsC p ws be (ht.grow a9) Xdd) ?_);rintro _ w0 ⟨n0,F,S,H,P,rfl,h0,dk,_,_⟩;refine ζa rfl ?_;have aa:=XhD h0 20;rw [show XlD XsC=Xdg from rfl,Xc6.1,Xc6.2.1,Xc6.2.2] at aa;refine ζc rfl (aa) ?_;rintro _ dl ⟨dm,F1,S1,rfl,bf,ab,dn,dp⟩;refine ζa rfl ?_;obtain ⟨dq,dr,rfl,ds,cu⟩:=bf;refine ζn rfl fun N dt du ac b8 cv=>ζs ac rfl fun bg ad b9 cw => ?_;have h1:=ab.fresh b8 (by omega) (XiO ac) (by decide) b9;have bh:=ab.off (b:=N) (by omega);replace h1:Hv XsC n0 ws bg F1 S1 H P aw23x1:=h1;refine ζl ad rfl (Xay.buildSlice hTT rfl fun hb w4 e4 bj bk dv=>ζa rfl (Xay.mark hTT rfl bj fun w5 dw ba bl dx=>ζa rfl ?_));have R:=bk.since bl (fun z hz e=>by omega);have h5:=h1.grow R;have ae:=XhQ h5 4096 0 (some ⟨hb,0,none⟩) 2 XhY (by decide) (by decide) (Rd.of23 ba rfl) (by decide) (by decide) (by unfold InB; decide) (fun _ b off s e hz=>by cases e; exact h1.off (b:=hb) (by omega) (.inl hz));rw [show Xig aw23x1 4096 0 (XhY.length:Nat)=0 from Xc7.1,show Xil XsC aw23x1 4096 0 XhY=aw23x2 from rfl,Xc7.2] at ae;have u:=R.heap' ad;have T:=bh;refine ζc rfl (ae) ?_;rintro _ dy ⟨dz,F2,S2,rfl,bn,af,bo,ag⟩;refine ζa rfl ?_;obtain ⟨e0,e1,rfl,e2,cx⟩:=bn;refine ζn rfl fun O e3 e5 ah U cy=>ζs ah rfl fun bp bq V d0 => ?_;have h2:=af.fresh U (by omega) (XiO ah) (by decide) V;have br:=af.off (b:=O) (by omega);have d1:=ag.size;obtain ⟨D,bs⟩:=XiV u T ag bo;replace D:=V.heap (U.heap' D) (show ¬ N=O by omega);refine ζl D rfl ?_;have ai:=XhK h2 4096 0 3 (by decide) (by decide) (by decide);rw [Xc8.1,show Xie XsC aw23x2 4096 0 3=aw23x3 from rfl,Xc8.2.1,Xc8.2.2] at ai;refine ζc rfl (ai) ?_;rintro _ bt ⟨e6,F3,S3,rfl,a,aj,ak,W⟩;refine ζa rfl ?_;obtain ⟨al,am,rfl,bu,bc⟩:=a;refine ζn rfl fun A e7 e8 an r d3=>ζs an rfl fun e9 bv t d4 => ?_;have h3:=aj.fresh r (by omega) (XiO an) (by decide) t;have bx:=aj.off (b:=A) (by omega);have d5:=W.size;obtain ⟨a0,bz⟩:=XiV D bs W ak;replace a0:=t.heap (r.heap' a0) (show ¬ N=A by omega);obtain ⟨a1,c0⟩:=XiV bq br W ak;replace a1:=t.heap (r.heap' a1) (show ¬ O=A by omega);have a:Xaj bp.heap.size F3 [104,105,0] (.slice al 3 am) bt:=⟨al,am,rfl,bu,bc⟩;replace a:=a.chg (X:=fun q=>q=A) ((r.mono fun _ _ h=>h.elim).trans t) (fun q e => .inl (.inr (by omega)));have ao:=XhE h3.hm;rw [Xdc.1,show ((XhV aw23x3.st.rm.pl:Nat):Int)*XsC.size=64 from Xdc.2] at ao;refine ζc rfl (ao) ?_;rintro _ wf ⟨fl,rfl,hq,m⟩;refine ζa rfl ?_;unfold XoK at hq;rw [Xdf] at hq;subst hq;have hf:=h3.grow m;have d6:=m.size;have ap:=m.heap' a0;have c1:=m.heap' a1;have c2:=m.heap' bv;have c3:=bz;have c4:=c0;have c5:=bx;replace a:=a.chg m (fun q e=>e.elim);refine ζl ap rfl ?_;have aq:=XhF hf 4096 (by decide);rw [show Xic XsC aw23x3 4096=aw23x4 from rfl,if_pos Xc9.1,Xc9.1,Xc9.2] at aq;refine ζc rfl (aq) ?_;rintro _ ea ⟨eb,F4,S4,rfl,c6,ar,E,x⟩;refine ζa rfl ?_;obtain ⟨ec,ed,rfl,ee,d7⟩:=c6;refine ζn rfl fun B ef eg au j d8=>ζs au rfl fun eh c7 k d9 => ?_;have h4:=ar.fresh j (by omega) (XiO au) (by decide) k;have c8:=ar.off (b:=B) (by omega);have db:=x.size;obtain ⟨G,c9⟩:=XiV ap c3 x E;replace G:=k.heap (j.heap' G) (show ¬ N=B by omega);obtain ⟨a2,ca⟩:=XiV c1 c4 x E;replace a2:=k.heap (j.heap' a2) (show ¬ O=B by omega);obtain ⟨a3,cb⟩:=XiV c2 c5 x E;replace a3:=k.heap (j.heap' a3) (show ¬ A=B by omega);replace a:=a.op (by have:=h2.hm.tb.lt; exact this) x E;replace a:=a.chg (X:=fun q=>q=B) ((j.mono fun _ _ h=>h.elim).trans k) (fun q e => .inl (.inr (by omega)));refine ζl G rfl ?_;have av:=XhF h4 4096 (by decide);rw [show Xic XsC aw23x4 4096=aw23x5 from rfl,if_neg (by rw [Xda.1]; decide),Xda.1,Xda.2] at av;refine ζc rfl (av) ?_;rintro _ ei ⟨ej,F5,S5,rfl,cc,aw,y,n⟩;refine ζa rfl ?_;obtain ⟨ek,el,rfl,em,dc⟩:=cc;refine ζn rfl fun C en eo ax g dd=>ζs ax rfl fun ep cd i de => ?_;have h5:=aw.fresh g (by omega) (XiO ax) (by decide) i;have ce:=aw.off (b:=C) (by omega);have df:=n.size;obtain ⟨u,T⟩:=XiV G c9 n y;replace u:=i.heap (g.heap' u) (show ¬ N=C by omega);obtain ⟨a4,cf⟩:=XiV a2 ca n y;replace a4:=i.heap (g.heap' a4) (show ¬ O=C by omega);obtain ⟨a5,cg⟩:=XiV a3 cb n y;replace a5:=i.heap (g.heap' a5) (show ¬ A=C by omega);obtain ⟨a6,ch⟩:=XiV c7 c8 n y;replace a6:=i.heap (g.heap' a6) (show ¬ B=C by omega);replace a:=a.op (by have:=h2.hm.tb.lt; exact this) n y;replace a:=a.chg (X:=fun q=>q=C) ((g.mono fun _ _ h=>h.elim).trans i) (fun q e => .inl (.inr (by omega)));have ay:=XhD h5 0;rw [show Xh2 XsC aw23x5 0=aw23x6 from rfl,Xdb] at ay;refine ζc rfl (ay) ?_;rintro _ er ⟨es,F6,S6,rfl,ci,cj,o,l⟩;refine ζa rfl ?_;obtain ⟨et,eu,rfl,ew,dg⟩:=ci;refine ζn rfl fun Q ex ey az d dh=>ζs az rfl fun f0 ck f di => ?_;have h6:=cj.fresh d (by omega) (XiO az) (by decide) f;have dj:=l.size;obtain ⟨I,f1⟩:=XiV u T l o;replace I:=f.heap (d.heap' I) (show ¬ N=Q by omega);obtain ⟨J,f2⟩:=XiV a4 cf l o;replace J:=f.heap (d.heap' J) (show ¬ O=Q by omega);obtain ⟨K,f3⟩:=XiV a5 cg l o;replace K:=f.heap (d.heap' K) (show ¬ A=Q by omega);obtain ⟨L,f4⟩:=XiV a6 ch l o;replace L:=f.heap (d.heap' L) (show ¬ B=Q by omega);obtain ⟨M,f5⟩:=XiV cd ce l o;replace M:=f.heap (d.heap' M) (show ¬ C=Q by omega);replace a:=a.op (by have:=h2.hm.tb.lt; exact this) l o;replace a:=a.chg (X:=fun q=>q=Q) ((d.mono fun _ _ h=>h.elim).trans f) (fun q e => .inl (.inr (by omega)));have b0:=XhE h6.hm;rw [Xde.1,show ((XhV aw23x6.st.rm.pl:Nat):Int)*XsC.size=0 from Xde.2.1] at b0;refine ζc rfl (b0) ?_;rintro _ wg ⟨fg,rfl,cm,c⟩;refine ζa rfl ?_;have cn:=(Xm0 cm).2;have hg:=h6.grow c;refine ζy rfl (ζl (c.heap' I) rfl (ζy rfl (ζl (c.heap' I) rfl (ζy rfl (ζl (c.heap' J) rfl (ζy rfl (ζl (c.heap' J) rfl (ζy rfl (ζl (c.heap' K) rfl ?_)))))))));obtain ⟨rz,cz,ez,cp,_⟩:=a;cases ez
 refine Xay.bstrN hTT ([104,105,0]) rfl rfl ((cp.chg c)) rfl (Xay.streq hTT rfl (rfl) rfl (ζy rfl (ζl (c.heap' K) rfl (ζy rfl (Xay.fcmp hTT rfl (v:=true) rfl rfl (ζy rfl (ζl (c.heap' L) rfl (ζy rfl (ζl (c.heap' L) rfl (ζy rfl (ζl (c.heap' M) rfl (ζy rfl (ζl (c.heap' M) rfl (ζy rfl (ζl (c.heap' ck) rfl (ζy rfl (Xay.fcmp hTT rfl cn rfl (ζy rfl ?_))))))))))))))))));have b7:=XhI hg.hm;rw [Xde.2.2] at b7;exact ζw b7 rfl (ζr Tryz.func9 rfl ⟨rfl,a9.trans hg.hm.lv.chg⟩)
structure OpM where
 kind:Int
 h:Int
 a:Int
 b:Int
 bs:List Int
 ba:Option Addr
 bc:Nat
def opL (u:OpM):List Value := [.int .i64 u.kind,.int .i64 u.h,.int .i64 u.a,.int .i64 u.b,.slice u.ba u.bs.length u.bc]
structure XaZ (w:World) (u:OpM):Prop where
 kind : -9223372036854775808≤u.kind∧u.kind≤9223372036854775807
 h : -9223372036854775808≤u.h∧u.h≤9223372036854775807
 a : -9223372036854775808≤u.a∧u.a≤9223372036854775807
 b : -9223372036854775808≤u.b∧u.b≤9223372036854775807
 rd:Rd .u8 w u.ba u.bs
 rng:InB u.bs
 lc:u.bs.length≤u.bc
 len:u.bc≤9223372036854775807
theorem XaZ.grow {w w':World} {u:OpM} (h:XaZ w u) (hc:Chg XaX w w'):XaZ w' u:=⟨h.kind,h.h,h.a,h.b,h.rd.chg hc,h.rng,h.lc,h.len⟩
def Xh6 (c:Conf) (x:HpM) (u:OpM):HpM :=
 if u.kind=1 then Xh2 c x u.a else if u.kind=2 then Xic c x u.h else if u.kind=3 then Xie c x u.h u.a u.b else if u.kind=4 then Xil c x u.h u.a u.bs
 else if u.kind=5 then Xih c x u.h u.a else if u.kind=6 then Xik c x else Xij x u.a u.b
def Xh8 (c:Conf) (x:HpM) (u:OpM):Int :=
 if u.kind=1 then Xh3 c x u.a else if u.kind=2 then tbE x.tb u.h else if u.kind=3 then Xig x u.h u.a u.b else if u.kind=4 then Xig x u.h u.a u.bs.length
 else if u.kind=5 then Xii c x u.h u.a else if u.kind=6 then 0 else Xtg x.st u.a u.b
def Xh9 (c:Conf) (x:HpM) (u:OpM):Int:=if u.kind=1 then Xh4 c x u.a else 0
def Xh7 (c:Conf) (x:HpM) (u:OpM):List Int:=if u.kind=3 then Xif c x u.h u.a u.b else []
def Xia (c:Conf) (x:HpM) (u:OpM):Int :=
 if u.kind=1 then Xh5 c x u.a else if u.kind=2 then (if tbE x.tb u.h=0 then 2 else 0)+(1+((Xh6 c x u).st.rm.tot - x.st.rm.tot))
 else if u.kind=3∨u.kind=4∨u.kind=5 then 0+(1+((Xh6 c x u).st.rm.tot - x.st.rm.tot)) else (Xh6 c x u).st.rm.tot - x.st.rm.tot
def LgO (s:StM) (pd:Option (Nat × PlcM)):Prop := ∀ e ∈ s.rm.lg,(∃ (o:Nat),∃ t,s.th[o]? = some (some t)∧t.q.cls = -1∧t.q.page=(e.1:Nat)) ∨ ∃ o q,pd=some (o,q)∧q.cls = -1∧q.page=(e.1:Nat)
theorem Xvy:∀ {p:List Int},0<Xnz p → ∃ a:Nat,Xnk p a ≠ -1
 |[],h=>by cases h
 |o::r,h=>by
  by_cases c:o = -1
  ·have:0<Xnz r:=by
    unfold Xnz pgB at h ⊢;rw [List.map_cons,cnt] at h
    simpa [c] using h
   obtain ⟨a,b⟩:=Xvy this;refine ⟨a+1,?_⟩;unfold Xnk at b ⊢;rw [if_pos (by omega)] at b ⊢
   simpa using b
  ·exact ⟨0,by unfold Xnk; rw [if_pos (by omega)]; exact c⟩
section
variable {c:Conf} {s s':StM} {pd:Option (Nat × PlcM)}
theorem LgO.of (h:LgO s pd) (e1:s'.rm.lg=s.rm.lg) (e2:s'.th=s.th):LgO s' pd:=fun e a=>by
 rw [e2];exact h e (e1▸a)
theorem LgO.begin (h:LgO s pd) (k:Nat):LgO (XsV c s k) pd:=by
 unfold XsV;split
 ·exact h.of (Xqf ..) rfl
 ·exact h
theorem LgO.go (h:LgO s none) (hs:s.Ok c) (k:Nat) (n:Int):LgO (Xs3 s k n) none:=by
 unfold Xs3;cases hm:Xs8 s (k:Nat) with
 |none=>exact h
 |some m =>
  obtain ⟨j,ej,q,f⟩:=Xlu hm;obtain ⟨⟨o,t,e1,e2,e3⟩,_⟩:=hs.mv j m f;simp only
  split
  ·exact h.of rfl rfl
  ·intro e i;rw [XpL] at i;rcases h e i with ⟨b,l,d,a,p⟩ | ⟨_,_,g,_⟩
   ·refine .inl ⟨b,l,?_,a,p⟩;show (s.th.set m.who.toNat _)[b]? = _
    rw [List.getElem?_set_ne]
    ·exact d
    ·intro e4;have:b=o:=by omega
     subst this;rw [e2] at d;cases d
     rw [e3] at a;have a:((j:Nat):Int) = -1:=a;omega
   ·cases g
theorem LgO.finish (h:LgO s none) (hs:s.Ok c) (κ:Int):LgO (Xs0 s κ) none:=by
 unfold Xs0;split
 ·exact h
 ·exact h.go hs _ _
theorem LgO.dropped {o:Nat} {q:PlcM} (h:LgO s (some (o,q))) (hs:s.OkP c (some (o,q))):LgO {s with rm:=Xpw s.rm q} none:=by
 intro e a;by_cases b:q.cls = -1
 ·obtain ⟨n,r,k,f,t⟩:=hs.pl o q rfl b;rw [f,Xpy hs.rm.ok k] at a;replace a:e ∈ Xjt s.rm.lg n:=a;unfold Xjt at a;obtain ⟨l,i⟩:=List.mem_filter.1 a;rcases h e l with g | ⟨m,p,g,j,d⟩
  ·exact .inl g
  ·cases g
   rw [f] at d;simp only [bne_iff_ne,ne_eq] at i;exact absurd (Int.ofNat_inj.1 d).symm i
 ·replace a:e ∈ (Xpw s.rm q).lg:=a;rw [Xpz b,XpL] at a;rcases h e a with g | ⟨m,p,g,j,d⟩
  ·exact .inl g
  ·cases g
   exact absurd j b
theorem LgO.clear {o:Nat} {q:PlcM} (h:LgO s (some (o,q))) (hs:s.OkP c (some (o,q))):LgO (XsZ c s q) none:=by
 unfold XsZ;split
 ·exact h.dropped hs
 ·exact ((h.dropped hs).begin _).go (StM.OkP.begin hs.dropped _) _ _
theorem LgO.away (h:LgO s none) {o:Nat} {t:ThM} (ht:s.th[o]? = some (some t)):LgO {s with th:=s.th.set o none} (some (o,t.q)):=by
 intro e f;rcases h e f with ⟨a,i,b,c,d⟩ | ⟨_,_,g,_⟩
 ·by_cases e1:o=a
  ·subst e1;rw [ht] at b;cases b
   exact .inr ⟨o,t.q,rfl,c,d⟩
  ·exact .inl ⟨a,i,by show (s.th.set o none)[a]? = _; rw [List.getElem?_set_ne e1]; exact b,c,d⟩
 ·cases g
theorem LgO.lay (h:LgO s pd) {o:Nat} {size:Int} (ho:s.th[o]? = some none):LgO (Xs6 c s (o:Nat) size) pd:=by
 have i:=(List.getElem?_eq_some_iff.1 ho).1;have old:∀ e ∈ s.rm.lg,(∃ (b:Nat),∃ t,(Xs6 c s (o:Nat) size).th[b]? = some (some t)∧t.q.cls = -1∧t.q.page=(e.1:Nat)) ∨ ∃ b q,pd=some (b,q)∧q.cls = -1∧q.page=(e.1:Nat):=fun e a=>by
  rcases h e a with ⟨b,l,f,n,p⟩ | g
  ·refine .inl ⟨b,l,?_,n,p⟩;show (s.th.set (o:Int).toNat _)[b]? = _
   rw [Int.toNat_natCast,List.getElem?_set_ne]
   ·exact f
   ·intro e1; subst e1; rw [ho] at f; cases f
  ·exact .inr g
 intro e a;replace a:e ∈ (Xjh c s (o:Nat) size).rm.lg:=a;cases d:XuB c s size with
 |some m =>
  unfold Xjh at a;rw [d] at a;replace a:e ∈ (XpP s.rm (XnI c.classes size) m.pt m.ta o).lg:=a;rw [XpR] at a;exact old e a
 |none =>
  have j:Xjg c s (o:Nat) size=XpZ c s.rm (o:Nat) size:=by unfold Xjg; rw [d]
  unfold Xjh at a;rw [d] at a;replace a:e ∈ (XpX c s.rm (o:Nat) size).lg:=a;unfold XpX at a;rw [if_neg (by omega)] at a;split at a
  ·exact old e a
  ·rename_i hf
   split at a
   ·rename_i k
    rcases List.mem_append.1 a with g | g
    ·exact old e g
    ·rw [List.mem_singleton] at g;refine .inl ⟨o,⟨size,Xjg c s (o:Nat) size⟩,?_,?_,?_⟩
     ·show (s.th.set (o:Int).toNat _)[o]? = _
      rw [Int.toNat_natCast,List.getElem?_set_self i]
     ·show (Xjg c s (o:Nat) size).cls = -1
      rw [j];unfold XpZ;rw [if_neg (by omega),if_neg hf,if_pos k]
     ·show (Xjg c s (o:Nat) size).page=_
      rw [j,g];unfold XpZ;rw [if_neg (by omega),if_neg hf,if_pos k]
   ·rw [Xqf] at a;exact old e a
theorem LgO.wrote (h:LgO s pd) (o:Int) (i n:Nat):LgO (Xto s o i n) pd:=by
 unfold Xto;split
 ·split
  ·exact h.of rfl rfl
  ·exact h
 ·exact h
theorem LgO.sized (h:LgO s pd) {o:Nat} {t:ThM} (ht:s.th[o]? = some (some t)) (size:Int):LgO (Xth s (o:Nat) ⟨size,t.q⟩) pd:=by
 intro e f;rcases h e f with ⟨a,i,b,c,d⟩ | g
 ·by_cases e1:o=a
  ·subst e1;rw [ht] at b;cases b
   refine .inl ⟨o,⟨size,t.q⟩,?_,c,d⟩;show (s.th.set (o:Int).toNat _)[o]? = _
   rw [Int.toNat_natCast,List.getElem?_set_self (List.getElem?_eq_some_iff.1 ht).1]
  ·refine .inl ⟨a,i,?_,c,d⟩;show (s.th.set (o:Int).toNat _)[a]? = _
   rw [Int.toNat_natCast,List.getElem?_set_ne e1];exact b
 ·exact .inr g
theorem LgO.alloc (h:LgO s none) (o size:Int):LgO (XsT c s o size) none:=by
 unfold XsT;split
 ·rename_i a
  obtain ⟨j,rfl,_,b,_⟩:=Xci a;exact h.lay b
 ·exact h
theorem LgO.free (h:LgO s none) (hs:s.Ok c) (o:Int):LgO (Xs2 c s o) none:=by
 unfold Xs2;split
 ·exact h
 ·rename_i b
  obtain ⟨j,t,rfl,ht⟩:=XmD (Decidable.not_not.1 b);rw [Xta ht,Int.toNat_natCast];obtain ⟨t',a,_,_,_,d⟩:=Xgl hs ht;rw [Xta a];exact ((h.finish hs _).away a).clear ((hs.finish t.q.cls).away a d)
theorem LgO.moveTo (h:LgO s none) (hs:s.Ok c) {o:Nat} {t:ThM} {size:Int} (ht:s.th[o]? = some (some t)) (hst:Xtp c t.size size=false) (hf:Xs1 c s size=0):LgO (Xs7 c s o size) none:=by
 obtain ⟨t',M⟩:=Xlc hs ht hst hf;unfold Xs7;simp only
 rw [Xta ht,Xta M.th1,Xtj ht];have a:=(List.getElem?_eq_some_iff.1 M.th1).1;have d:=(h.finish hs t.q.cls).away M.th1;have f:LgO (XeQ {Xs0 s t.q.cls with th:=(Xs0 s t.q.cls).th.set o none} (Xew c t'.q.plc 0 (min t.size size).toNat)) (some (o,t'.q)):=d.of rfl rfl;have b:=f.lay (c:=c) (o:=o) (size:=size) (by show ((Xs0 s t.q.cls).th.set o none)[o]? = _; rw [List.getElem?_set_self a]);have e:XeQ {Xs0 s t.q.cls with th:=(Xs0 s t.q.cls).th.set o none} (Xew c t'.q.plc 0 (min t.size size).toNat)={XeQ (Xs0 s t.q.cls) (Xew c t'.q.plc 0 (min t.size size).toNat) with th:=(XeQ (Xs0 s t.q.cls) (Xew c t'.q.plc 0 (min t.size size).toNat)).th.set o none}:=rfl;rw [e,Xjj] at b;exact LgO.clear (b.of rfl rfl) (M.ok2.put _ _ (Xvb M.ok1.bi _ _))
theorem LgO.resize (h:LgO s none) (hs:s.Ok c) (o size:Int):LgO (Xtd c s o size) none:=by
 unfold Xtd;split
 ·exact h
 ·rename_i b
  obtain ⟨j,t,rfl,ht,d,hf⟩:=Xpd (Decidable.not_not.1 b);rw [Xtj ht,Xta ht];split
  ·split
   ·exact ((show LgO (Xs9 c s t.q size.toNat (XwU (t.size - size).toNat)) none from h.of rfl rfl).sized (o:=j) (t:=t) ht size).wrote _ _ _
   ·exact h.sized ht size
  ·rename_i a
   have a:Xtp c t.size size=false:=by simpa using a
   exact h.moveTo hs ht a (hf.resolve_left (by rw [a]; decide)).2
theorem LgO.read (h:LgO s none) (o i n:Int):LgO (Xtb c s o i n) none:=by
 unfold Xtb;split
 ·exact h.of rfl rfl
 ·exact h
theorem LgO.write (h:LgO s none) (o i:Int) (l:List Int):LgO (Xtn c s o i l) none:=by
 unfold Xtn;split
 ·exact (show LgO (Xs9 c s (stQ s o) i.toNat l) none from h.of rfl rfl).wrote _ _ _
 ·exact h
theorem LgO.tickK (h:LgO s none) (hs:s.Ok c) (n:Int) (k:Nat):LgO (tickK c (s,n) k).1 none:=by
 unfold Go.Proofs.YtgddpaiandefgaaGreatDoor.tickK;split
 ·exact h
 ·split
  ·exact h.begin k
  ·exact (h.begin k).go (StM.OkP.begin hs k) k _
theorem LgO.tickTo (h:LgO s none) (hs:s.Ok c):∀ n,LgO (tickTo c s n).1 none
 |0=>h
 |n+1=>by rw [Xu2]; exact LgO.tickK (LgO.tickTo h hs n) (hs.tickTo n) _ _
theorem LgO.tick (h:LgO s none) (hs:s.Ok c):LgO (Xtm c s) none:=h.tickTo hs _
theorem LgO.set (h:LgO s none) (k keep:Int):LgO (Xtf s k keep) none:=by
 unfold Xtf;split
 ·exact h.of rfl rfl
 ·exact h
theorem LgO.new (c:Conf):LgO (XlO c) none:=fun e a=>by cases a
theorem XhX (hs:s.Ok c) (hl:LgO s none) (hn:∀ (o:Nat) t,s.th[o]?≠some (some t)):XhV s.rm.pl=0:=by
 have f:s.rm.lg = []:=by
  cases e:s.rm.lg with
  |nil=>rfl
  |cons a r =>
   rcases hl a (by rw [e]; exact List.mem_cons_self) with ⟨o,t,g,_⟩ | ⟨_,_,g,_⟩
   ·exact absurd g (hn o t)
   ·cases g
 have j:∀ x ∈ s.rm.shs,x.pg = []:=fun x b=>by
  obtain ⟨k,d⟩:=List.mem_iff_getElem?.1 b;cases e:x.pg with
  |nil=>rfl
  |cons a r =>
   have n:a ∈ x.pg:=by rw [e]; exact List.mem_cons_self
   obtain ⟨i,q⟩:=Xvy (hs.rm.pos k x d a n);have u:=Xsm (hs.rm.mok.sh k x d).1.nodup (m:=a.1) (p:=a.2) n;have v:XpS s.rm (k:Nat) (a.1:Nat) (i:Nat) ≠ -1:=by
    unfold XpS XpC;rw [if_pos (by omega),Int.toNat_natCast,d];show Xrk x (a.1:Nat) (i:Nat) ≠ -1
    unfold Xrk;rw [u];exact q
   rcases hs.own _ _ _ v with ⟨o,t,_,g,_⟩ | ⟨_,g⟩
   ·exact absurd g (hn o t)
   ·cases g
 rw [hs.rm.ok.sum,f];show Xrg s.rm.shs+0=0
 have key:∀ l:List Sm,(∀ x ∈ l,x.pg = [])→(l.map fun x=>x.pg.length).sum=0:=by
  intro l
  induction l with
  |nil=>intro _; rfl
  |cons a r ih=>intro h; rw [List.map_cons,List.sum_cons,ih (fun x b=>h x (List.mem_cons_of_mem _ b)),h a List.mem_cons_self]; rfl
 exact key _ j
end

theorem XnH {s P Q r r':Int} (h1:0≤r∧r<s) (h2:0≤r'∧r'<s) (h:P*s+r=Q*s+r'):P=Q∧r=r':=by
 rcases Int.lt_trichotomy P Q with g | g | g
 ·have:(P+1)*s≤Q*s:=Int.mul_le_mul_of_nonneg_right (by omega) (by omega);rw [Int.add_mul,Int.one_mul] at this;omega
 ·subst g; exact ⟨rfl,by omega⟩
 ·have:(Q+1)*s≤P*s:=Int.mul_le_mul_of_nonneg_right (by omega) (by omega);rw [Int.add_mul,Int.one_mul] at this;omega
def Xa5 (M:RmM) (q:PlcM):Prop:=(q.cls ≠ -1∧q.pages = []∧XpS M q.cls q.page q.idx ≠ -1) ∨ ∃ n r,(n,r) ∈ M.lg∧q=⟨-1,(n:Nat),0,Xly r⟩
section
variable {c:Conf} {s:StM} {pd:Option (Nat × PlcM)}
theorem XdQ (h:Xbg c s.rm) {k n a:Int} (ho:XpS s.rm k n a ≠ -1):∃ pn:Nat,n=pn∧pn<s.rm.pl.own.length∧s.rm.pl.own.getD pn 0=k∧0≤k∧k<s.rm.shs.length:=by
 obtain ⟨j,x,rfl,i,b,e,_⟩:=XpU h ho;obtain ⟨m,p,rfl,hm,_⟩:=XmH (h.mok.sh j x b).1 (by rw [e]; exact ho);obtain ⟨d,f⟩:=(h.mok.sh j x b).2 _ hm;have g:=(h.ok.each j x b).1;have l:=h.ok.n;exact ⟨m,rfl,d,f.trans g,by omega,by omega⟩
structure AtF (c:Conf) (M:RmM) (q:PlcM) (i:Nat) (pn:Nat) (r:Int):Prop where
 at':Xv5 c q.plc i=pn*c.size+r
 r:0≤r∧r<c.size
 own:M.pl.own.getD pn 0=if q.cls = -1 then (M.shs.length:Int) else q.cls
theorem Xc5 (h:s.OkP c pd) {q:PlcM} (hc:q.cls ≠ -1) (hp:q.pages = []) (ho:XpS s.rm q.cls q.page q.idx ≠ -1) {i:Nat} (hi:(i:Int)<XvB c q.plc):∃ pn:Nat,q.page=pn∧AtF c s.rm q i pn (q.idx*Xfb c q.cls+i)∧(i:Int)<Xfb c q.cls∧0≤q.idx:=by
 obtain ⟨a,f⟩:=XsD h ho;have eq:q=⟨q.cls,q.page,q.idx,[]⟩:=by cases q; simp only at hp; rw [hp]
 rw [eq] at hi;rw [f] at hi;obtain ⟨pn,e,_,e2,_,_⟩:=XdQ h.rm ho;obtain ⟨k,pg,ix,g,j,l,o,p,r,t,u,v,w,x⟩:=XiN h.may a hc;have b:q.cls=k:=g;have n:q.page=pg:=j;have d:q.idx=ix:=l;refine ⟨pn,e,⟨?_,?_,?_⟩,hi,by omega⟩
 ·rw [eq] at a;have m:Xv5 c q.plc i=XvA c q.plc+i:=by unfold Xv5; rw [if_neg (show ¬ q.plc.cls = -1 from hc)]
  have e1:XvA c q.plc=q.page*c.size+q.idx*Xfb c q.cls:=by unfold XvA; rw [if_pos ⟨by rw [eq]; exact a,hc⟩]; rfl
  rw [m,e1,e,Int.add_assoc]
 ·rw [b] at hi ⊢; rw [d]; omega
 ·rw [if_neg hc]; exact e2
theorem Xc4 (h:s.OkP c pd) {n:Nat} {r:List Nat} (hm:(n,r) ∈ s.rm.lg) {i:Nat} (hi:(i:Int)<XvB c (PlcM.plc ⟨-1,(n:Nat),0,Xly r⟩)):∃ j:Nat,∃ hj:j<r.length,i / c.size.toNat=j∧AtF c s.rm ⟨-1,(n:Nat),0,Xly r⟩ i r[j] ((i % c.size.toNat:Nat):Int):=by
 obtain ⟨d,e,f⟩:=XkJ h.may;have g:1≤c.size.toNat:=by omega
 have ez:((c.size.toNat:Nat):Int)=c.size:=Int.toNat_of_nonneg (by omega);have k:XvB c (PlcM.plc ⟨-1,(n:Nat),0,Xly r⟩)≤r.length*c.size:=by
  unfold XvB;split
  ·show (if (-1:Int) = -1 then ((Xly r).length:Int)*c.size else _)≤_
   rw [if_pos rfl,XlA]; exact Int.le_refl _
  ·exact Int.mul_nonneg (by omega) (by omega)
 have a:i<r.length*c.size.toNat:=by
  have b:(i:Int)<r.length*c.size:=by omega
  rw [← ez] at b
  exact_mod_cast b
 have hj:i / c.size.toNat<r.length:=(Nat.div_lt_iff_lt_mul (by omega)).2 a;refine ⟨i / c.size.toNat,hj,rfl,?_,?_,?_⟩
 ·unfold Xv5;rw [if_pos (show (PlcM.plc ⟨-1,(n:Nat),0,Xly r⟩).cls = -1 from rfl)];show (Xly r).getD (i / c.size.toNat) 0*c.size+_=_
  unfold Xly;rw [List.getD_eq_getElem?_getD,List.getElem?_map,List.getElem?_eq_getElem hj];rfl
 ·have:=Nat.mod_lt i (show 0<c.size.toNat by omega);omega
 ·rw [if_pos rfl];exact (h.rm.ok.lg _ (XkP hm (List.mem_cons_of_mem _ (List.getElem_mem hj)))).2
theorem XjD:∀ {l:List (Nat × List Nat)} {n n':Nat} {r r':List Nat} {m:Nat},(Xjr l).Nodup→(n,r) ∈ l→(n',r') ∈ l→m ∈ n::r→m ∈ n'::r'→n=n'∧r=r'
 |[],_,_,_,_,_,_,h,_,_,_=>by cases h
 |e::l,n,n',r,r',m,d,i,f,b,c=>by
  have j:Xjr (e::l)=(e.1::e.2)++Xjr l:=by unfold Xjr; rw [List.flatMap_cons]
  rw [j,List.nodup_append] at d;obtain ⟨_,k,g⟩:=d;rcases List.mem_cons.1 i with e1 | h1'
  ·rcases List.mem_cons.1 f with e2 | h2'
   ·have:=e1.trans e2.symm;exact ⟨(Prod.mk.inj this).1,(Prod.mk.inj this).2⟩
   ·exact absurd rfl (g m (by rw [← e1]; exact b) m (XkP h2' c))
  ·rcases List.mem_cons.1 f with e2 | h2'
   ·exact absurd rfl (g m (by rw [← e2]; exact c) m (XkP h1' b))
   ·exact XjD k h1' h2' b c
theorem apart (h:s.OkP c pd) {q q':PlcM} (h1:Xa5 s.rm q) (h2:Xa5 s.rm q') (hne:q≠q') {i j:Nat} (hi:(i:Int)<XvB c q.plc) (hj:(j:Int)<XvB c q'.plc):Xv5 c q.plc i≠Xv5 c q'.plc j:=fun e=>by
 rcases h1 with ⟨k,z,A⟩ | ⟨n,r,k,rfl⟩
 ·obtain ⟨pn,F,⟨m,o,l⟩,G,I⟩:=Xc5 h k z A hi;rcases h2 with ⟨b,p,t⟩ | ⟨n',r',b,rfl⟩
  ·obtain ⟨pn',B,⟨f,g,d⟩,v,H⟩:=Xc5 h b p t hj;obtain ⟨w,C⟩:=XnH o g (by rw [← m,← f]; exact e);have a:pn=pn':=by omega
   subst a;rw [if_neg k] at l;rw [if_neg b,l] at d;rw [← d] at C v;obtain ⟨y,D⟩:=XnH ⟨by omega,G⟩ ⟨by omega,v⟩ C;refine hne ?_;obtain ⟨J,K,L,M⟩:=q;obtain ⟨N,O,P,Q⟩:=q';simp only at *
   rw [d,F,B,y,z,p]
  ·obtain ⟨j',u,_,f,g,d⟩:=Xc4 h b hj;obtain ⟨w,_⟩:=XnH o g (by rw [← m,← f]; exact e);have a:pn=r'[j']:=by omega
   rw [if_neg k] at l;rw [if_pos rfl,← a,l] at d;obtain ⟨_,_,_,_,_,x⟩:=XdQ h.rm A;omega
 ·obtain ⟨i',E,_,m,o,l⟩:=Xc4 h k hi;rcases h2 with ⟨b,p,t⟩ | ⟨n',r',b,rfl⟩
  ·obtain ⟨pn',B,⟨f,g,d⟩,v,H⟩:=Xc5 h b p t hj;obtain ⟨w,_⟩:=XnH o g (by rw [← m,← f]; exact e);have a:r[i']=pn':=by omega
   rw [if_neg b] at d;rw [if_pos rfl,a,d] at l;obtain ⟨_,_,_,_,_,x⟩:=XdQ h.rm t;omega
  ·obtain ⟨j',u,_,f,g,d⟩:=Xc4 h b hj;obtain ⟨w,_⟩:=XnH o g (by rw [← m,← f]; exact e);have a:r[i']=r'[j']:=by omega
   obtain ⟨y,D⟩:=XjD h.rm.ok.nd k b (List.mem_cons_of_mem _ (List.getElem_mem E)) (by rw [a]; exact List.mem_cons_of_mem _ (List.getElem_mem u));exact hne (by rw [y,D])
end
section
variable {c:Conf} {s:StM} {pd:Option (Nat × PlcM)}
theorem XuX (h:s.OkP c pd) {o:Nat} {t:ThM} (ht:s.th[o]? = some (some t)):Xa5 s.rm t.q:=by
 by_cases a:XnI c.classes t.size = -1
 ·obtain ⟨n,r,b,d,_⟩:=h.large o t ht a;exact .inr ⟨n,r,b,d⟩
 ·obtain ⟨b,d,e⟩:=h.small o t ht a;exact .inl ⟨by rw [b]; exact a,d,by rw [e]; omega⟩
theorem XuY (h:s.OkP c pd) {o o':Nat} {t t':ThM} (ht:s.th[o]? = some (some t)) (ht':s.th[o']? = some (some t')) (hne:o≠o'):t.q≠t'.q:=fun e=>by
 by_cases a:t.q.cls = -1
 ·exact hne (h.linj o o' t t' ht ht' a (by rw [← e]; exact a) (by rw [e]))
 ·obtain ⟨_,_,b⟩:=h.small o t ht (Xfd h ht a);obtain ⟨_,_,d⟩:=h.small o' t' ht' (Xfd h ht' (by rw [← e]; exact a));rw [e,d] at b;omega
structure MvF (c:Conf) (s:StM) (k:Nat) (m:MvM):Prop where
 fin:Xa5 s.rm ⟨(k:Nat),m.pf,m.fa,[]⟩
 tin:Xa5 s.rm ⟨(k:Nat),m.pt,m.ta,[]⟩
 ne:(⟨(k:Nat),m.pf,m.fa,[]⟩:PlcM)≠⟨(k:Nat),m.pt,m.ta,[]⟩
 f:∀ i:Nat,Xv5 c (PlcM.plc ⟨(k:Nat),m.pf,m.fa,[]⟩) i=(m.f+i:Nat)
 t:∀ i:Nat,Xv5 c (PlcM.plc ⟨(k:Nat),m.pt,m.ta,[]⟩) i=(m.t+i:Nat)
 hf:XvB c (PlcM.plc ⟨(k:Nat),m.pf,m.fa,[]⟩)=m.size
 ht:XvB c (PlcM.plc ⟨(k:Nat),m.pt,m.ta,[]⟩)=m.size
 th:∀ (o:Nat) t,s.th[o]? = some (some t)→(⟨(k:Nat),m.pt,m.ta,[]⟩:PlcM)≠t.q
 who:∃ (o:Nat),∃ t,m.who=o∧s.th[o]? = some (some t)∧t.q=⟨(k:Nat),m.pf,m.fa,[]⟩
theorem Xv7 {k n a:Int} (hk:k ≠ -1) (i:Nat):Xv5 c (PlcM.plc ⟨k,n,a,[]⟩) i=XdM c k n a+i:=by
 unfold Xv5;rw [if_neg (show ¬ (PlcM.plc ⟨k,n,a,[]⟩).cls = -1 from hk)];rfl
theorem Xlm (h:s.OkP c pd) {k:Nat} {m:MvM} (hm:s.mv[k]? = some (some m)):MvF c s k m:=by
 obtain ⟨⟨o,t,e1,e2,e3⟩,n,f,p,q,j,r⟩:=h.mv k m hm;have a:((k:Nat):Int) ≠ -1:=by omega
 have b:XpS s.rm (k:Nat) m.pf m.fa ≠ -1:=by
  have:=(h.small o t e2 (Xfd h e2 (by rw [e3]; exact a))).2.2;rw [e3] at this;simp only at this
  omega
 have d:XpS s.rm (k:Nat) m.pt m.ta ≠ -1:=by rw [n,e1]; omega
 refine ⟨.inl ⟨a,rfl,b⟩,.inl ⟨a,rfl,d⟩,fun e => ?_,fun i => ?_,fun i => ?_,?_,?_,fun o' t' g e => ?_,⟨o,t,e1,e2,e3⟩⟩
 ·have e':=PlcM.mk.inj e;exact f ⟨e'.2.1,e'.2.2.1⟩
 ·rw [Xv7 a,← p]; omega
 ·rw [Xv7 a,← q]; omega
 ·rw [(XsD h b).2,j]
 ·rw [(XsD h d).2,j]
 ·have l:=(h.small o' t' g (Xfd h g (by rw [← e]; exact a))).2.2;rw [← e] at l;simp only at l
  have eo:o'=o:=by omega
  subst eo;rw [e2] at g;cases g
  rw [e3] at e;have e':=PlcM.mk.inj e;exact f ⟨e'.2.1.symm,e'.2.2.1.symm⟩
def XaY (c:Conf) (q:PlcM) (bs bs':List Int):Prop := ∀ p:Nat,(∀ i:Nat,(i:Int)<XvB c q.plc→(Xv5 c q.plc i).toNat≠p)→bs'.getD p 0=bs.getD p 0
theorem XiM {q:Plc} {i:Nat} (hi:(i:Int)<XvB c q):XvE c q=true:=by
 unfold XvB at hi;split at hi
 ·assumption
 ·omega
theorem Xme (h:s.OkP c pd) {q q':PlcM} (hq:Xa5 s.rm q) (hq':Xa5 s.rm q') (hne:q≠q') {bs bs':List Int} (ho:XaY c q bs bs') {i:Nat} (hi:(i:Int)<XvB c q'.plc):bs'.getD (Xv5 c q'.plc i).toNat 0=bs.getD (Xv5 c q'.plc i).toNat 0:=ho _ fun j a e=>by
 have b:=Xv8 h.may (XiM a) a;have d:=Xv8 h.may (XiM hi) hi;exact apart h hq hq' hne a hi (by omega)
theorem Xfu {bs:List Int} {t f n j:Nat} (hf:f+n≤bs.length) (ht:t+n≤bs.length):(cpB bs t f n).getD j 0=if j<t then bs.getD j 0 else if j<t+n then bs.getD (f+(j - t)) 0 else bs.getD j 0:=by
 unfold cpB;rw [Xwo (by rw [Xue hf]; exact ht),Xue hf];by_cases a:j<t
 ·rw [if_pos a,if_pos a]
 ·rw [if_neg a,if_neg a];by_cases b:j<t+n
  ·rw [if_pos b,if_pos b,Xud (by omega)]
  ·rw [if_neg b,if_neg b]
theorem Xmd (h:s.OkP c pd) {k:Nat} {m:MvM} (hm:s.mv[k]? = some (some m)) {bs:List Int} (hl:bs.length=s.bs.length) {g n:Nat} (hg:g+n≤m.size):XaY c ⟨(k:Nat),m.pt,m.ta,[]⟩ bs (cpB bs (m.t+g) (m.f+g) n):=fun p a=>by
 obtain ⟨b,d,e,f⟩:=Xlp h hm;have M:=Xlm h hm;rw [Xfu (by omega) (by omega)];split
 ·rfl
 ·split
  ·exact absurd (by rw [M.t]; show m.t+(p - m.t)=p; omega) (a (p - m.t) (by rw [M.ht]; omega))
  ·rfl
structure BI (c:Conf) (s:StM) (own:List (List Int)):Prop where
 len:own.length=s.th.length
 no:∀ o:Nat,s.th[o]? = some none→own[o]? = some []
 yes:∀ (o:Nat) t,s.th[o]? = some (some t) → ∃ l,own[o]? = some l∧(l.length:Int)=t.size ∧ ∀ i:Nat,(i:Int)<XvB c t.q.plc→s.bs.getD (Xv5 c t.q.plc i).toNat 0=l.getD i 0
 mv:∀ (k:Nat) m,s.mv[k]? = some (some m) → ∀ i:Nat,i<m.gone→s.bs.getD (m.t+i) 0=s.bs.getD (m.f+i) 0
variable {own:List (List Int)}
theorem BI.of (h:BI c s own) {s':StM} (e1:s'.th=s.th) (e2:s'.bs=s.bs) (e3:s'.mv=s.mv):BI c s' own:=⟨by rw [e1]; exact h.len,by rw [e1]; exact h.no,by rw [e1,e2]; exact h.yes,by rw [e2,e3]; exact h.mv⟩
theorem BI.begin (h:BI c s own) (k:Nat):BI c (XsV c s k) own:=by
 unfold XsV;split
 ·refine ⟨h.len,h.no,h.yes,fun j m a i b => ?_⟩;rcases Xq8 a with ⟨_,e,_⟩ | ⟨_,a⟩
  ·cases e; exact absurd b (Nat.not_lt_zero _)
  ·exact h.mv j m a i b
 ·exact h
theorem Xll (h:s.OkP c pd) {k:Nat} {m:MvM} (hm:s.mv[k]? = some (some m)) {bs:List Int} (hl:bs.length=s.bs.length) {g n:Nat} (hg:g+n≤m.size) {i:Nat} (hi:i<m.size) :
 (cpB bs (m.t+g) (m.f+g) n).getD (m.f+i) 0=bs.getD (m.f+i) 0∧(cpB bs (m.t+g) (m.f+g) n).getD (m.t+i) 0=if g≤i∧i<g+n then bs.getD (m.f+i) 0 else bs.getD (m.t+i) 0:=by
 obtain ⟨b,d,e,f⟩:=Xlp h hm;rw [Xfu (by omega) (by omega),Xfu (by omega) (by omega)];refine ⟨?_,?_⟩
 ·split
  ·rfl
  ·split
   ·omega
   ·rfl
 ·by_cases j:i<g
  ·rw [if_pos (by omega),if_neg (by omega)]
  ·rw [if_neg (by omega)];by_cases l:i<g+n
   ·rw [if_pos (by omega),if_pos (by omega),show m.f+g+(m.t+i - (m.t+g))=m.f+i by omega]
   ·rw [if_neg (by omega),if_neg (by omega)]
theorem Xls (h:s.OkP c pd) {k j:Nat} {m m':MvM} (hm:s.mv[k]? = some (some m)) (hj:s.mv[j]? = some (some m')) (hne:j≠k) {bs bs':List Int} (ho:XaY c ⟨(k:Nat),m.pt,m.ta,[]⟩ bs bs') {i:Nat} (hi:i<m'.size):bs'.getD (m'.t+i) 0=bs.getD (m'.t+i) 0∧bs'.getD (m'.f+i) 0=bs.getD (m'.f+i) 0:=by
 have M:=Xlm h hm;have M':=Xlm h hj;have d:(⟨(k:Nat),m.pt,m.ta,[]⟩:PlcM)≠⟨(j:Nat),m'.pt,m'.ta,[]⟩:=fun e=>hne (by have:=(PlcM.mk.inj e).1; omega);have f:(⟨(k:Nat),m.pt,m.ta,[]⟩:PlcM)≠⟨(j:Nat),m'.pf,m'.fa,[]⟩:=fun e=>hne (by have:=(PlcM.mk.inj e).1; omega);have a:=Xme h M.tin M'.tin d ho (i:=i) (by rw [M'.ht]; omega);have b:=Xme h M.tin M'.fin f ho (i:=i) (by rw [M'.hf]; omega);rw [M'.t,Int.toNat_natCast] at a;rw [M'.f,Int.toNat_natCast] at b;exact ⟨a,b⟩
theorem Xts (bs:List Int) (f t g k:Nat) (hf:f+g+k≤bs.length) (ht:t+g+k≤bs.length):∀ p,(Xtr bs f t g k).getD p 0=(cpB bs (t+g) (f+g) k).getD p 0:=fun p=>by
 unfold Xtr;split
 ·rename_i a
  subst a;rw [Xfu (by omega) (by omega)];split
  ·rfl
  ·rw [if_neg (by omega)]
 ·rfl
theorem BI.go (h:BI c s own) (hs:s.Ok c) (k:Nat) (n:Int):BI c (Xs3 s k n) own:=by
 unfold Xs3;cases C:Xs8 s (k:Nat) with
 |none=>exact h
 |some m =>
  obtain ⟨j,ej,b,hm⟩:=Xlu C;obtain rfl:k=j:=by omega
  obtain ⟨J,K,L,N⟩:=Xlp hs hm;have M:=Xlm hs hm;have G:=Xhl m n;have H:=(hs.mv k m hm).2.2.2.2.2.2;have eb:∀ p,(Xtk s m n).bs.getD p 0=(cpB s.bs (m.t+m.gone) (m.f+m.gone) (goN m n)).getD p 0:=Xts _ _ _ _ _ (by omega) (by omega);have y:XaY c ⟨(k:Nat),m.pt,m.ta,[]⟩ s.bs (Xtk s m n).bs:=fun p D=>by rw [eb]; exact Xmd hs hm rfl (by omega) p D
  have yes:∀ (o:Nat) t,s.th[o]? = some (some t) → ∃ l,own[o]? = some l∧(l.length:Int)=t.size ∧ ∀ i:Nat,(i:Int)<XvB c t.q.plc→(Xtk s m n).bs.getD (Xv5 c t.q.plc i).toNat 0=l.getD i 0:=fun o t ht=>by
   obtain ⟨l,r,u,v⟩:=h.yes o t ht;exact ⟨l,r,u,fun i a=>(Xme hs M.tin (XuX hs ht) (M.th o t ht) y a).trans (v i a)⟩
  have gone:∀ i:Nat,i<m.gone+goN m n→(Xtk s m n).bs.getD (m.t+i) 0=(Xtk s m n).bs.getD (m.f+i) 0:=fun i a=>by
   rw [eb,eb];obtain ⟨w,x⟩:=Xll hs hm (bs:=s.bs) rfl (g:=m.gone) (n:=goN m n) (by omega) (i:=i) (by omega);rw [w,x];split
   ·rfl
   ·exact h.mv k m hm i (by omega)
  have others:∀ (j:Nat) m',j≠k→s.mv[j]? = some (some m') → ∀ i:Nat,i<m'.gone→(Xtk s m n).bs.getD (m'.t+i) 0=(Xtk s m n).bs.getD (m'.f+i) 0:=fun j m' f b i a=>by
   have E:=(hs.mv j m' b).2.2.2.2.2.2;obtain ⟨w,x⟩:=Xls hs hm b f y (i:=i) (by omega);rw [w,x];exact h.mv j m' b i a
  simp only
  split
  ·refine ⟨h.len,h.no,yes,fun j m' b i a => ?_⟩;rcases Xq8 b with ⟨rfl,e,_⟩ | ⟨f,b⟩
   ·cases e; exact gone i a
   ·exact others j m' f b i a
  ·rename_i I
   obtain ⟨o,t,e1,e2,e3⟩:=M.who;have z:m.who.toNat=o:=by omega
   have A:Xti s m.who=t.size:=by rw [e1]; exact Xtj e2
   rw [z,A];refine ⟨by show own.length=(s.th.set _ _).length; rw [List.length_set]; exact h.len,fun q d => ?_,fun q F d => ?_,fun j m' b i a => ?_⟩
   ·replace d:(s.th.set o (some ⟨t.size,⟨(k:Nat),m.pt,m.ta,[]⟩⟩))[q]? = some none:=d;by_cases e:o=q
    ·subst e;rw [List.getElem?_set_self (List.getElem?_eq_some_iff.1 e2).1] at d;cases d
    ·rw [List.getElem?_set_ne e] at d;exact h.no q d
   ·rcases Xvj d with ⟨rfl,rfl⟩ | ⟨_,d⟩
    ·obtain ⟨l,r,u,v⟩:=yes q t e2;refine ⟨l,r,u,fun i a => ?_⟩;replace a:(i:Int)<XvB c (PlcM.plc ⟨(k:Nat),m.pt,m.ta,[]⟩):=a;rw [M.ht] at a;have B:=v i (by rw [e3,M.hf]; exact a);rw [e3,M.f,Int.toNat_natCast] at B;show (Xtk s m n).bs.getD (Xv5 c (PlcM.plc ⟨(k:Nat),m.pt,m.ta,[]⟩) i).toNat 0=_
     rw [M.t,Int.toNat_natCast,gone i (by omega)];exact B
    ·exact yes q F d
   ·rcases Xq8 b with ⟨_,e,_⟩ | ⟨f,b⟩
    ·cases e
    ·exact others j m' f b i a
theorem BI.finish (h:BI c s own) (hs:s.Ok c) (κ:Int):BI c (Xs0 s κ) own:=by
 unfold Xs0;split
 ·exact h
 ·exact h.go hs _ _
theorem BI.clear (h:BI c s own) {o:Nat} {q:PlcM} (hs:s.OkP c (some (o,q))):BI c (XsZ c s q) own:=by
 have a:BI c {s with rm:=Xpw s.rm q} own:=h.of rfl rfl rfl;unfold XsZ;split
 ·exact a
 ·exact (a.begin _).go (StM.OkP.begin hs.dropped _) _ _
theorem BI.away (h:BI c s own) (o:Nat):BI c {s with th:=s.th.set o none} (own.set o []):=by
 refine ⟨by show (own.set o []).length=(s.th.set o none).length; rw [List.length_set,List.length_set]; exact h.len,fun b a => ?_,fun b f a => ?_,h.mv⟩
 ·replace a:(s.th.set o none)[b]? = some none:=a;by_cases e:o=b
  ·subst e;have:=(List.getElem?_eq_some_iff.1 a).1;rw [List.length_set,← h.len] at this;rw [List.getElem?_set_self this]
  ·rw [List.getElem?_set_ne e] at a ⊢;exact h.no b a
 ·rcases Xq8 a with ⟨_,e,_⟩ | ⟨d,a⟩
  ·cases e
  ·rw [List.getElem?_set_ne (Ne.symm d)];exact h.yes b f a
end
theorem XnA (o:Int) (r:List Int):Xnz (o::r)=(if o = -1 then 0 else 1)+Xnz r:=by
 unfold Xnz pgB;rw [List.map_cons,cnt];by_cases h:o = -1
 ·simp [h]
 ·simp [h]
def XbW (sz:Nat):Nat→List Int→List Nat
 |_,[] => []
 |p,o::r=>(if o = -1 then [] else (List.range sz).map (fun i=>p*sz+i))++XbW sz (p+1) r
theorem XbX (sz:Nat):∀ (p:Nat) (l:List Int),(XbW sz p l).length=Xnz l*sz
 |_,[]=>by show 0=Xnz []*sz; rw [show Xnz []=0 from rfl,Nat.zero_mul]
 |p,o::r=>by
  unfold XbW;rw [List.length_append,XbX sz (p+1) r,XnA,Nat.add_mul]
  congr 1
  split
  ·simp
  ·rw [List.length_map,List.length_range,Nat.one_mul]
theorem XbY {sz:Nat}:∀ {p:Nat} {l:List Int} {j i:Nat},j<l.length→l.getD j 0 ≠ -1→i<sz→(p+j)*sz+i ∈ XbW sz p l
 |_,[],j,i,b,_,_=>by cases b
 |p,o::r,0,i,_,a,c=>by
  replace a:o ≠ -1:=a;unfold XbW;rw [if_neg a];exact List.mem_append_left _ (List.mem_map.2 ⟨i,List.mem_range.2 c,rfl⟩)
 |p,o::r,j+1,i,b,a,c=>by
  unfold XbW;refine List.mem_append_right _ ?_;have:=XbY (p:=p+1) (l:=r) (j:=j) (i:=i) (by simpa using b) (by simpa using a) c;rw [show p+(j+1)=p+1+j by omega];exact this
section
variable {c:Conf} {s:StM} {pd:Option (Nat × PlcM)}
theorem Xd2 (h:s.OkP c pd) {o:Nat} {t:ThM} (ht:s.th[o]? = some (some t)) {i:Nat} (hi:(i:Int)<t.size):∃ (pn:Nat) (r:Int),Xv5 c t.q.plc i=pn*c.size+r∧(0≤r∧r<c.size)∧pn<s.rm.pl.own.length∧s.rm.pl.own.getD pn 0 ≠ -1:=by
 have g:=(Xn3 h ht).2.1;rcases XuX h ht with ⟨a,b,d⟩ | ⟨n,r,a,b⟩
 ·obtain ⟨pn,e,F,_,_⟩:=Xc5 h a b d (i:=i) (by omega);obtain ⟨pn',e',k,m,p,_⟩:=XdQ h.rm d;obtain rfl:pn=pn':=by omega
  exact ⟨pn,_,F.at',F.r,k,by omega⟩
 ·rw [b] at g;obtain ⟨j,l,_,F⟩:=Xc4 h a (i:=i) (by omega);have f:=h.rm.ok.lg _ (XkP a (List.mem_cons_of_mem _ (List.getElem_mem l)));refine ⟨r[j],_,by rw [b]; exact F.at',F.r,f.1,?_⟩;rw [f.2];omega
theorem Xd3 (h:s.OkP c pd) {o:Nat} {t:ThM} (ht:s.th[o]? = some (some t)) {i j:Nat} (hi:(i:Int)<t.size) (hj:(j:Int)<t.size) (e:Xv5 c t.q.plc i=Xv5 c t.q.plc j):i=j:=by
 have g:=(Xn3 h ht).2.1;obtain ⟨q,v,w⟩:=XkJ h.may;rcases XuX h ht with ⟨a,b,d⟩ | ⟨n,r,a,b⟩
 ·obtain ⟨pn,e1,F,_,_⟩:=Xc5 h a b d (i:=i) (by omega);obtain ⟨pn',e2,F',_,_⟩:=Xc5 h a b d (i:=j) (by omega);obtain ⟨_,u⟩:=XnH F.r F'.r (by rw [← F.at',← F'.at']; exact e);omega
 ·rw [b] at g e;obtain ⟨x,z,ex,F⟩:=Xc4 h a (i:=i) (by omega);obtain ⟨y,A,ey,F'⟩:=Xc4 h a (i:=j) (by omega);obtain ⟨B,C⟩:=XnH F.r F'.r (by rw [← F.at',← F'.at']; exact e);have f:=XjE h.rm.ok a;rw [List.nodup_cons] at f;have k:r[x]=r[y]:=by omega
  have l:=(List.getElem_inj f.2).1 k;have m:=Nat.div_add_mod i c.size.toNat;have p:=Nat.div_add_mod j c.size.toNat;rw [ex] at m;rw [ey,← l] at p;omega
def Xl7 (c:Conf):Option ThM→List Nat
 |some t=>(List.range t.size.toNat).map fun i=>(Xv5 c t.q.plc i).toNat
 |none => []
theorem Xl8 (c:Conf):∀ l:List (Option ThM),(∀ x ∈ l,0≤szT x)→((l.flatMap (Xl7 c)).length:Int)=(l.map szT).sum
 |[],_=>rfl
 |x::l,h=>by
  have ih:=Xl8 c l fun y a=>h y (List.mem_cons_of_mem _ a);have b:=h x List.mem_cons_self;rw [List.flatMap_cons,List.length_append,List.map_cons,List.sum_cons,← ih];have:((Xl7 c x).length:Int)=szT x:=by
   cases x with
   |none=>rfl
   |some t =>
    show (((List.range t.size.toNat).map _).length:Int)=t.size
    rw [List.length_map,List.length_range];exact Int.toNat_of_nonneg b
  omega
theorem Xd8 (h:s.OkP c pd):XsW s≤(XhV s.rm.pl:Nat)*c.size:=by
 obtain ⟨K,L,M⟩:=XkJ h.may;have ez:((c.size.toNat:Nat):Int)=c.size:=Int.toNat_of_nonneg (by omega);have z:∀ x ∈ s.th,0≤szT x:=fun x d=>by
  obtain ⟨o,f⟩:=List.mem_iff_getElem?.1 d;cases x with
  |none=>exact Int.le_refl _
  |some t=>have:=(h.size o t f).1; show 0≤t.size; omega
 have k:∀ {o:Nat} {t:ThM},s.th[o]? = some (some t) → ∀ i:Nat,(i:Int)<t.size→0≤Xv5 c t.q.plc i:=fun ht i l=>by
  obtain ⟨pn,r,e,A,_⟩:=Xd2 h ht l;rw [e];have:=Int.mul_nonneg (Int.natCast_nonneg pn) (show 0≤c.size by omega);omega
 have B:(s.th.flatMap (Xl7 c)).Nodup:=by
  unfold List.Nodup;rw [List.pairwise_flatMap];refine ⟨fun x d => ?_,?_⟩
  ·obtain ⟨o,f⟩:=List.mem_iff_getElem?.1 d;cases x with
   |none=>exact List.Pairwise.nil
   |some t =>
    show List.Pairwise _ ((List.range t.size.toNat).map _)
    rw [List.pairwise_map];refine List.Pairwise.imp_of_mem (R:=fun a b=>a≠b) (fun {a b} g m C e => ?_) List.nodup_range;have g:=List.mem_range.1 g;have m:=List.mem_range.1 m;have D:=k f a (by omega);have E:=k f b (by omega);exact C (Xd3 h f (by omega) (by omega) (by omega))
  ·rw [List.pairwise_iff_getElem];intro i j l F J x d y q e;have n:=List.getElem?_eq_getElem l;have p:=List.getElem?_eq_getElem F;cases e1:s.th[i] with
   |none=>rw [e1] at d; cases d
   |some t =>
    cases e2:s.th[j] with
    |none=>rw [e2] at q; cases q
    |some t' =>
     rw [e1] at d n;rw [e2] at q p;obtain ⟨a,g,rfl⟩:=List.mem_map.1 d;obtain ⟨b,m,rfl⟩:=List.mem_map.1 q;have g:=List.mem_range.1 g;have m:=List.mem_range.1 m;have D:=k n a (by omega);have E:=k p b (by omega);have N:=(Xn3 h n).2.1;have O:=(Xn3 h p).2.1;refine apart h (XuX h n) (XuX h p) (XuY h n p (by omega)) (i:=a) (j:=b) (by omega) (by omega) (by omega)
 have v:∀ a ∈ s.th.flatMap (Xl7 c),a ∈ XbW c.size.toNat 0 s.rm.pl.own:=fun a g=>by
  obtain ⟨x,d,u⟩:=List.mem_flatMap.1 g;obtain ⟨o,f⟩:=List.mem_iff_getElem?.1 d;cases x with
  |none=>cases u
  |some t =>
   obtain ⟨i,l,rfl⟩:=List.mem_map.1 u;have l:=List.mem_range.1 l;obtain ⟨pn,r,e,A,G,H⟩:=Xd2 h f (i:=i) (by omega);obtain ⟨r',rfl⟩:=Int.eq_ofNat_of_zero_le A.1;have I:Xv5 c t.q.plc i=((pn*c.size.toNat+r':Nat):Int):=by rw [e,Int.natCast_add,Int.natCast_mul,ez]
   have:(Xv5 c t.q.plc i).toNat=(0+pn)*c.size.toNat+r':=by rw [I,Int.toNat_natCast,Nat.zero_add]
   rw [this];exact XbY G H (by omega)
 have w:=XlZ _ _ B v;rw [XbX] at w;rw [XsX,← Xl8 c s.th z];unfold XhV;have:((Xnz s.rm.pl.own*c.size.toNat:Nat):Int)=(Xnz s.rm.pl.own:Nat)*c.size:=by rw [Int.natCast_mul,ez]
 omega
end
section
variable {base t size m:Nat} {w:World} {v v' u u':Value} {xs ys:List Value}
theorem apR (h0:∀ b,some b=v.ownBlock→some b≠u.ownBlock) (h:u'.ownBlock=u.ownBlock∨u'.ownBlock=some w.heap.size) (ho:Own base t size w v m xs):∀ b,some b=v.ownBlock→some b≠u'.ownBlock:=fun b a e=>by
 rcases h with h | h
 ·exact h0 b a (e.trans h)
 ·rw [h] at e;have e1:=Option.some.inj e;have:=(World.ownsRow.lt ho b a.symm).2;omega
theorem apL (h0:∀ b,some b=v.ownBlock→some b≠u.ownBlock) (h:v'.ownBlock=v.ownBlock∨v'.ownBlock=some w.heap.size) (ho:Own base t size w u m ys):∀ b,some b=v'.ownBlock→some b≠u.ownBlock:=fun b a e=>by
 rcases h with h | h
 ·exact h0 b (a.trans h) e
 ·rw [h] at a;have e1:=Option.some.inj a;have:=(World.ownsRow.lt ho b e.symm).2;omega
end
theorem Xmt {base t size m m':Nat} {w:World} {v:Value} {xs ys:List Value} (h:Own base t size w v m xs) (e1:m=m') (e2:xs=ys):Own base t size w v m' ys:=by rw [← e1,← e2]; exact h
structure XbF (base:Nat) (w:World) (i:Nat) (vg vl vf:Value):Prop where
 g:Own base 3 1 w vg i (List.replicate i (.int .i64 1))
 l:Own base 4 1 w vl i (List.replicate i (.bool false))
 f:Own base 3 1 w vf i ((List.range i).map fun n:Nat => .int .i64 (n:Int))
 gl:∀ b,some b=vg.ownBlock→some b≠vl.ownBlock
 gf:∀ b,some b=vg.ownBlock→some b≠vf.ownBlock
 lf:∀ b,some b=vl.ownBlock→some b≠vf.ownBlock
theorem Xo4 (N:Nat) (most:Int) (w:World) (hN:1≤N∧N≤4096) (hg:1≤most∧most≤1023):Xan Tryz.prog 103 #[.int .i64 N,.int .i64 most] w
 (fun v w' => ∃ vg vl vf,v = .tuple #[.agg #[vg,vl,vf,.int .i64 most],.int .i64 0]∧XbF w.heap.size w' N vg vl vf∧(∃ a n c,vg = .slice a n c)∧(∃ a n c,vl = .slice a n c)∧(∃ a n c,vf = .slice a n c)∧Chg XaX w w'):=by
 have b8:maxLen=9223372036854775807:=rfl;refine ζe Tryz.func103 Tryz.ntmps103 rfl (ζn rfl fun qb w1 e1 ag B b9=>ζb rfl (ζn rfl fun tb r e2 ah J bb=>ζs ah rfl fun bc a6 ai bd => ?_));have a7:=B.trans J;refine ζf rfl (ζf rfl (ζf rfl (ζf rfl ?_)));refine Xay.loop (α:=Nat × Value × Value × Value) (fun p => [(0,false,.int .i64 N),(4,false,.pointer (some ⟨qb,0,none⟩)),(6,false,.pointer (some ⟨tb,0,none⟩)),(7,false,.int .i64 p.1)])
  (fun p w'=>p.1≤N∧w'.heap[tb]? = some (.cells ([p.2.1,p.2.2.1,p.2.2.2,.int .i64 most]:List Value).toArray 53 (0,0))∧XbF r.heap.size w' p.1 p.2.1 p.2.2.1 p.2.2.2∧Chg (fun z=>z=tb) r w')
  (fun p=>N - p.1) (0,.slice none 0 0,.slice none 0 0,.slice none 0 0) ⟨rfl,rfl,rfl,rfl,trivial⟩ ⟨Nat.zero_le _,a6,⟨World.ownsRow_nil _ _ _ _,World.ownsRow_nil _ _ _ _,World.ownsRow_nil _ _ _ _,(fun b h=>by cases h),(fun b h=>by cases h),(fun b h=>by cases h)⟩,ai⟩ ?_
 rintro ⟨i,vg,vl,vf⟩ w3 ⟨hi,f,⟨og,ol,of',gl,gf,lf⟩,s⟩ ih;simp only at hi f og ol of' gl gf lf
 have b3:=s.size;refine ζa rfl (ζg rfl (fun hc => ?_) fun hc => ?_)
 ·have aj:i<N:=by have:=of_decide_eq_true hc; omega
  refine ζl f rfl (Xay.buildSlice hTT rfl fun b4 w4 e4 al j am=>ζa rfl ?_);have C:=og.chg j (fun _ _ h=>h);have K:=ol.chg j (fun _ _ h=>h);have L:=of'.chg j (fun _ _ h=>h);refine Xay.append (base:=r.heap.size) (xs:=List.replicate i (.int .i64 1)) (news := [.int .i64 1]) hTT rfl C (by omega) (by simp) (Xem al) (by simp [Value.oneCell']) (by simp only; omega) ?_;intro vg' w5 D k M;obtain ⟨ga,gn,gc,rfl⟩:=Own.isSlice D;refine ζa rfl ?_;have be:=k.size;have a9:=k.heap (j.heap' f) (fun e=>by have:=(World.ownsRow.lt C tb (Eq.symm e)).1; omega);have O:=K.chg k (fun b d e=>gl b e d);have P:=L.chg k (fun b d e=>gf b e d);have Q:=apL gl M.2 K;have R:=apL gf M.2 L;refine ζs a9 rfl fun w6 E u bf => ?_;have an:=D.chg u (fun b d e=>by have:=(World.ownsRow.lt D b d.symm).1; omega);have ao:=O.chg u (fun b d e=>by have:=(World.ownsRow.lt O b d.symm).1; omega);have ap:=P.chg u (fun b d e=>by have:=(World.ownsRow.lt P b d.symm).1; omega);refine ζl E rfl (Xay.buildSlice hTT rfl fun b7 w7 e7 aq l bg=>ζa rfl ?_);have S:=an.chg l (fun _ _ h=>h);have F:=ao.chg l (fun _ _ h=>h);have T:=ap.chg l (fun _ _ h=>h);refine Xay.append (base:=r.heap.size) (xs:=List.replicate i (.bool false)) (news := [.bool false]) hTT rfl F (by omega) (by simp) (Xem aq) (by simp [Value.oneCell']) (by simp only; omega) ?_;intro vl' w8 G o U;obtain ⟨la,ln,lc,rfl⟩:=Own.isSlice G;refine ζa rfl ?_;have bh:=o.size;have aa:=o.heap (l.heap' E) (fun e=>by have:=(World.ownsRow.lt F tb (Eq.symm e)).1; omega);have V:=S.chg o (fun b d e=>Q b d e);have W:=T.chg o (fun b d e=>lf b e d);have ar:=apR Q U.2 S;have a0:=apL lf U.2 T;refine ζs aa rfl fun w9 H x bi => ?_;have au:=V.chg x (fun b d e=>by have:=(World.ownsRow.lt V b d.symm).1; omega);have av:=G.chg x (fun b d e=>by have:=(World.ownsRow.lt G b d.symm).1; omega);have aw:=W.chg x (fun b d e=>by have:=(World.ownsRow.lt W b d.symm).1; omega);refine ζl H rfl (Xay.buildSlice hTT rfl fun ba wa ea ax q bj=>ζa rfl ?_);have oga:=au.chg q (fun _ _ h=>h);have ola:=av.chg q (fun _ _ h=>h);have ofa:=aw.chg q (fun _ _ h=>h);refine Xay.append (base:=r.heap.size) (xs:=(List.range i).map fun n:Nat => .int .i64 (n:Int)) (news := [.int .i64 (i:Int)]) hTT rfl ofa (by omega) (by simp) (Xem ax) (by simp [Value.oneCell']) (by simp only; omega) ?_;intro vf' wb ofb y a4;obtain ⟨fa,fn,fc,rfl⟩:=Own.isSlice ofb;refine ζa rfl ?_;have ab:=y.heap (q.heap' H) (fun e=>by have:=(World.ownsRow.lt ofa tb (Eq.symm e)).1; omega);have ogb:=oga.chg y (fun b d e=>R b d e);have olb:=ola.chg y (fun b d e=>a0 b d e);have gfb:=apR R a4.2 oga;have lfb:=apR a0 a4.2 ola;refine ζs ab rfl fun wc ac A bk => ?_;have ogc:=ogb.chg A (fun b d e=>by have:=(World.ownsRow.lt ogb b d.symm).1; omega);have olc:=olb.chg A (fun b d e=>by have:=(World.ownsRow.lt olb b d.symm).1; omega);have ofc:=ofb.chg A (fun b d e=>by have:=(World.ownsRow.lt ofb b d.symm).1; omega);have hS:Chg (fun z=>z=tb) r wc:=by
   have a1:=(s.trans (j.mono fun _ _ h=>h.elim)).since k (fun z I e=>by have:=(World.ownsRow.lt C z (Eq.symm e)).1; omega);have a2:=((a1.trans u).trans (l.mono fun _ _ h=>h.elim)).since o (fun z I e=>by have:=(World.ownsRow.lt F z (Eq.symm e)).1; omega);exact (((a2.trans x).trans (q.mono fun _ _ h=>h.elim)).since y (fun z I e=>by have:=(World.ownsRow.lt ofa z (Eq.symm e)).1; omega)).trans A
  exact ζj rfl (ih (i+1,.slice ga gn gc,.slice la ln lc,.slice fa fn fc) _ _ ⟨aj,ac,⟨Xmt ogc rfl (List.replicate_succ' ..).symm,Xmt olc rfl (List.replicate_succ' ..).symm,Xmt ofc rfl (by rw [List.range_succ,List.map_append]; rfl),ar,gfb,lfb⟩,hS⟩ (by simp only; omega) ⟨rfl,rfl,rfl,rfl,trivial⟩)
 ·have az:i=N:=by have:=of_decide_eq_false hc; omega
  subst az;obtain ⟨ga,gn,gc,rfl⟩:=Own.isSlice og;obtain ⟨la,ln,lc,rfl⟩:=Own.isSlice ol;obtain ⟨fa,fn,fc,rfl⟩:=Own.isSlice of';refine ζl f rfl ?_;have ae:=s.heap (J.heap' ag) (show ¬ qb=tb by omega);refine ζs ae rfl fun w4 af a5 am => ?_;have fr:∀ {t size m:Nat} {v:Value} {xs:List Value},Own r.heap.size t size w3 v m xs→Own w.heap.size t size w4 v m xs:=fun {t size m v xs} h=>by
   have h4:=h.chg a5 (fun b d e=>by have:=(World.ownsRow.lt h b d.symm).1; omega);exact ⟨h4.1,h4.2.imp id fun ⟨g,cap,cur,a1,a2,a3⟩=>⟨g,cap,cur,a1,by omega,a3⟩⟩
  exact ζR Tryz.func103 af rfl ⟨_,_,_,rfl,⟨fr og,fr ol,fr of',gl,gf,lf⟩,⟨_,_,_,rfl⟩,⟨_,_,_,rfl⟩,⟨_,_,_,rfl⟩,(a7.since s (fun z I e=>by have:=B.size; omega)).since a5 (fun z I e=>by have:=B.size; omega)⟩
theorem XwS:∀ n,XwJ [.int .i64 0,.int .i64 0,.int .i64 0,.int .i64 0,.slice none 0 0] n=fl trL (List.replicate n tr0)
 |0=>rfl
 |n+1=>by rw [XwJ,XwS n,List.replicate_succ]; rfl
theorem XwT:∀ n,XwJ (XvV vr0) n=fl XvV (List.replicate n vr0)
 |0=>rfl
 |n+1=>by rw [XwJ,XwT n,List.replicate_succ]; rfl
theorem Xo6 (c:Conf) (p:Xal) (w:World) (hc:Xam w c p) (hm:XkH c=true) (hp:c.pages≤512):Xan Tryz.prog 102 #[.agg (Xfl c p).toArray] w
 (fun v w' => ∃ r,v = .tuple #[.agg (srL r).toArray,.int .i64 0]∧r.c=c∧r.cp=p∧Xby w' r (XlO c)∧(∀ S:Nat→Prop,(∀ z,S z→z<w.heap.size)→Xa0 S p.ka→Xbz S r)∧Chg XaX w w'):=by
 have af:=XkN hm;have ap:XcE c.pages c.size=true:=by
  obtain ⟨m1,m2,m3⟩:=XkJ hm;exact XcF.2 (by omega)
 have b9:0<c.pages*c.size:=Int.mul_pos (by have:=af.pages; omega) (by have:=af.size; omega);have em:XkK c=0:=by unfold XkK; rw [if_pos hm]
 have hf:=XkN hm;have ba:=hf.n;obtain ⟨N,W⟩:=Int.eq_ofNat_of_zero_le (show 0≤c.slots by
  have:=hm;unfold XkH at this;simp only [Bool.and_eq_true,decide_eq_true_eq,Xwe] at this;omega)
 have bb:c.slots≤4096:=by
  have:=hm;unfold XkH at this;simp only [Bool.and_eq_true,decide_eq_true_eq,Xwe] at this;omega
 refine ζe Tryz.func102 Tryz.ntmps102 rfl (ζn rfl fun b w1 e1 hb ag bc=>ζn rfl fun qb w2 e2 aq a0 bd => ?_);have ah:=a0.heap' hb;refine ζl ah rfl (ζv (Xo1 c p w2 (hc.chg (ag.trans a0))) rfl fun w3 F => ?_);rw [em];have a1:=F.heap' ah;have K:=F.heap' aq;have L:=(ag.trans a0).trans F;refine ζf rfl (ζl a1 rfl (ζl a1 rfl (ζc rfl (Xo2 c.pages c.size w3 ap) ?_)));rintro _ w4 ⟨ab,rfl,be,M,ai⟩;refine ζa rfl ?_;obtain ⟨G,i⟩:∃ G:RA,G=⟨some ⟨ab,0,none⟩,(c.pages*c.size).toNat,XwU (c.pages*c.size).toNat,0⟩:=⟨_,rfl⟩;rw [← i] at M ⊢;refine ζn rfl fun t4 w5 e5 ar a2 bf=>ζs ar rfl fun w6 ak a3 bg => ?_;have al:=ak;have l:=(ai.trans a2).since a3 (fun z a e=>by have:=ai.size; omega);have aj:=l.heap' a1;have D:=l.heap' K;refine ζl aj rfl (ζc rfl (Xo5 c p w6 (hc.chg (L.trans l)) hm hp) ?_);rintro _ w7 ⟨r2,rfl,k1,k2,k3,k4,U⟩;refine ζa rfl (ζn rfl fun t6 w8 e8 ax a4 bh=>ζs ax rfl fun w9 am a5 bi => ?_);have j:=(U.trans a4).since a5 (fun z a e=>by have:=U.size; omega);have V:=j.heap' aj;have an:=j.heap' al;refine ζd 12 XaX (by kernel_rfl) rfl fun m=>δl m V rfl (δl m V rfl (δl m an rfl (δl m am rfl (δl m V rfl (δl m V rfl ?_)))));rw [W];refine Xaq.turn2 m rfl ?_ ?_
 ·intro wa ka;refine XbO.make hTT m rfl rfl rfl (Nat.le_refl _) (show 56*N≤140737488355328 by omega) (by omega) (fun _=>rfl) fun tb wb etb a6 a7 ay=>Xaq.turn1 m rfl fun wc u=>XbO.make hTT m rfl rfl rfl (Nat.le_refl _) (show 112*c.classes.length≤140737488355328 by omega) (by omega) (fun _=>rfl) fun vb wd evb a8 H az=>δn m rfl fun we A => ?_;have za:=ka.size;have zc:=u.size;have I:we.heap[tb]? = some (.cells (fl trL (List.replicate N tr0)).toArray 100 (0,0)):=by rw [← XwS]; exact ((u.trans H).trans A).heap' a6
  have J:we.heap[vb]? = some (.cells (fl XvV (List.replicate c.classes.length vr0)).toArray 174 (0,0)):=by rw [← XwT]; exact A.heap' a8
  have f:=(((ka.trans a7).trans u).trans H).trans A;have b0:=l.size;have b1:=F.size;obtain ⟨q,k⟩:∃ q:SR,q=⟨c,p,c.keep,p.ka,p.kc,G,r2,List.replicate N tr0,some ⟨tb,0,none⟩,N,List.replicate c.classes.length vr0,some ⟨vb,0,none⟩,c.classes.length⟩:=⟨_,rfl⟩;have O:=((L.trans l).trans j).trans f;have P:=(j.trans f).heap' D;refine ζb rfl (ζs P rfl fun wz n d b2 => ?_);replace n:XsS wz qb q:=by
   have e1:(List.replicate N tr0).length=N:=List.length_replicate;have e2:(List.replicate c.classes.length vr0).length=c.classes.length:=List.length_replicate;rw [k];unfold XsS srL;simp only [e1,e2];rw [← W] at n;exact n
  have g:=O.since d (fun z a e=>by omega);have b3:=U.size;have a9:Xbm wz r2 (XlH c 0):=by
   have B:=(k3.grow ((a4.since a5 (fun z a e=>by omega)).trans f));exact B.far (k4 _ (fun z e=>by have:=Xkj D; omega)) d
  have h:=((M.grow (a2.since a3 (fun z a e=>by omega))).grow j).grow f;have aa:Xa0 (fun z=>z=qb) G.a:=by rw [i]; intro b' off s e a; cases e; have:=Xkj K; omega
  have C:Xbc wz G:=⟨h.rd.far aa d,h.len,h.lc,h.rng⟩;have b4:=hf.keep;have Q:ALt w p.ka:=fun b' off s e=>hc.keep.block (by omega) e;have ac:Xby wz q (XlO c):=by
   rw [k];exact {
    conf:=hc.chg g
    kr:=(hc.chg g).keep
    ke:=rfl
    ra:=C
    rb:=by rw [i]; show XwU _=XwU _; rw [Int.mul_comm]
    rs:=by rw [i]; rfl
    la:=fun b' off s e=>C.rd.block (by rw [i]; show 0<(XwU _).length; rw [XwW]; omega) e
    lk:=Q.grow g.size
    rr:=a9
    rc:=k1
    rp:=k2
    tr:=Xqy (rest := []) (by rw [List.append_nil]; exact d.heap I (by omega)) Xvi
    tl:=by intro b' off s e; cases e; exact Xkj (d.heap I (by omega))
    tc:=by rw [List.length_replicate]; exact Nat.le_refl _
    tn:=by show (List.replicate N tr0).length=(List.replicate c.slots.toNat none).length; rw [List.length_replicate,List.length_replicate,W]; rfl
    te:=fun o x t B R=>by
     have e1:=(List.getElem?_replicate ..).symm.trans B;have e2:=(List.getElem?_replicate ..).symm.trans R;split at e1 <;> split at e2 <;> first | (cases e1; done) | (cases e2; done) | (cases e1; cases e2; exact ⟨rfl,fun y e=>by cases e⟩)
    tq:=fun t ht=>by rw [List.eq_of_mem_replicate ht]; exact ⟨Xod _ _ _,fun _ _ _ e=>by cases e⟩
    mr:=Xqy (rest := []) (by rw [List.append_nil]; exact d.heap J (by omega)) XvW
    ml:=by intro b' off s e; cases e; exact Xkj (d.heap J (by omega))
    mc:=by rw [List.length_replicate]; exact Nat.le_refl _
    mn:=by show (List.replicate _ vr0).length=(List.replicate _ none).length; rw [List.length_replicate,List.length_replicate]
    me:=fun o x t B R=>by
     have e1:=(List.getElem?_replicate ..).symm.trans B;have e2:=(List.getElem?_replicate ..).symm.trans R;split at e1 <;> split at e2 <;> first | (cases e1; done) | (cases e2; done) | (cases e1; cases e2; exact ⟨rfl,fun y e=>by cases e⟩)}
  have T:∀ S:Nat→Prop,(∀ z,S z→z<w.heap.size)→Xa0 S p.ka→Xbz S q:=fun S E hk=>by
   rw [k];refine ⟨hk,?_,k4 S (fun z a=>by have:=E z a; omega),?_,fun t ht => ?_,?_⟩
   ·rw [i]; intro b' off s e a; cases e; have:=E _ a; omega
   ·intro b' off s e a; cases e; have:=E _ a; omega
   ·rw [List.eq_of_mem_replicate ht]; intro b' off s e; cases e
   ·intro b' off s e a; cases e; have:=E _ a; omega
  exact ζR Tryz.func102 n rfl ⟨q,rfl,by rw [k],by rw [k],ac,T,g⟩
 ·intro wa ka;refine XbO.make hTT m rfl rfl rfl (Nat.le_refl _) (show 112*c.classes.length≤140737488355328 by omega) (by omega) (fun _=>rfl) fun vb wb evb a8 a7 ay=>Xaq.turn1 m rfl fun wc u=>XbO.make hTT m rfl rfl rfl (Nat.le_refl _) (show 56*N≤140737488355328 by omega) (by omega) (fun _=>rfl) fun tb wd etb a6 H az=>δn m rfl fun we A => ?_;have za:=ka.size;have zc:=u.size;have I:we.heap[tb]? = some (.cells (fl trL (List.replicate N tr0)).toArray 100 (0,0)):=by rw [← XwS]; exact A.heap' a6
  have J:we.heap[vb]? = some (.cells (fl XvV (List.replicate c.classes.length vr0)).toArray 174 (0,0)):=by rw [← XwT]; exact ((u.trans H).trans A).heap' a8
  have f:=(((ka.trans a7).trans u).trans H).trans A;have b0:=l.size;have b1:=F.size;obtain ⟨q,k⟩:∃ q:SR,q=⟨c,p,c.keep,p.ka,p.kc,G,r2,List.replicate N tr0,some ⟨tb,0,none⟩,N,List.replicate c.classes.length vr0,some ⟨vb,0,none⟩,c.classes.length⟩:=⟨_,rfl⟩;have O:=((L.trans l).trans j).trans f;have P:=(j.trans f).heap' D;refine ζb rfl (ζs P rfl fun wz n d b2 => ?_);replace n:XsS wz qb q:=by
   have e1:(List.replicate N tr0).length=N:=List.length_replicate;have e2:(List.replicate c.classes.length vr0).length=c.classes.length:=List.length_replicate;rw [k];unfold XsS srL;simp only [e1,e2];rw [← W] at n;exact n
  have g:=O.since d (fun z a e=>by omega);have b3:=U.size;have a9:Xbm wz r2 (XlH c 0):=by
   have B:=(k3.grow ((a4.since a5 (fun z a e=>by omega)).trans f));exact B.far (k4 _ (fun z e=>by have:=Xkj D; omega)) d
  have h:=((M.grow (a2.since a3 (fun z a e=>by omega))).grow j).grow f;have aa:Xa0 (fun z=>z=qb) G.a:=by rw [i]; intro b' off s e a; cases e; have:=Xkj K; omega
  have C:Xbc wz G:=⟨h.rd.far aa d,h.len,h.lc,h.rng⟩;have b4:=hf.keep;have Q:ALt w p.ka:=fun b' off s e=>hc.keep.block (by omega) e;have ac:Xby wz q (XlO c):=by
   rw [k];exact {
    conf:=hc.chg g
    kr:=(hc.chg g).keep
    ke:=rfl
    ra:=C
    rb:=by rw [i]; show XwU _=XwU _; rw [Int.mul_comm]
    rs:=by rw [i]; rfl
    la:=fun b' off s e=>C.rd.block (by rw [i]; show 0<(XwU _).length; rw [XwW]; omega) e
    lk:=Q.grow g.size
    rr:=a9
    rc:=k1
    rp:=k2
    tr:=Xqy (rest := []) (by rw [List.append_nil]; exact d.heap I (by omega)) Xvi
    tl:=by intro b' off s e; cases e; exact Xkj (d.heap I (by omega))
    tc:=by rw [List.length_replicate]; exact Nat.le_refl _
    tn:=by show (List.replicate N tr0).length=(List.replicate c.slots.toNat none).length; rw [List.length_replicate,List.length_replicate,W]; rfl
    te:=fun o x t B R=>by
     have e1:=(List.getElem?_replicate ..).symm.trans B;have e2:=(List.getElem?_replicate ..).symm.trans R;split at e1 <;> split at e2 <;> first | (cases e1; done) | (cases e2; done) | (cases e1; cases e2; exact ⟨rfl,fun y e=>by cases e⟩)
    tq:=fun t ht=>by rw [List.eq_of_mem_replicate ht]; exact ⟨Xod _ _ _,fun _ _ _ e=>by cases e⟩
    mr:=Xqy (rest := []) (by rw [List.append_nil]; exact d.heap J (by omega)) XvW
    ml:=by intro b' off s e; cases e; exact Xkj (d.heap J (by omega))
    mc:=by rw [List.length_replicate]; exact Nat.le_refl _
    mn:=by show (List.replicate _ vr0).length=(List.replicate _ none).length; rw [List.length_replicate,List.length_replicate]
    me:=fun o x t B R=>by
     have e1:=(List.getElem?_replicate ..).symm.trans B;have e2:=(List.getElem?_replicate ..).symm.trans R;split at e1 <;> split at e2 <;> first | (cases e1; done) | (cases e2; done) | (cases e1; cases e2; exact ⟨rfl,fun y e=>by cases e⟩)}
  have T:∀ S:Nat→Prop,(∀ z,S z→z<w.heap.size)→Xa0 S p.ka→Xbz S q:=fun S E hk=>by
   rw [k];refine ⟨hk,?_,k4 S (fun z a=>by have:=E z a; omega),?_,fun t ht => ?_,?_⟩
   ·rw [i]; intro b' off s e a; cases e; have:=E _ a; omega
   ·intro b' off s e a; cases e; have:=E _ a; omega
   ·rw [List.eq_of_mem_replicate ht]; intro b' off s e; cases e
   ·intro b' off s e a; cases e; have:=E _ a; omega
  exact ζR Tryz.func102 n rfl ⟨q,rfl,by rw [k],by rw [k],ac,T,g⟩
theorem Xo7 (a:Option Addr) (cap:Nat) (xs:List OpM) (w:World) (hr:Rows opL 5 w a xs) (hl:xs.length≤9223372036854775807) :
 Xan Tryz.prog 16 #[.slice a xs.length cap] w (fun v w' => ∃ b,v = .bool b∧(b=true→xs.length≤20 ∧ ∀ x ∈ xs,x.bs.length≤100∧1≤x.kind∧x.kind≤7)∧w=w'):=by
 refine ζe Tryz.func16 Tryz.ntmps16 rfl ?_;refine Xay.loop (α:=Nat) (fun k => [(0,false,.slice a xs.length cap),(3,false,.int .i64 k)])
  (fun k w'=>w'=w∧k≤xs.length∧k≤21 ∧ ∀ j (h:j<xs.length),j<k→xs[j].bs.length≤100∧1≤xs[j].kind∧xs[j].kind≤7) (fun k=>21 - k) 0 ⟨rfl,rfl,trivial⟩ ⟨rfl,Nat.zero_le _,by omega,fun _ _ h=>by omega⟩ ?_
 rintro k y ⟨q,z,r,d⟩ ih;subst q;refine ζa rfl ?_;have f:¬ (k<xs.length∧k<21)→xs.length≤20 → ∀ x ∈ xs,x.bs.length≤100∧1≤x.kind∧x.kind≤7:=fun g i x s=>by
  obtain ⟨j,l,rfl⟩:=List.getElem_of_mem s;exact d j l (by omega)
 refine ζg rfl (fun g => ?_) fun g => ?_
 ·refine ζg rfl (fun i => ?_) fun i => ?_
  ·have m:k<xs.length:=by have:=of_decide_eq_true g; omega
   have t:k<21:=by have:=of_decide_eq_true i; omega
   obtain ⟨b,off,rfl,c⟩:=hr.at m;refine ζi (k*5) rfl (ζk rfl (c 4 _ rfl) rfl (ζg rfl (fun n => ?_) fun n => ?_))
   ·exact ζr Tryz.func16 rfl ⟨false,rfl,(fun h=>Bool.noConfusion h),rfl⟩
   ·have A:=of_decide_eq_false n;refine ζi (k*5) rfl (ζk rfl (c 0 _ rfl) rfl (ζg rfl (fun o => ?_) fun o => ?_))
    ·exact ζr Tryz.func16 rfl ⟨false,rfl,(fun h=>Bool.noConfusion h),rfl⟩
    have B:=of_decide_eq_false o;refine ζi (k*5) rfl (ζk rfl (c 0 _ rfl) rfl (ζg rfl (fun p => ?_) fun p => ?_))
    ·exact ζr Tryz.func16 rfl ⟨false,rfl,(fun h=>Bool.noConfusion h),rfl⟩
    have C:=of_decide_eq_false p;refine ζj rfl ?_;exact ih (k+1) _ _ ⟨rfl,by omega,by omega,fun j l u=>by
     by_cases e:j=k
     ·subst e; omega
     ·exact d j l (by omega)⟩ (by omega) ⟨rfl,rfl,trivial⟩
  ·have t:=of_decide_eq_false i;exact ζr Tryz.func16 rfl ⟨_,rfl,fun h=>by have:=of_decide_eq_true h; exact ⟨by omega,f (by omega) (by omega)⟩,rfl⟩
 ·have m:=of_decide_eq_false g;exact ζr Tryz.func16 rfl ⟨_,rfl,fun h=>by have:=of_decide_eq_true h; exact ⟨by omega,f (by omega) (by omega)⟩,rfl⟩
theorem Xja {c:Conf} {n0:Nat} {w0 w:World} {F:Nat→Prop} {S:Sto} {H:Nat} {P:XbH} {x:HpM} (h:Hv c n0 w0 w F S H P x) (u:OpM) (hu:XaZ w u) (hk:1≤u.kind∧u.kind≤7) (hout:0<u.bs.length→Xa0 F u.ba):Xan Tryz.prog 19 #[hpV H,.agg (opL u).toArray] w
 (Xap c n0 w0 w F H P (Xh6 c x u) (Xh8 c x u) (Xh9 c x u) (Xia c x u) (Xh7 c x u)):=by
 refine ζe Tryz.func19 Tryz.ntmps19 rfl (ζn rfl fun ub w1 e1 V W a0 => ?_);refine ζn rfl fun rb M e2 i U a1 => ?_;have s:=W.trans U;have N:=h.grow s;have m:=U.heap' V;have G:=s.size;have a:=h.off (b:=rb) (by omega);refine ζl m rfl ?_;by_cases l:u.kind=1
 ·have eX:Xh6 c x u=Xh2 c x u.a:=by unfold Xh6; rw [if_pos l]
  have eE:Xh8 c x u=Xh3 c x u.a:=by unfold Xh8; rw [if_pos l]
  have eG:Xh9 c x u=Xh4 c x u.a:=by unfold Xh9; rw [if_pos l]
  have eK:Xia c x u=Xh5 c x u.a:=by unfold Xia; rw [if_pos l]
  have eB:Xh7 c x u = []:=by unfold Xh7; rw [if_neg (by omega)]
  refine ζy rfl (ζl m rfl ?_);rw [eE,eG,eK,eX,eB];refine ζc rfl (XhD N u.a) ?_;rintro _ Q ⟨bv,g,B,rfl,t,C,j,k⟩;refine ζa rfl ?_;obtain ⟨ra,rc,rfl,v,n⟩:=t;have d:=k.heap i a;have o:∀ q,g q→F q∨w.heap.size≤q:=fun q y=>(j q y).imp id (by omega);have p:¬ g rb:=fun e=>by
   rcases j rb e with e | e
   ·exact a (.inl e)
   ·have:=Xkj i; omega
  refine ζs d rfl fun R r f I => ?_;have J:=h.hm.since0;have K:=Xkj h.hm.obj;have D:=C.boxed p (by omega) ⟨fun e=>a (.inr e),by omega⟩ (XiO d) (by decide) f;have z:=((show Xaj M.heap.size g _ (.slice ra _ rc) _ from ⟨ra,rc,rfl,v,n⟩).chg f (fun q e => .inl (.inl (by have:=Xkj i; omega)))).low G (fun _ _ _ h=>h);exact ζR Tryz.func19 r rfl ⟨_,g,B,rfl,z,D,o,((s.mono fun _ _ h=>h.elim).trans k).since f (fun q y e=>by omega)⟩
 by_cases A:u.kind=2
 ·have eX:Xh6 c x u=Xic c x u.h:=by unfold Xh6; rw [if_neg l,if_pos A]
  have eE:Xh8 c x u=tbE x.tb u.h:=by unfold Xh8; rw [if_neg l,if_pos A]
  have eG:Xh9 c x u=0:=by unfold Xh9; rw [if_neg l]
  have eK:Xia c x u=(if tbE x.tb u.h=0 then 2 else 0)+(1+((Xic c x u.h).st.rm.tot - x.st.rm.tot)):=by unfold Xia; rw [if_neg l,if_pos A,eX]
  have eB:Xh7 c x u = []:=by unfold Xh7; rw [if_neg (by omega)]
  refine ζf rfl (ζy rfl (ζl m rfl ?_));rw [eE,eG,eK,eX,eB];refine ζc rfl (XhF N u.h hu.h) ?_;rintro _ Q ⟨bv,g,B,rfl,t,C,j,k⟩;refine ζa rfl ?_;obtain ⟨ra,rc,rfl,v,n⟩:=t;have d:=k.heap i a;have o:∀ q,g q→F q∨w.heap.size≤q:=fun q y=>(j q y).imp id (by omega);have p:¬ g rb:=fun e=>by
   rcases j rb e with e | e
   ·exact a (.inl e)
   ·have:=Xkj i; omega
  refine ζs d rfl fun R r f I => ?_;have J:=h.hm.since0;have K:=Xkj h.hm.obj;have D:=C.boxed p (by omega) ⟨fun e=>a (.inr e),by omega⟩ (XiO d) (by decide) f;have z:=((show Xaj M.heap.size g _ (.slice ra _ rc) _ from ⟨ra,rc,rfl,v,n⟩).chg f (fun q e => .inl (.inl (by have:=Xkj i; omega)))).low G (fun _ _ _ h=>h);exact ζR Tryz.func19 r rfl ⟨_,g,B,rfl,z,D,o,((s.mono fun _ _ h=>h.elim).trans k).since f (fun q y e=>by omega)⟩
 by_cases E:u.kind=3
 ·have eX:Xh6 c x u=Xie c x u.h u.a u.b:=by unfold Xh6; rw [if_neg l,if_neg A,if_pos E]
  have eE:Xh8 c x u=Xig x u.h u.a u.b:=by unfold Xh8; rw [if_neg l,if_neg A,if_pos E]
  have eG:Xh9 c x u=0:=by unfold Xh9; rw [if_neg l]
  have eK:Xia c x u=0+(1+((Xie c x u.h u.a u.b).st.rm.tot - x.st.rm.tot)):=by unfold Xia; rw [if_neg l,if_neg A,if_pos (.inl E),eX]
  have eB:Xh7 c x u=Xif c x u.h u.a u.b:=by unfold Xh7; rw [if_pos E]
  refine ζf rfl (ζf rfl (ζy rfl (ζl m rfl (ζl m rfl (ζl m rfl ?_)))));rw [eE,eG,eK,eX,eB];refine ζc rfl (XhK N u.h u.a u.b hu.h hu.a hu.b) ?_;rintro _ Q ⟨bv,g,B,rfl,t,C,j,k⟩;refine ζa rfl ?_;obtain ⟨ra,rc,rfl,v,n⟩:=t;have d:=k.heap i a;have o:∀ q,g q→F q∨w.heap.size≤q:=fun q y=>(j q y).imp id (by omega);have p:¬ g rb:=fun e=>by
   rcases j rb e with e | e
   ·exact a (.inl e)
   ·have:=Xkj i; omega
  refine ζs d rfl fun R r f I => ?_;have J:=h.hm.since0;have K:=Xkj h.hm.obj;have D:=C.boxed p (by omega) ⟨fun e=>a (.inr e),by omega⟩ (XiO d) (by decide) f;have z:=((show Xaj M.heap.size g _ (.slice ra _ rc) _ from ⟨ra,rc,rfl,v,n⟩).chg f (fun q e => .inl (.inl (by have:=Xkj i; omega)))).low G (fun _ _ _ h=>h);exact ζR Tryz.func19 r rfl ⟨_,g,B,rfl,z,D,o,((s.mono fun _ _ h=>h.elim).trans k).since f (fun q y e=>by omega)⟩
 by_cases L:u.kind=4
 ·have eX:Xh6 c x u=Xil c x u.h u.a u.bs:=by unfold Xh6; rw [if_neg l,if_neg A,if_neg E,if_pos L]
  have eE:Xh8 c x u=Xig x u.h u.a u.bs.length:=by unfold Xh8; rw [if_neg l,if_neg A,if_neg E,if_pos L]
  have eG:Xh9 c x u=0:=by unfold Xh9; rw [if_neg l]
  have eK:Xia c x u=0+(1+((Xil c x u.h u.a u.bs).st.rm.tot - x.st.rm.tot)):=by unfold Xia; rw [if_neg l,if_neg A,if_pos (.inr (.inl L)),eX]
  have eB:Xh7 c x u = []:=by unfold Xh7; rw [if_neg (by omega)]
  refine ζf rfl (ζf rfl (ζf rfl (ζy rfl (ζl m rfl (ζl m rfl (ζl m rfl ?_))))));rw [eE,eG,eK,eX,eB];refine ζc rfl (XhQ N u.h u.a u.ba u.bc u.bs hu.h hu.a (hu.rd.chg s) hu.lc (by have:=hu.lc; have:=hu.len; omega) hu.rng hout) ?_;rintro _ Q ⟨bv,g,B,rfl,t,C,j,k⟩;refine ζa rfl ?_;obtain ⟨ra,rc,rfl,v,n⟩:=t;have d:=k.heap i a;have o:∀ q,g q→F q∨w.heap.size≤q:=fun q y=>(j q y).imp id (by omega);have p:¬ g rb:=fun e=>by
   rcases j rb e with e | e
   ·exact a (.inl e)
   ·have:=Xkj i; omega
  refine ζs d rfl fun R r f I => ?_;have J:=h.hm.since0;have K:=Xkj h.hm.obj;have D:=C.boxed p (by omega) ⟨fun e=>a (.inr e),by omega⟩ (XiO d) (by decide) f;have z:=((show Xaj M.heap.size g _ (.slice ra _ rc) _ from ⟨ra,rc,rfl,v,n⟩).chg f (fun q e => .inl (.inl (by have:=Xkj i; omega)))).low G (fun _ _ _ h=>h);exact ζR Tryz.func19 r rfl ⟨_,g,B,rfl,z,D,o,((s.mono fun _ _ h=>h.elim).trans k).since f (fun q y e=>by omega)⟩
 by_cases O:u.kind=5
 ·have eX:Xh6 c x u=Xih c x u.h u.a:=by unfold Xh6; rw [if_neg l,if_neg A,if_neg E,if_neg L,if_pos O]
  have eE:Xh8 c x u=Xii c x u.h u.a:=by unfold Xh8; rw [if_neg l,if_neg A,if_neg E,if_neg L,if_pos O]
  have eG:Xh9 c x u=0:=by unfold Xh9; rw [if_neg l]
  have eK:Xia c x u=0+(1+((Xih c x u.h u.a).st.rm.tot - x.st.rm.tot)):=by unfold Xia; rw [if_neg l,if_neg A,if_pos (.inr (.inr O)),eX]
  have eB:Xh7 c x u = []:=by unfold Xh7; rw [if_neg (by omega)]
  refine ζf rfl (ζf rfl (ζf rfl (ζf rfl (ζy rfl (ζl m rfl (ζl m rfl ?_))))));rw [eE,eG,eK,eX,eB];refine ζc rfl (XhM N u.h u.a hu.h) ?_;rintro _ Q ⟨bv,g,B,rfl,t,C,j,k⟩;refine ζa rfl ?_;obtain ⟨ra,rc,rfl,v,n⟩:=t;have d:=k.heap i a;have o:∀ q,g q→F q∨w.heap.size≤q:=fun q y=>(j q y).imp id (by omega);have p:¬ g rb:=fun e=>by
   rcases j rb e with e | e
   ·exact a (.inl e)
   ·have:=Xkj i; omega
  refine ζs d rfl fun R r f I => ?_;have J:=h.hm.since0;have K:=Xkj h.hm.obj;have D:=C.boxed p (by omega) ⟨fun e=>a (.inr e),by omega⟩ (XiO d) (by decide) f;have z:=((show Xaj M.heap.size g _ (.slice ra _ rc) _ from ⟨ra,rc,rfl,v,n⟩).chg f (fun q e => .inl (.inl (by have:=Xkj i; omega)))).low G (fun _ _ _ h=>h);exact ζR Tryz.func19 r rfl ⟨_,g,B,rfl,z,D,o,((s.mono fun _ _ h=>h.elim).trans k).since f (fun q y e=>by omega)⟩
 by_cases T:u.kind=6
 ·have eX:Xh6 c x u=Xik c x:=by unfold Xh6; rw [if_neg l,if_neg A,if_neg E,if_neg L,if_neg O,if_pos T]
  have eE:Xh8 c x u=0:=by unfold Xh8; rw [if_neg l,if_neg A,if_neg E,if_neg L,if_neg O,if_pos T]
  have eG:Xh9 c x u=0:=by unfold Xh9; rw [if_neg l]
  have eK:Xia c x u=(Xik c x).st.rm.tot - x.st.rm.tot:=by unfold Xia; rw [if_neg l,if_neg A,if_neg (by omega),eX]
  have eB:Xh7 c x u = []:=by unfold Xh7; rw [if_neg (by omega)]
  refine ζf rfl (ζf rfl (ζf rfl (ζf rfl (ζf rfl (ζy rfl ?_)))));rw [eE,eG,eK,eX,eB];refine ζc rfl (XhP N) ?_;rintro _ Q ⟨bv,g,B,rfl,t,C,j,k⟩;refine ζa rfl ?_;obtain ⟨ra,rc,rfl,v,n⟩:=t;have d:=k.heap i a;have o:∀ q,g q→F q∨w.heap.size≤q:=fun q y=>(j q y).imp id (by omega);have p:¬ g rb:=fun e=>by
   rcases j rb e with e | e
   ·exact a (.inl e)
   ·have:=Xkj i; omega
  refine ζs d rfl fun R r f I => ?_;have J:=h.hm.since0;have K:=Xkj h.hm.obj;have D:=C.boxed p (by omega) ⟨fun e=>a (.inr e),by omega⟩ (XiO d) (by decide) f;have z:=((show Xaj M.heap.size g _ (.slice ra _ rc) _ from ⟨ra,rc,rfl,v,n⟩).chg f (fun q e => .inl (.inl (by have:=Xkj i; omega)))).low G (fun _ _ _ h=>h);exact ζR Tryz.func19 r rfl ⟨_,g,B,rfl,z,D,o,((s.mono fun _ _ h=>h.elim).trans k).since f (fun q y e=>by omega)⟩
 ·have eX:Xh6 c x u=Xij x u.a u.b:=by unfold Xh6; rw [if_neg l,if_neg A,if_neg E,if_neg L,if_neg O,if_neg T]
  have eE:Xh8 c x u=Xtg x.st u.a u.b:=by unfold Xh8; rw [if_neg l,if_neg A,if_neg E,if_neg L,if_neg O,if_neg T]
  have eG:Xh9 c x u=0:=by unfold Xh9; rw [if_neg l]
  have eK:Xia c x u=(Xij x u.a u.b).st.rm.tot - x.st.rm.tot:=by unfold Xia; rw [if_neg l,if_neg A,if_neg (by omega),eX]
  have eB:Xh7 c x u = []:=by unfold Xh7; rw [if_neg (by omega)]
  refine ζf rfl (ζf rfl (ζf rfl (ζf rfl (ζf rfl (ζf rfl (ζl m rfl (ζl m rfl ?_)))))));rw [eE,eG,eK,eX,eB];refine ζc rfl (XhO N u.a u.b) ?_;rintro _ Q ⟨bv,g,B,rfl,t,C,j,k⟩;refine ζa rfl ?_;obtain ⟨ra,rc,rfl,v,n⟩:=t;have d:=k.heap i a;have o:∀ q,g q→F q∨w.heap.size≤q:=fun q y=>(j q y).imp id (by omega);have p:¬ g rb:=fun e=>by
   rcases j rb e with e | e
   ·exact a (.inl e)
   ·have:=Xkj i; omega
  refine ζs d rfl fun R r f I => ?_;have J:=h.hm.since0;have K:=Xkj h.hm.obj;have D:=C.boxed p (by omega) ⟨fun e=>a (.inr e),by omega⟩ (XiO d) (by decide) f;have z:=((show Xaj M.heap.size g _ (.slice ra _ rc) _ from ⟨ra,rc,rfl,v,n⟩).chg f (fun q e => .inl (.inl (by have:=Xkj i; omega)))).low G (fun _ _ _ h=>h);exact ζR Tryz.func19 r rfl ⟨_,g,B,rfl,z,D,o,((s.mono fun _ _ h=>h.elim).trans k).since f (fun q y e=>by omega)⟩
def hrL (r:SR) (vg vl vf:Value) (most:Int):List Value:=srL r ++ [vg,vl,vf,.int .i64 most]
theorem Xo8 (c:Conf) (p:Xal) (w:World) (hc:Xam w c p) (hm:XkH c=true) (hp:c.pages≤512):Xan Tryz.prog 48 #[.agg (Xfl c p).toArray] w
 (fun v w' => ∃ r vg vl vf,v = .tuple #[.agg (hrL r vg vl vf c.gens).toArray,.int .i64 0]∧(∃ a n k,vg = .slice a n k)∧(∃ a n k,vl = .slice a n k)∧(∃ a n k,vf = .slice a n k)∧Chg XaX w w'):=by
 have D:(1≤c.slots∧c.slots≤4096)∧1≤c.gens∧c.gens≤1023:=by
  have hm:=hm;unfold XkH at hm;simp only [Bool.and_eq_true,decide_eq_true_eq,Xwe] at hm;omega
 obtain ⟨N,K⟩:=Int.eq_ofNat_of_zero_le (show 0≤c.slots by omega);refine ζe Tryz.func48 Tryz.ntmps48 rfl (ζn rfl fun cb w1 e1 E s O=>ζn rfl fun qb L e2 F t P => ?_);have g:=t.heap' E;have d:=s.trans t;refine ζl g rfl (ζc rfl (Xo6 c p L (hc.chg d) hm hp) ?_);rintro _ w3 ⟨r,rfl,Q,R,_,_,f⟩;refine ζa rfl ?_;have h:=f.heap' g;refine ζn rfl fun sb w4 e4 G u S=>ζs G rfl fun M i x T=>ζf rfl ?_;have j:=x.heap (u.heap' h) (show ¬ cb=sb by have:=Xkj h; omega);refine ζl j rfl (ζl j rfl ?_);rw [K];refine ζc rfl (Xo4 N c.gens M (by omega) D.2) ?_;rintro _ w6 ⟨vg,vl,vf,rfl,_,⟨ga,gn,gc,rfl⟩,⟨la,ln,lc,rfl⟩,⟨fa,fn,fc,rfl⟩,b⟩;refine ζa rfl (ζn rfl fun tb w7 e7 H l U=>ζs H rfl fun w8 y m V => ?_);have A:=m.heap (l.heap' (b.heap' i)) (show ¬ sb=tb by have:=Xkj (b.heap' i); omega);refine ζl A rfl (ζl y rfl (ζb rfl ?_));have o:=u.since x (fun z I e=>by omega);have q:=o.heap' (f.heap' F);have B:=m.heap (l.heap' (b.heap' q)) (show ¬ qb=tb by have:=Xkj (b.heap' q); omega);refine ζs B rfl fun w9 C J W => ?_;have a0:=f.size;have a1:=b.size;exact ζR Tryz.func48 C rfl ⟨r,_,_,_,rfl,⟨_,_,_,rfl⟩,⟨_,_,_,rfl⟩,⟨_,_,_,rfl⟩,(((((d.trans f).trans o).trans b).trans l).since m (fun z I e=>by have:=d.size; omega)).since J (fun z I e=>by have:=s.size; omega)⟩
theorem Xi9 (c:Conf) (p:Xal) (w:World) (hc:Xam w c p) (ht:XbD w) (hm:XkH c=true) (hp:c.pages≤512):Xan Tryz.prog 17 #[.agg (Xfl c p).toArray] w
 (fun v w' => ∃ n0 F S H P r vg vl vf,v = .tuple #[hpV H,.agg (hrL r vg vl vf c.gens).toArray]∧Hv c n0 w w' F S H P (XlD c)∧w.heap.size≤n0∧(∃ a n k,vg = .slice a n k)∧(∃ a n k,vl = .slice a n k)∧(∃ a n k,vf = .slice a n k)):=by
 refine ζe Tryz.func17 Tryz.ntmps17 rfl (ζn rfl fun cb w1 e1 E G a5=>ζn rfl fun qb W e2 I t a6 => ?_);have o:=t.heap' E;have f:=G.trans t;refine ζl o rfl (ζc rfl (XhJ c p W (hc.chg f) (ht.grow f) hm) ?_);rintro _ w3 ⟨n0,F,S,H,P,rfl,y,j,a7,a8,u⟩;refine ζa rfl (ζl (j.heap' o) rfl (ζc rfl (Xo8 c p w3 (hc.chg (f.trans j)) hm hp) ?_));rintro _ w4 ⟨r,vg,vl,vf,rfl,⟨ga,gn,gc,rfl⟩,⟨la,ln,lc,rfl⟩,⟨fa,fn,fc,rfl⟩,J⟩;refine ζa rfl (ζn rfl fun tb w5 e5 K L a9=>ζs K rfl fun w6 A M aa=>ζd 3 XaX (by kernel_rfl) rfl fun N=>δl N A rfl (δn N rfl fun w7 O => ?_));have q:=XkN hm;have Q:ALt w p.ka:=fun b off s e=>hc.keep.block (by have:=q.keep; have:=q.n; omega) e;have g:=(J.trans (L.since M (fun z h e=>by omega))).trans O;have i:=g.heap' (j.heap' I);have d:=y.grow g;refine ζs i rfl fun R B m ab => ?_;have T:¬ F qb:=fun h=>by have:=y.hm.lv.base qb h; omega
 have C:=((f.trans j).trans g).since m (fun z h e=>by omega);have tl:=World.block_lt_of_cell? w _ (ht 0 (by decide));have U:Lv c n0 w R F S (XlO c):=by
  obtain ⟨Fr,mo,k1⟩:=d.hm.lv.ok;obtain ⟨l,h⟩:∃ l,w7.heap[qb]? = some (.cells (Value.int .i64 0::l).toArray 55 (0,0)):=⟨_,i⟩;have k2:=k1.old h T (by decide) (fun x e=>by cases e) (by omega) (by rw [u]; intro off s' e; have:=hc.classes.block (by have:=q.n; omega) e; omega) (by rw [u]; intro off s' e; have:=Q _ _ _ e; omega) m;exact ⟨⟨Fr,mo,k2⟩,d.hm.lv.inv,d.hm.lv.sc,d.hm.lv.fx,fun z h=>by have:=d.hm.lv.base z h; omega,C⟩
 have D:=y.hm.low;have hH:¬ H=qb:=fun e=>by
  have k:=XiO d.hm.obj;rw [e,XiO i] at k;exact absurd (Option.some.inj (Option.some.inj k)) (by decide)
 have V:Hv c n0 w R F S H P (XlD c):=⟨⟨U,m.heap d.hm.obj hH,d.hm.tb.chg m (by omega) (by omega),⟨D.1,by omega,by omega⟩,d.hm.out⟩,d.lap,d.ok⟩;exact ζq rfl Tryz.func17 (Xbd.tmp rfl (Xbd.cell rfl rfl rfl B rfl .nil)) ⟨n0,F,S,H,P,r,_,_,_,rfl,V,by omega,⟨_,_,_,rfl⟩,⟨_,_,_,rfl⟩,⟨_,_,_,rfl⟩⟩
theorem XjG {c:Conf} {x:HpM} (h:x.Ok c) (hl:LgO x.st none) (u:OpM):LgO (Xh6 c x u).st none:=by
 unfold Xh6;split
 ·unfold Xh2; split
  ·exact hl.alloc _ _
  ·exact hl
 split
 ·unfold Xic; split
  ·exact hl.free h.st _
  ·exact hl
 split
 ·unfold Xie; split
  ·exact hl.read _ _ _
  ·exact hl
 split
 ·unfold Xil; split
  ·exact hl.write _ _ _
  ·exact hl
 split
 ·unfold Xih; split
  ·exact hl.resize h.st _ _
  ·exact hl
 split
 ·exact hl.tick h.st
 ·exact hl.set _ _
theorem XjH {c:Conf} {x:HpM} (h:x.Ok c) (h0:XuF x.tb=0):∀ (o:Nat) t,x.st.th[o]?≠some (some t):=fun o t e=>by
 have a:=(h.link o).2 ((Xw4 h.st o).1 ⟨t,e⟩);have d:true ∈ x.tb.live:=by
  rw [List.getD_eq_getElem?_getD] at a;cases b:x.tb.live[o]? with
  |none=>rw [b] at a; cases a
  |some y=>rw [b] at a; have a:y=true:=a; subst a; exact List.mem_of_getElem? b
 have:=List.count_pos_iff.2 d;unfold XuF at h0;omega
theorem XjJ {c:Conf} {x:HpM} (h:x.Ok c) (h0:0<XuF x.tb):1≤XsW x.st:=by
 unfold XuF at h0;obtain ⟨o,b⟩:=List.mem_iff_getElem?.1 (List.count_pos_iff.1 h0);obtain ⟨t,ht⟩:=(Xw4 h.st o).2 ((h.link o).1 (Xg5 b));have i:=(h.st.size o t ht).1;have d:=Xea (y:=none) ht;rw [← XsX] at d;have k:=Xuh (m:=c.most) (by have:=(XkN h.st.may).most; omega) ((x.st.th.set o none).map szT) fun y f=>by
  obtain ⟨z,g,rfl⟩:=List.mem_map.1 f;obtain ⟨j,a⟩:=List.mem_iff_getElem?.1 g;cases z with
  |none=>exact ⟨Int.le_refl _,by have:=(XkN h.st.may).most; show (0:Int)≤c.most; omega⟩
  |some t' =>
   by_cases e:o=j
   ·subst e;rw [List.getElem?_set_self (List.getElem?_eq_some_iff.1 ht).1] at a;cases a
   ·rw [List.getElem?_set_ne e] at a;have:=h.st.size j t' a;show 0≤t'.size∧t'.size≤c.most
    omega
 have e2:szT (some t)=t.size:=rfl;have e3:szT none=0:=rfl;omega
theorem law_HeapFills (c:Conf) (p:Xal) (sa:Option Addr) (sc:Nat) (xs:List OpM) (w:World) (ht:XbD w) (hc:Xam w c p) (hrs:Rows opL 5 w sa xs) (hl:xs.length≤9223372036854775807) (hxs:∀ x ∈ xs,XaZ w x):Xan Tryz.prog 5 #[.agg (Xfl c p).toArray,.slice sa xs.length sc] w (Grow (.bool true) w):=by
 refine ζe Tryz.func5 Tryz.ntmps5 rfl (ζn rfl fun cb w1 e1 a5 I b1 => ?_);refine ζv (Xi8 w1 (ht.grow I)) rfl fun w2 J => ?_;have q:=I.trans J;have u:=J.heap' a5;refine ζl u rfl (ζv (XoZ c p w2 (hc.chg q)) rfl fun T K => ?_);have d:=q.trans K;have U:=K.heap' u;cases hf:Xga c with
 |false =>
  exact ζy rfl (ζr Tryz.func5 rfl ⟨rfl,d⟩)
 |true =>
 obtain ⟨hm,b2,b3⟩:=Xgb hf;have L:=XkN hm;refine ζf rfl (ζc rfl (Xo7 sa sc xs T (hrs.chg d) hl) ?_);rintro _ w4 ⟨b0,rfl,a6,rfl⟩;refine ζa rfl (ζg rfl (fun g0 => ?_) fun g0 => ?_)
 ·exact ζr Tryz.func5 rfl ⟨rfl,d⟩
 obtain ⟨an,E⟩:=a6 (by simpa using g0);refine ζl U rfl (ζc rfl (Xi9 c p T (hc.chg d) (ht.grow d) hm (by omega)) ?_);rintro _ w5 ⟨n0,F,S,H,P,r,vg,vl,vf,rfl,h5,b4,⟨ga,gn,gc,rfl⟩,⟨la,ln,lc,rfl⟩,⟨fa,fn,fc,rfl⟩⟩;refine ζa rfl (ζn rfl fun xb w6 e6 a8 a9 b5=>ζs a8 rfl fun w7 aq aa b6 => ?_);have h7:=h5.grow (a9.since aa (fun z hz e=>by omega));refine Xay.loop (α:=Nat) (fun k => [(1,false,.slice sa xs.length sc),(5,false,.bool true),(6,false,hpV H),(8,false,.int .i64 k)])
  (fun k w'=>k≤xs.length ∧ ∃ F S x,Hv c n0 T w' F S H P x∧LgO x.st none) (fun k=>xs.length - k) 0 ⟨rfl,rfl,rfl,rfl,trivial⟩ ⟨Nat.zero_le _,F,S,_,h7,LgO.new c⟩ ?_
 rintro k w8 ⟨hk,F8,S8,x8,A,ac⟩ ih;refine ζa rfl (ζg rfl (fun V => ?_) fun V => ?_)
 ·have V:=of_decide_eq_true V;have B:k<xs.length:=by omega
  obtain ⟨sb,so,rfl,G⟩:=hrs.at B;have C:=d.trans A.hm.lv.chg;have hu:=hxs _ (List.getElem_mem B);refine ζi (k*5) rfl (Xay.loadC hTT ((opL xs[k])) rfl (by first | rfl | (simp; done) | (simp [*]; done) | (simp; omega)) ((fun j v e=>Xdk C.below (G j v e))) rfl ?_);have W:0<xs[k].bs.length→Xa0 F8 xs[k].ba:=fun ae b off s e hz=>by
   obtain ⟨b',off',e',D⟩:=hu.rd 0 ae;rw [e] at e';cases e'
   have:=World.block_lt_of_cell? w _ D;have:=A.hm.lv.base b hz;have:=d.size;have:b<w.heap.size:=by assumption
   omega
  refine ζc rfl (Xja A xs[k] (hu.grow C) (E _ (List.getElem_mem B)).2 W) ?_;rintro _ w9 ⟨bv,F9,S9,rfl,_,g,_,_⟩;refine ζa rfl ?_;have n:=XjG A.ok ac xs[k];obtain ⟨i,ah⟩:∃ i,i=Xh6 c x8 xs[k]:=⟨_,rfl⟩;rw [← ah] at g n;refine ζc rfl (XhE g.hm) ?_;rintro _ b7 ⟨f,rfl,hq,a1⟩;refine ζa rfl ?_;have m:=g.grow a1;refine ζw (XhI m.hm) rfl ?_;by_cases h0:XuF i.tb=0
  ·have M:=XjH g.ok h0;have N:=XhX g.ok.st n M;have ai:XsW i.st=0:=by
    rw [XsX];have:∀ l:List (Option ThM),(∀ y ∈ l,y=none)→(l.map szT).sum=0:=by
     intro l
     induction l with
     |nil=>intro _; rfl
     |cons a r ih=>intro h; rw [List.map_cons,List.sum_cons,ih (fun y hy=>h y (List.mem_cons_of_mem _ hy)),h a List.mem_cons_self]; rfl
    refine this _ fun y hy => ?_;obtain ⟨o,ho⟩:=List.mem_iff_getElem?.1 hy;cases y with
    |none=>rfl
    |some t=>exact absurd ho (M o t)
   rw [ai,N,show ((0:Nat):Int)*c.size=0 from Int.zero_mul _] at hq;have aj:=(Xm0 hq).1;rw [h0];refine ζy rfl ?_;have O:=XhH m.hm;rw [N] at O;refine ζv O rfl fun b8 a4 => ?_;have Q:=m.grow a4;refine ζf rfl (Xay.fcmp hTT rfl aj rfl (ζf rfl ?_));have R:=XhI Q.hm;rw [h0] at R;exact ζw R rfl (ζf rfl (ζj rfl (ih (k+1) _ _ ⟨by omega,F9,S9,i,Q,n⟩ (by omega) ⟨rfl,rfl,rfl,rfl,trivial⟩)))
  ·have h1:=XjJ g.ok (by omega);have h2:=Xd8 g.ok.st;have h3:=(XsY g.ok.st).2;have ak:((XhV i.st.rm.pl:Nat):Int)*c.size<9007199254740992:=by
    have hh:=XhW g.ok.st.rm.mok.good;have:=Int.mul_le_mul (show ((XhV i.st.rm.pl:Nat):Int)≤1024 by omega) (show c.size≤4096 by have:=L.size; omega) (by have:=L.size; omega) (by omega);omega
   obtain ⟨q1,q2,_,_⟩:=Xm1 (by omega) h2 ak hq;exact ζf rfl (ζw (XhI m.hm) rfl (ζy rfl (Xay.fcmp hTT rfl q1 rfl (ζf rfl (Xay.fcmp hTT rfl q2 rfl (ζf rfl (ζj rfl (ih (k+1) _ _ ⟨by omega,F9,S9,i,m,n⟩ (by omega) ⟨rfl,rfl,rfl,rfl,trivial⟩))))))))
 ·exact ζr Tryz.func5 rfl ⟨rfl,d.trans A.hm.lv.chg⟩
end Go.Proofs.YtgddpaiandefgaaGreatDoor
