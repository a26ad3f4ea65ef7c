/-
  Rule9
-/
import Derived.Test.YtnaoiegcobineaaGreatDoorQRule8
namespace Go.Proofs.YtnaoiegcobineaaGreatDoor
open Go.RowKit
section
variable {P:Program} {T:Tab} {ops:Array Oper} {f:FuncId} {R:Aim} {k:List Item} {q n:Nat} {ds:List Deferred} {s s':List Item} {w w0:World} {e e':Env} {U:List Nat} {S:Nat→Prop}
def bstrN (T:Tab) (e:Env) (o:Oper):Option (Option Addr × Nat) :=
 match o.op with
 |.convert src dst x=>match ev e x,row T src,row T dst with
  |some (.slice a n _),some {und := .slice q,..},some {und := .string,..}=>match row T q with
   |some {und := .int .u8,..}=>some (a,n)
   |_=>none
  |_,_,_=>none
 |_=>none
theorem bstrN_run (hT:TabOk P T) {a:Option Addr} {m:Nat} {ns:List Int} {o:Oper} (h:bstrN T e o=some (a,m)) (hl:ns.length=m) (hr:Rd .u8 w a ns) (act:Act) (hf:Fits n act e):(execOp act.eval o).run P w = .ok (.value (.string (strOfB ns))) w:=by
 subst hl
 unfold bstrN at h
 split at h
 ·rename_i src dst x hop
  split at h
  ·rename_i a1 n1 c1 q _ _ _ _ _ _ hx hs hd
   split at h
   ·rename_i _ _ _ hq
    cases h
    simp only [execOp,hop,hf.ev hx]
    refine (run_bind_ok (x:=(.string (strOfB ns):Value)) (w':=w) ?_).trans rfl
    unfold convert
    refine (run_bind_ok ((hT.row hs).underlying w)).trans ?_
    refine (run_bind_ok ((hT.row hd).underlying w)).trans ?_
    refine (run_bind_ok ((hT.row hq).underlying w)).trans ?_
    cases a with
    |none =>
     have:ns = []:=by
      cases ns with
      |nil=>rfl
      |cons x r=>obtain ⟨b,off,e,_⟩:=hr 0 (by simp); cases e
     subst this
     rfl
    |some a =>
     have hlc:=run_loadCells_list (P:=P) w a (ns.map (Value.int .u8)) hr.cells
     rw [List.length_map] at hlc
     exact run_bytesToString (P:=P) w a ns.length c1 ns hlc
   ·cases h
  ·cases h
 ·cases h
theorem Goes.bstrN (hT:TabOk P T) {a:Option Addr} {m d:Nat} (ns:List Int) {s2:List Item} {e2:Env} (h:atHead (bstrN T e) n s e=some ((a,m),d,s')) (hl:ns.length=m) (hr:Rd .u8 w a ns)
 (ha:Go.Proofs.YtnaoiegcobineaaGreatDoor.adv T n 400 s' ((d,false,.string (strOfB ns))::e)=(s2,e2)) (hg:Goes P f R n ds s2 e2 w):Goes P f R n ds s e w :=
 Goes.val h (fun _ ho a hf=>bstrN_run hT ho hl hr a hf) (Goes.adv hT 400 ha hg)
def RdS (S:Nat→Prop) (k:IntKind) (w:World) (a:Option Addr) (zs:List Int):Prop:=Rd k w a zs ∧ ∀ b off s,a=some ⟨b,off,s⟩→0<zs.length → ¬ S b
theorem RdS.chg {S:Nat→Prop} {k:IntKind} {w w':World} {a:Option Addr} {zs:List Int} (h:RdS S k w a zs) (hc:Chg S w w'):RdS S k w' a zs:=⟨fun i hi=>by
 obtain ⟨b,off,e,hcell⟩:=h.1 i hi
 exact ⟨b,off,e,hc.cell hcell (h.2 b off none e (by omega))⟩,h.2⟩
theorem Drawn.bstrN (hT:TabOk P T) (hB:drawB ops q=true) {a:Option Addr} {m d i:Nat} (ns:List Int) {U2:List Nat} {e2:Env} (h:findD (bstrN T e) n ops q U e U=some ((a,m),d,i)) (hl:ns.length=m) (hr:RdS S .u8 w0 a ns)
 (ha:advD T n ops q (rmN i U) (rmN i U) ((d,false,.string (strOfB ns))::e)=(U2,e2)) (hg:Drawn P f R n ds k ops q S U2 e2 w0 w):Drawn P f R n ds k ops q S U e w0 w :=
 Drawn.val hT hB h (fun _ ho a _ hw' hf=>bstrN_run hT ho hl (hr.chg hw').1 a hf) ha hg
theorem Drawn.streq (hT:TabOk P T) (hB:drawB ops q=true) {p:Bool} {a b:ByteArray} {d i:Nat} {U2:List Nat} {e2:Env} (h:findD (streqOf e) n ops q U e U=some ((p,a,b),d,i)) (hab:a=b)
 (ha:advD T n ops q (rmN i U) (rmN i U) ((d,false,.bool p)::e)=(U2,e2)) (hg:Drawn P f R n ds k ops q S U2 e2 w0 w):Drawn P f R n ds k ops q S U e w0 w :=
 Drawn.val hT hB h (fun _ ho a w' _ hf=>streqOf_run ho hab a hf w') ha hg
theorem loadVar_cells (hT:TabOk P T) {t:Nat} {r:TyRow} {b off:Nat} {vs:List Value} (hr:row T t=some r) (ha:isAggR r=true) (hl:vs.length=r.size) (hc:∀ j v,vs[j]? = some v→w.cell? ⟨b,off+j,none⟩=some v) :
 (loadVar t ⟨b,off,none⟩).run P w = .ok (.agg vs.toArray) w:=by
 have hlc:=run_loadCells_list (P:=P) w ⟨b,off,none⟩ vs (fun j v hv=>by rw [add_off]; exact hc j v hv)
 unfold loadVar
 refine (run_bind_ok ((hT.row hr).isAgg w)).trans ?_
 rw [ha]
 simp only [if_true]
 refine (run_bind_ok ((hT.row hr).sizeOf w)).trans ?_
 rw [← hl]
 exact (run_bind_ok hlc).trans rfl
theorem loadC_run (hT:TabOk P T) {b off m:Nat} {vs:List Value} {o:Oper} (h:loadOf T e o=some (b,off,some m)) (hl:vs.length=m) (hc:∀ j v,vs[j]? = some v→w.cell? ⟨b,off+j,none⟩=some v) (a:Act) (hf:Fits n a e):(execOp a.eval o).run P w = .ok (.value (.agg vs.toArray)) w:=by
 unfold loadOf at h
 split at h
 ·rename_i t x hop
  split at h
  ·rename_i b1 off1 r hx hr
   split at h
   ·rename_i hagg
    cases h
    simp only [execOp,hop,hf.ev hx]
    refine (run_bind_ok (x:=(.agg vs.toArray:Value)) (w':=w) ?_).trans rfl
    simp only [Instr.loadAt,Instr.sureAddr]
    exact (run_bind_ok (show (pure _:Sem Addr).run P w = .ok _ w from rfl)).trans (loadVar_cells hT hr hagg hl hc)
   ·cases h
  ·cases h
 ·cases h
theorem Goes.loadC (hT:TabOk P T) {b off m d:Nat} (vs:List Value) {s2:List Item} {e2:Env} (h:atHead (loadOf T e) n s e=some ((b,off,some m),d,s')) (hl:vs.length=m) (hc:∀ j v,vs[j]? = some v→w.cell? ⟨b,off+j,none⟩=some v)
 (ha:Go.Proofs.YtnaoiegcobineaaGreatDoor.adv T n 400 s' ((d,false,.agg vs.toArray)::e)=(s2,e2)) (hg:Goes P f R n ds s2 e2 w):Goes P f R n ds s e w :=
 Goes.val h (fun _ ho a hf=>loadC_run hT ho hl hc a hf) (Goes.adv hT 400 ha hg)
theorem Drawn.loadC (hT:TabOk P T) (hB:drawB ops q=true) {b off m d i:Nat} (vs:List Value) {U2:List Nat} {e2:Env} (h:findD (loadOf T e) n ops q U e U=some ((b,off,some m),d,i)) (hl:vs.length=m) (hc:∀ j v,vs[j]? = some v→w0.cell? ⟨b,off+j,none⟩=some v) (hS:¬ S b)
 (ha:advD T n ops q (rmN i U) (rmN i U) ((d,false,.agg vs.toArray)::e)=(U2,e2)) (hg:Drawn P f R n ds k ops q S U2 e2 w0 w):Drawn P f R n ds k ops q S U e w0 w :=
 Drawn.val hT hB h (fun _ ho a _ hw' hf=>loadC_run hT ho hl (fun j v hv=>hw'.cell (hc j v hv) hS) a hf) ha hg
theorem Drawn.swap {d d':Nat} {b b':Bool} {v v':Value} (hne:d≠d') (h:Drawn P f R n ds k ops q S U ((d,b,v)::(d',b',v')::e) w0 w):Drawn P f R n ds k ops q S U ((d',b',v')::(d,b,v)::e) w0 w :=
 h.weaken fun t u ht=>by
  rw [look_cons,look_cons] at ht ⊢
  by_cases h1:t=d
  ·subst h1; rw [if_pos rfl] at ht; rw [if_neg hne,if_pos rfl]; exact ht
  ·rw [if_neg h1] at ht
   by_cases h2:t=d'
   ·subst h2; rw [if_pos rfl] at ht ⊢; exact ht
   ·rw [if_neg h2] at ht ⊢; rw [if_neg h1]; exact ht
end
end Go.Proofs.YtnaoiegcobineaaGreatDoor
