import Derived.Test.YtjjkfpbkmhfckaaGreatDoorK25
import Derived.Test.YtjjkfpbkmhfckaaGreatDoorK08
import Derived.Test.YtjjkfpbkmhfckaaGreatDoorK10
set_option linter.unusedVariables false
set_option linter.unusedSimpArgs false
set_option maxHeartbeats 1000000
set_option maxRecDepth 10000
namespace Go.Proofs.YtjjkfpbkmhfckaaGreatDoor
open Go.RowKit Go.TravelBase Go.TravelAbs
structure PerK (p:Per):Prop where
  ins:∃ l:List Inf,p.infos=l.map inA∧l.length≤1000
  pts:∃ l:List Ch.Pt,p.pts=l.map Ch.ptA∧l.length≤1000
  root:FlsK p.root
  apps:ApsK p.apps
  b1:p.number.length≤1000
  b2:p.pin.length≤1000
  b3:p.puk.length≤1000
  b4:p.ident.length≤1000
  b5:p.seed.length≤1000
theorem PerK.ok {p:Per} (h:PerK p):PerOK p:=by
  obtain ⟨l,h1,_⟩:=h.ins;obtain ⟨k,h2,_⟩:=h.pts;refine ⟨?_,?_⟩
  · rw [h1];exact of_eq_true (Tr_ins l)
  · rw [h2];exact Tr.li fun x hx y hy=>by
      obtain ⟨f,_,rfl⟩:=List.mem_map.1 hx;simp only [Ch.ptA,AV.cl,List.mem_cons,List.not_mem_nil,or_false] at hy;rcases hy with rfl | rfl | rfl | rfl | rfl <;> exact Tr.lit _
def sgPc:Sg:=fun f args ls =>
  match f,args,ls with
  | 46,[.by_ bs],[]=>some (.fr (.by_ bs),[],bs.length≤140737488355328)
  | 79,[.li es xs,.clo g []],[]=>some (.li 5 xs,[],es=5∧g=80 ∧ ∃ l:List Fil.Fl,xs=l.map Fil.flA∧FlsK l)
  | 81,[.li es xs,.clo g []],[]=>some (.li 2 xs,[],es=2∧g=82 ∧ ∃ l:List Fil.Fap,xs=l.map Fil.apA∧ApsK l)
  | 83,[.li es xs],[]=>some (.fr (.li 5 xs),[],es=5 ∧ ∃ l:List Inf,xs=l.map inA∧l.length≤1000)
  | 84,[.li es xs],[]=>some (.fr (.li 5 xs),[],es=5 ∧ ∃ l:List Ch.Pt,xs=l.map Ch.ptA∧l.length≤1000)
  | _,_,_=>none
theorem sgPc_ok:SgOK Tryz.prog sgPc:=by
  intro f args ls r ls' vc h hvc;unfold sgPc at h;split at h <;> cases h
  · exact ⟨(fnOK Tryz.func46 (by decide) rfl),sclone_s _ hvc⟩
  · obtain ⟨rfl,rfl,l,rfl,h1,h2⟩:=hvc;exact ⟨(fnOK Tryz.func79 (by decide) rfl),eachf_c l h1 h2⟩
  · obtain ⟨rfl,rfl,l,rfl,h⟩:=hvc;exact ⟨(fnOK Tryz.func81 (by decide) rfl),eacha_c l h⟩
  · obtain ⟨rfl,l,rfl,h⟩:=hvc;exact ⟨(fnOK Tryz.func83 (by decide) rfl),iclone_c l (by omega)⟩
  · obtain ⟨rfl,l,rfl,h⟩:=hvc;exact ⟨(fnOK Tryz.func84 (by decide) rfl),pclone_c l (by omega)⟩
theorem cloneper_c (p:Per) (h:PerK p):FnS Tryz.prog 45 [.agg (perL p)] [] (.agg (perL p)) []:=by
  have hs:=sgPc_ok;have h2:=h;have hb1:=h.b1;have hb2:=h.b2;have hb3:=h.b3;have hb4:=h.b4;have hb5:=h.b5;have q1:(∃ l:List Inf,p.infos=l.map inA∧l.length≤1000)=True:=eq_true h.ins;have q2:(∃ l:List Ch.Pt,p.pts=l.map Ch.ptA∧l.length≤1000)=True:=eq_true h.pts;have q3:(∃ l,p.root.map Fil.flA=l.map Fil.flA∧FlsK l)=True:=eq_true ⟨_,rfl,h.root⟩;have q4:(∃ l,p.apps.map Fil.apA=l.map Fil.apA∧ApsK l)=True:=eq_true ⟨_,rfl,h.apps⟩;have o1:=eq_true h.ok.1;have o2:=eq_true h.ok.2;have m1:p.number.length≤140737488355328:=by omega
  have m2:p.pin.length≤140737488355328:=by omega
  have m3:p.puk.length≤140737488355328:=by omega
  have m4:p.ident.length≤140737488355328:=by omega
  have m5:p.seed.length≤140737488355328:=by omega
  unfold perL;refine fo Tryz.func45 44 fun X hX=>?_;refine up 1 ?_;refine WA.drawnK mixed_ ty_ok hs (tbl:=[[],[0],[0,1],[0,1,2],[],[4],[4,5],[0,1,2,3,4,5,6],[0,1,2,3,4,5,6,7],[0,1,2,3,4,5,6,7,8],[0,1,2,3,4,5,6,7,8,9]]) (nb:=[2,3,6,7,10]) (by kernel_rfl) fun K hK=>?_;simp only [go_sem,sgPc,q3,q4,Fil.Tr_fls,Fil.Tr_aps]
  refine eK ?_;refine up 3 ?_;refine WA.unroll 5 ?_;refine up 2 ?_;refine WA.cond rfl (fun h=>?_) (fun h=>absurd h (by simp));refine up 4 ?_;refine WA.regionE ty_ok hs fun K hK=>?_;simp only [go_sem,sgPc,m1]
  refine eN ?_
  refine WA.regionE ty_ok hs fun K hK=>?_;simp only [go_sem,true_and]
  (repeat refine sdA ?_);with_reducible refine hK _ (WN.mk ?_)
  clear hK K;repeat first | with_reducible refine WN.b ?_
  refine WN.r ?_;refine up 2 ?_;refine WA.cond rfl (fun h=>?_) (fun h=>absurd h (by simp));refine up 4 ?_;refine WA.regionE ty_ok hs fun K hK=>?_;simp only [go_sem,sgPc,m2]
  refine eN ?_
  refine WA.regionE ty_ok hs fun K hK=>?_;simp only [go_sem,true_and]
  (repeat refine sdA ?_);with_reducible refine hK _ (WN.mk ?_)
  clear hK K;repeat first | with_reducible refine WN.b ?_
  refine WN.r ?_;refine up 2 ?_;refine WA.cond rfl (fun h=>?_) (fun h=>absurd h (by simp));refine up 4 ?_;refine WA.regionE ty_ok hs fun K hK=>?_;simp only [go_sem,sgPc,m3]
  refine eN ?_
  refine WA.regionE ty_ok hs fun K hK=>?_;simp only [go_sem,true_and]
  (repeat refine sdA ?_);with_reducible refine hK _ (WN.mk ?_)
  clear hK K;repeat first | with_reducible refine WN.b ?_
  refine WN.r ?_;refine up 2 ?_;refine WA.cond rfl (fun h=>?_) (fun h=>absurd h (by simp));refine up 4 ?_;refine WA.regionE ty_ok hs fun K hK=>?_;simp only [go_sem,sgPc,m4]
  refine eN ?_
  refine WA.regionE ty_ok hs fun K hK=>?_;simp only [go_sem,true_and]
  (repeat refine sdA ?_);with_reducible refine hK _ (WN.mk ?_)
  clear hK K;repeat first | with_reducible refine WN.b ?_
  refine WN.r ?_;refine up 2 ?_;refine WA.cond rfl (fun h=>?_) (fun h=>absurd h (by simp));refine up 4 ?_;refine WA.regionE ty_ok hs fun K hK=>?_;simp only [go_sem,sgPc,m5]
  refine eN ?_
  refine WA.regionE ty_ok hs fun K hK=>?_;simp only [go_sem,true_and]
  (repeat refine sdA ?_);with_reducible refine hK _ (WN.mk ?_)
  clear hK K;repeat first | with_reducible refine WN.b ?_
  refine WN.r ?_;refine up 2 ?_;refine WA.cond rfl (fun h=>absurd h (by simp)) (fun h=>?_);refine up 1 ?_
  have ti:List.take p.infos.length p.infos=p.infos:=List.take_of_length_le (Nat.le_refl _);have tp:List.take p.pts.length p.pts=p.pts:=List.take_of_length_le (Nat.le_refl _);have t1:=List.take_of_length_le (Nat.le_refl p.number.length);have t2:=List.take_of_length_le (Nat.le_refl p.pin.length);have t3:=List.take_of_length_le (Nat.le_refl p.puk.length);have t4:=List.take_of_length_le (Nat.le_refl p.ident.length);have t5:=List.take_of_length_le (Nat.le_refl p.seed.length);have oc1:TrC (.li 5 p.infos)=True:=by
    obtain ⟨l,h1,_⟩:=h2.ins;rw [h1];exact TrC_ins l
  have oc2:TrC (.li 5 p.pts)=True:=by
    obtain ⟨l,h1,_⟩:=h2.pts;rw [h1];exact TrC_ptsC l
  refine rK hs fun K hK=>?_;simp only [go_sem,sgPc,q1,o1,oc1]
  refine eK ?_;refine rK hs fun K hK=>?_;simp only [go_sem,sgPc,q2,o2,oc2]
  refine eK ?_;refine up 1 ?_;refine rE [.agg (perL p)] [] [.cell 2 39] ?_;simp only [go_sem,sbT,t1,t2,t3,t4,t5,ti,tp,perL,o1,o2,oc1,oc2,Fil.Tr_fls,Fil.Tr_aps];all_goals exact agA
structure ChpK (x:Chp):Prop where
  p:PerK x.p
  m0:x.m0.length≤1000
  m1:x.m1.length≤1000
  seed:x.seed.length≤1000
  e:x.e.length≤1000
  c:x.c.length≤1000
  nonce:x.nonce.length≤1000
def sgQck:Sg:=fun f args ls =>
  match f,args,ls with
  | 46,[.by_ bs],[]=>some (.fr (.by_ bs),[],bs.length≤140737488355328)
  | 45,[.agg l],[]=>some (.agg l,[],∃ p:Per,l=perL p∧PerK p)
  | 56,[.agg [.by_ e,.by_ c,.lit (.int .i64 n)]],[]=>some (.agg [.by_ e,.by_ c,.lit (.int .i64 n)],[],e.length≤100000∧c.length≤100000)
  | 57,[.agg [.lit (.int .i64 a),.lit (.int .i64 b),.lit (.int .i64 c),.lit (.int .i64 d),.by_ l,.lit (.int .i64 x)]],[]=>some (.agg [.lit (.int .i64 a),.lit (.int .i64 b),.lit (.int .i64 c),.lit (.int .i64 d),.by_ l,.lit (.int .i64 x)],[],l.length≤100000)
  | _,_,_=>none
theorem sgQck_ok:SgOK Tryz.prog sgQck:=by
  intro f args ls r ls' vc h hvc;unfold sgQck at h;split at h <;> cases h
  · exact ⟨(fnOK Tryz.func46 (by decide) rfl),sclone_s _ hvc⟩
  · obtain ⟨p,rfl,h⟩:=hvc;exact ⟨(fnOK Tryz.func45 (by decide) rfl),cloneper_c p h⟩
  · exact ⟨(fnOK Tryz.func56 (by decide) rfl),clonesess_c _ _ _ hvc.1 hvc.2⟩
  · exact ⟨(fnOK Tryz.func57 (by decide) rfl),clonecmd_c _ _ _ _ _ _ hvc⟩
theorem clone_c (x:Chp) (hk:ChpK x):FnS Tryz.prog 30 [chpA x] [] (chpA x) []:=by
  have hs:=sgQck_ok;have hb0:=hk.m0;have hb1:=hk.m1;have hb2:=hk.seed;have hb3:=hk.e;have hb4:=hk.c;have hb5:=hk.nonce;have m0:x.m0.length≤140737488355328:=by omega
  have m1:x.m1.length≤140737488355328:=by omega
  have m2:x.seed.length≤140737488355328:=by omega
  have m3:x.e.length≤100000:=by omega
  have m4:x.c.length≤100000:=by omega
  have m5:x.nonce.length≤140737488355328:=by omega
  have o1:=eq_true hk.p.ok.1;have o2:=eq_true hk.p.ok.2;have q1:(∃ p:Per,perL x.p=perL p∧PerK p)=True:=eq_true ⟨_,rfl,hk.p⟩;unfold perL at q1;unfold chpA chpL perL;simp only [i0,List.cons_append,List.nil_append];refine fo Tryz.func30 66 fun X hX=>?_;refine up 1 ?_;refine rK hs fun K hK=>?_;simp only [go_sem,sgQck,perL,q1,o1,o2,Fil.Tr_fls,Fil.Tr_aps]
  refine eK ?_;refine up 3 ?_;refine WA.unroll 2 ?_;refine up 2 ?_;refine WA.cond rfl (fun h=>?_) (fun h=>absurd h (by simp));refine up 4 ?_;refine WA.regionE ty_ok hs fun K hK=>?_;simp only [go_sem,sgQck,m0]
  refine eN ?_
  refine WA.regionE ty_ok hs fun K hK=>?_;simp only [go_sem,true_and]
  (repeat refine sdA ?_);with_reducible refine hK _ (WN.mk ?_)
  clear hK K;repeat first | with_reducible refine WN.b ?_
  refine WN.r ?_;refine up 2 ?_;refine WA.cond rfl (fun h=>?_) (fun h=>absurd h (by simp));refine up 4 ?_;refine WA.regionE ty_ok hs fun K hK=>?_;simp only [go_sem,sgQck,m1]
  refine eN ?_
  refine WA.regionE ty_ok hs fun K hK=>?_;simp only [go_sem,true_and]
  (repeat refine sdA ?_);with_reducible refine hK _ (WN.mk ?_)
  clear hK K;repeat first | with_reducible refine WN.b ?_
  refine WN.r ?_;refine up 2 ?_;refine WA.cond rfl (fun h=>absurd h (by simp)) (fun h=>?_);refine up 1 ?_
  refine rK hs fun K hK=>?_;simp only [go_sem,sgQck,m3,m4]
  refine eK ?_;refine rK hs fun K hK=>?_;simp only [go_sem,sgQck,List.length_nil]
  refine eK ?_;refine rK hs fun K hK=>?_;simp only [go_sem,sgQck,List.length_nil]
  refine eK ?_;refine rK hs fun K hK=>?_;simp only [go_sem,sgQck,List.length_nil]
  refine eK ?_;refine up 3 ?_;refine WA.unroll 4 ?_;refine up 2 ?_;refine WA.cond rfl (fun h=>?_) (fun h=>absurd h (by simp));refine up 4 ?_;refine WA.regionE ty_ok hs fun K hK=>?_;simp only [go_sem,sgQck,m2]
  refine eN ?_
  refine WA.regionE ty_ok hs fun K hK=>?_;simp only [go_sem,true_and]
  (repeat refine sdA ?_);with_reducible refine hK _ (WN.mk ?_)
  clear hK K;repeat first | with_reducible refine WN.b ?_
  refine WN.r ?_;refine up 2 ?_;refine WA.cond rfl (fun h=>?_) (fun h=>absurd h (by simp));refine up 4 ?_;refine WA.regionE ty_ok hs fun K hK=>?_;simp only [go_sem,sgQck,List.length_nil]
  refine eN ?_
  refine WA.regionE ty_ok hs fun K hK=>?_;simp only [go_sem,true_and]
  (repeat refine sdA ?_);with_reducible refine hK _ (WN.mk ?_)
  clear hK K;repeat first | with_reducible refine WN.b ?_
  refine WN.r ?_;refine up 2 ?_;refine WA.cond rfl (fun h=>?_) (fun h=>absurd h (by simp));refine up 4 ?_;refine WA.regionE ty_ok hs fun K hK=>?_;simp only [go_sem,sgQck,m5]
  refine eN ?_
  refine WA.regionE ty_ok hs fun K hK=>?_;simp only [go_sem,true_and]
  (repeat refine sdA ?_);with_reducible refine hK _ (WN.mk ?_)
  clear hK K;repeat first | with_reducible refine WN.b ?_
  refine WN.r ?_;refine up 2 ?_;refine WA.cond rfl (fun h=>?_) (fun h=>absurd h (by simp));refine up 4 ?_;refine WA.regionE ty_ok hs fun K hK=>?_;simp only [go_sem,sgQck,List.length_nil]
  refine eN ?_
  refine WA.regionE ty_ok hs fun K hK=>?_;simp only [go_sem,true_and]
  (repeat refine sdA ?_);with_reducible refine hK _ (WN.mk ?_)
  clear hK K;repeat first | with_reducible refine WN.b ?_
  refine WN.r ?_;refine up 2 ?_;refine WA.cond rfl (fun h=>absurd h (by simp)) (fun h=>?_);refine up 1 ?_
  have t0:=List.take_of_length_le (Nat.le_refl x.m0.length);have t1:=List.take_of_length_le (Nat.le_refl x.m1.length);have t2:=List.take_of_length_le (Nat.le_refl x.seed.length);have t3:=List.take_of_length_le (Nat.le_refl x.e.length);have t4:=List.take_of_length_le (Nat.le_refl x.c.length);have t5:=List.take_of_length_le (Nat.le_refl x.nonce.length);refine up 1 ?_;refine rE [chpA x] [] [.cell 2 63] ?_;simp only [go_sem,sbT,t0,t1,t2,t3,t4,t5,chpA,chpL,perL,i0,List.cons_append,List.nil_append,List.take_nil,o1,o2,Fil.Tr_fls,Fil.Tr_aps];all_goals exact agA
def offX (x:Chp):Chp:={ x with on:=false,app:=0,file:=0,st:=⟨0,false,false,false,0⟩,sec:=false,e:=[],c:=[],n:=0,nonce:=[] }
theorem off_c (x:Chp) (hk:ChpK x):FnS Tryz.prog 32 [chpA x] [] (chpA (offX x)) []:=by
  have hs:=sg0_ok;have o1:=eq_true hk.p.ok.1;have o2:=eq_true hk.p.ok.2;unfold chpA chpL perL;simp only [i0,List.cons_append,List.nil_append];refine fo Tryz.func32 10 fun X hX=>?_;refine up 2 ?_;refine rE [chpA (offX x)] [] [.cell 2 63] ?_;simp only [go_sem,sbT,offX,chpA,chpL,perL,i0,List.cons_append,List.nil_append,o1,o2,Fil.Tr_fls,Fil.Tr_aps];all_goals exact agA
def powX (x:Chp):Chp:={ offX x with on:=true,app:=-1,file:=-1 }
def sgQof (x:Chp):Sg:=fun f args ls =>
  match f,args,ls with
  | 30,[.agg l],[]=>some (.agg (chpL x),[],l=chpL x∧ChpK x)
  | 32,[.agg l],[]=>some (.agg (chpL (offX x)),[],l=chpL x∧ChpK x)
  | _,_,_=>none
theorem sgQof_ok (x:Chp):SgOK Tryz.prog (sgQof x):=by
  intro f args ls r ls' vc h hvc;unfold sgQof at h;split at h <;> cases h
  · obtain ⟨rfl,h⟩:=hvc;exact ⟨(fnOK Tryz.func30 (by decide) rfl),clone_c x h⟩
  · obtain ⟨rfl,h⟩:=hvc;exact ⟨(fnOK Tryz.func32 (by decide) rfl),off_c x h⟩
theorem power_c (x:Chp) (hk:ChpK x):FnS Tryz.prog 23 [chpA x] [] (chpA (powX x)) []:=by
  have hs:=sgQof_ok x;have o1:=eq_true hk.p.ok.1;have o2:=eq_true hk.p.ok.2;unfold chpA chpL perL;simp only [i0,List.cons_append,List.nil_append];refine fo Tryz.func23 11 fun X hX=>?_;refine up 1 ?_;refine rK hs fun K hK=>?_;simp only [go_sem,sgQof,chpL,perL,i0,List.cons_append,List.nil_append,hk,o1,o2,Fil.Tr_fls,Fil.Tr_aps,offX]
  refine eK ?_;refine up 2 ?_;refine rE [chpA (powX x)] [] [.cell 2 63] ?_;simp only [go_sem,sbT,powX,offX,chpA,chpL,perL,i0,List.cons_append,List.nil_append,o1,o2,Fil.Tr_fls,Fil.Tr_aps];all_goals exact agA
def recB (pr ur:Int) (pin:List UInt8) (s:Ch.Sto):List UInt8:=flatL [[u8i pr,u8i ur,u8i (pin.length:Nat)],pin,Ch.encS s]
theorem ptE_len (p:Ch.Pt) (h:Ch.pointE p=0):(Ch.encPt p).length≤40:=by
  unfold Ch.pointE at h;split at h
  · cases h
  · rename_i h1;split at h
    · cases h
    · rename_i h2;have h1:Ch.nameB p.h=true:=by simpa using h1
      have h2:Ch.eltB p.key=true:=by simpa using h2
      have h3:=(Ch.key_back h2).1;unfold Ch.nameB at h1;have h1:=of_decide_eq_true h1;simp [Ch.encPt,Ch.le2,Ch.le3,h3];omega
theorem encS_len (s:Ch.Sto) (h:Ch.validE s=0):(Ch.encS s).length≤100:=by
  have h0:=h;unfold Ch.validE at h;split at h
  · cases h
  · rename_i h1;split at h
    · rename_i h2;exact absurd h h2
    · rename_i h2;have h2:Ch.firE s.pts=0:=by simpa using h2
      unfold Ch.encS;rw [if_pos h0];unfold Ch.acE;obtain ⟨pts,now⟩:=s;simp only at h1 h2 ⊢
      match pts,h1,h2 with
      | [],h1,h2=>simp at h1
      | [p],h1,h2 =>
        have hp:Ch.pointE p=0:=by
          simp only [Ch.firE] at h2;by_cases q:Ch.pointE p=0
          · exact q
          · simp [q] at h2
        have:=ptE_len p hp;simp [Ch.le3];omega
      | [p,q],h1,h2 =>
        have hp:Ch.pointE p=0∧Ch.pointE q=0:=by
          simp only [Ch.firE] at h2;by_cases q1:Ch.pointE p=0
          · by_cases q2:Ch.pointE q=0
            · exact ⟨q1,q2⟩
            · simp [q1,q2] at h2
          · simp [q1] at h2
        have e1:=ptE_len p hp.1;have e2:=ptE_len q hp.2;simp [Ch.le3];omega
      | _::_::_::_,h1,h2=>simp at h1
def sgQer:Sg:=fun f args ls =>
  match f,args,ls with
  | 76,[.agg [.li es xs,.lit (.int .i64 d)]],[]=>some (.tup [.by_ (Ch.encS ⟨xs.map Ch.unT,d⟩),.lit (.int .i64 (Ch.validE ⟨xs.map Ch.unT,d⟩))],[],es=5∧xs=(xs.map Ch.unT).map Ch.ptA)
  | 77,[.li 1 [.by_ a,.by_ b,.by_ d]],[]=>some (.fr (.by_ (flatL [a,b,d])),[],a.length+b.length+d.length≤900000000)
  | _,_,_=>none
theorem sgQer_ok:SgOK Tryz.prog sgQer:=by
  intro f args ls r ls' vc h hvc;unfold sgQer at h;split at h <;> cases h
  · rename_i es xs d;obtain ⟨rfl,h1⟩:=hvc;refine ⟨(fnOK Tryz.func76 (by decide) rfl),?_⟩;have:=Ch.encode_s ⟨xs.map Ch.unT,d⟩;unfold Ch.stoA at this;rw [← h1] at this;exact this
  · rename_i a b d;have:=concat_s [a,b,d] (by simp [sumL];omega) (by simp);exact ⟨(fnOK Tryz.func77 (by decide) rfl),this⟩
theorem encrec_c (pr ur:Int) (pin:List UInt8) (s:Ch.Sto) (h1:0≤pr∧pr≤15) (h2:0≤ur∧ur≤15) (h3:pin.length≤16) (hv:Ch.validE s=0) :
    FnS Tryz.prog 43 [.agg [.lit (.int .i64 pr),.lit (.int .i64 ur),.by_ pin,.li 5 (s.pts.map Ch.ptA),.lit (.int .i64 s.now)]] [] (.tup [.by_ (recB pr ur pin s),.lit (.int .i64 0)]) []:=by
  have hs:=sgQer_ok;have hel:=encS_len s hv;have hT:=Ch.Tr_pts s.pts;have a1:decide (pr<0)=false:=decide_eq_false (by omega);have a2:decide (pr > 15)=false:=decide_eq_false (by omega);have a3:decide (ur<0)=false:=decide_eq_false (by omega);have a4:decide (ur > 15)=false:=decide_eq_false (by omega);have a5:decide ((pin.length:Int) > 16)=false:=decide_eq_false (by omega);obtain ⟨pts,now⟩:=s;refine fo Tryz.func43 52 fun X hX=>?_;refine up 4 ?_;refine WA.unroll 2 ?_;refine up 2 ?_;refine WA.cond rfl (fun h=>?_) (fun h=>absurd h (by simp));refine up 4 ?_;refine rK hs fun K hK=>?_;simp only [go_sem,a1,a2]
  refine eK ?_;refine WA.cond rfl (fun h=>absurd h (by simp)) (fun h=>?_);refine up 1 ?_
  refine WA.regionE ty_ok hs fun K hK=>?_;simp only [go_sem,true_and]
  (repeat refine sdA ?_);with_reducible refine hK _ (WN.mk ?_)
  clear hK K;repeat first | with_reducible refine WN.b ?_
  refine WN.r ?_;refine up 2 ?_;refine WA.cond rfl (fun h=>?_) (fun h=>absurd h (by simp));refine up 4 ?_;refine rK hs fun K hK=>?_;simp only [go_sem,a3,a4]
  refine eK ?_;refine WA.cond rfl (fun h=>absurd h (by simp)) (fun h=>?_);refine up 1 ?_
  refine WA.regionE ty_ok hs fun K hK=>?_;simp only [go_sem,true_and]
  (repeat refine sdA ?_);with_reducible refine hK _ (WN.mk ?_)
  clear hK K;repeat first | with_reducible refine WN.b ?_
  refine WN.r ?_;refine up 2 ?_;refine WA.cond rfl (fun h=>absurd h (by simp)) (fun h=>?_);refine up 2 ?_;refine rK hs fun K hK=>?_;simp only [go_sem,a5]
  refine eK ?_;refine WA.cond rfl (fun h=>absurd h (by simp)) (fun h=>?_);refine up 1 ?_
  refine rK hs fun K hK=>?_;simp only [go_sem,sgQer,hT,Ch.un_pts,hv]
  refine eK ?_;refine up 2 ?_;refine WA.cond rfl (fun h=>absurd h (by simp)) (fun h=>?_);refine up 1 ?_
  refine WL.region ?_;refine WL.evk ty_ok hs 11 ?_;simp only [List.take_succ_cons,List.take_zero,List.drop_succ_cons,List.drop_zero];intro K hK;simp only [go_sem,true_and]
  refine eK ?_;refine WL.normT 46 fun K hK=>?_;simp only [go_sem,true_and]
  refine eK ?_;have hu:flatL [[UInt8.ofNat (IntKind.u8.wrap pr).toNat,UInt8.ofNat (IntKind.u8.wrap ur).toNat,UInt8.ofNat (IntKind.u8.wrap (pin.length:Int)).toNat],pin,Ch.encS ⟨pts,now⟩]=recB pr ur pin ⟨pts,now⟩:=rfl;have hl0:3+pin.length+(Ch.encS ⟨pts,now⟩).length≤900000000:=by omega
  have t1:=List.take_of_length_le (Nat.le_refl (recB pr ur pin ⟨pts,now⟩).length);refine WL.evk ty_ok hs 7 ?_;simp only [List.take_succ_cons,List.take_zero,List.drop_succ_cons,List.drop_zero];intro K hK;simp only [go_sem,sgQer,hl0,hu]
  refine eK ?_;refine WL.nil ?_;refine rE [.by_ (recB pr ur pin ⟨pts,now⟩),.lit (.int .i64 0)] [] [.tmp 2,.tmp 3] ?_;simp only [go_sem,sbT,t1];all_goals exact agA
def sgQdr:Sg:=fun f args ls =>
  match f,args,ls with
  | 104,[.by_ d],[]=>some (.tup [.agg [.li 5 ((Ch.dcV d).pts.map Ch.ptA),.lit (.int .i64 (Ch.dcV d).now)],.lit (.int .i64 (Ch.dcE d))],[],d.length≤1000)
  | 46,[.by_ bs],[]=>some (.fr (.by_ bs),[],bs.length≤140737488355328)
  | _,_,_=>none
theorem sgQdr_ok:SgOK Tryz.prog sgQdr:=by
  intro f args ls r ls' vc h hvc;unfold sgQdr at h;split at h <;> cases h
  · exact ⟨(fnOK Tryz.func104 (by decide) rfl),Ch.decode_s _ hvc⟩
  · exact ⟨(fnOK Tryz.func46 (by decide) rfl),sclone_s _ hvc⟩
theorem decrec_c (B:List UInt8) (pr ur:Int) (pin E:List UInt8) (s:Ch.Sto) (h1:0≤pr∧pr≤15) (h2:0≤ur∧ur≤15) (h3:pin.length≤16) (h4:E.length≤1000) (b0:((B.getD 0 0).toNat:Int)=pr) (b1:((B.getD 1 0).toNat:Int)=ur) (b2:((B.getD 2 0).toNat:Int)=(pin.length:Nat)) (hl:B.length=3+pin.length+E.length)
    (hp:(B.take (3+pin.length)).drop 3=pin) (hE:B.drop (3+pin.length)=E) (hd:Ch.dcV E=s) (hde:Ch.dcE E=0) :
    FnS Tryz.prog 55 [.by_ B] [] (.tup [.agg [.lit (.int .i64 pr),.lit (.int .i64 ur),.by_ pin,.li 5 (s.pts.map Ch.ptA),.lit (.int .i64 s.now)],.lit (.int .i64 0)]) []:=by
  have hs:=sgQdr_ok;have hT:=Ch.Tr_pts s.pts;have a0:decide ((3:Int)+(pin.length:Nat)+(E.length:Nat)<3)=false:=decide_eq_false (by omega);have a1:decide (pr > 15)=false:=decide_eq_false (by omega);have a2:decide (ur > 15)=false:=decide_eq_false (by omega);have a3:decide (((pin.length:Nat):Int) > 16)=false:=decide_eq_false (by omega);have a4:decide ((3:Int)+(pin.length:Nat)+(E.length:Nat)<3+(pin.length:Nat))=false:=decide_eq_false (by omega);refine fo Tryz.func55 68 fun X hX=>?_;refine up 2 ?_;have w1:IntKind.i64.wrap ((pin.length:Nat):Int)=(pin.length:Nat):=by rw [IntKind.wrap_i64];omega
  have w2:IntKind.i64.wrap pr=pr:=by rw [IntKind.wrap_i64];omega
  have w3:IntKind.i64.wrap ur=ur:=by rw [IntKind.wrap_i64];omega
  have u1:((3:Int)+(pin.length:Nat)).toNat=3+pin.length:=by omega
  have u2:List.take (3+pin.length+E.length) B=B:=List.take_of_length_le (by omega);have u3:List.take pin.length pin=pin:=List.take_length;have u4:((3:Int)+(pin.length:Nat)+(E.length:Nat)).toNat=3+pin.length+E.length:=by omega
  have hTs:Tr (.agg [.li 5 (s.pts.map Ch.ptA),.lit (.int .i64 s.now)])=True:=eq_true (Tr.agg fun x hx=>by
    simp only [List.mem_cons,List.not_mem_nil,or_false] at hx;rcases hx with rfl | rfl
    · exact of_eq_true hT
    · exact Tr.lit _)
  refine rK hs fun K hK=>?_;simp only [go_sem,hl,b0,b1,b2,a0,a1,a2,a3,a4,w1,Int.natCast_add]
  refine eK ?_;refine WA.cond rfl (fun h=>absurd h (by simp)) (fun h=>?_);refine up 1 ?_
  refine rK hs fun K hK=>?_;simp only [go_sem,hl,b2,w1,Int.natCast_add]
  refine eK ?_;refine rK hs fun K hK=>?_;simp only [go_sem,sgQdr,hl,u1,u2,u4,hE,hd,hde,h4,hTs,Int.natCast_add]
  refine eK ?_;refine up 2 ?_;refine WA.cond rfl (fun h=>absurd h (by simp)) (fun h=>?_);refine up 1 ?_
  have m1:pin.length≤140737488355328:=by omega
  refine WA.drawnK mixed_ ty_ok hs (tbl:=[[],[0],[0,1],[0,1,2],[],[4],[4,5],[4,5,6],[],[],[8,9],[8,9,10],[],[0,1,2,3,4,5,6,7,8,9,10,11,12],[0,1,2,3,4,5,6,7,8,9,10,11,12,13],[0,1,2,3,4,5,6,7,8,9,10,11,12,13,14]]) (nb:=[2,6,11,12,14]) (by kernel_rfl) fun K hK=>?_;simp only [go_sem,sgQdr,hl,b0,b1,w2,w3,u1,hp,m1,hT,Int.natCast_add]
  refine eK ?_;refine rE [.agg [.lit (.int .i64 pr),.lit (.int .i64 ur),.by_ pin,.li 5 (s.pts.map Ch.ptA),.lit (.int .i64 s.now)],.lit (.int .i64 0)] [] [.cell 2 104,.tmp 3] ?_;simp only [go_sem,sbT,u3,hT];all_goals exact agA
theorem u8i_nat {n:Int} (h:0≤n∧n≤255):((u8i n).toNat:Int)=n:=by
  obtain ⟨k,rfl⟩:=Int.eq_ofNat_of_zero_le h.1;unfold u8i;rw [IntKind.wrap_u8];have:((k:Int) % 256).toNat=k:=by omega
  rw [this];have:(UInt8.ofNat k).toNat=k % 256:=by simp
  omega
theorem recB_eq (pr ur:Int) (pin:List UInt8) (s:Ch.Sto):recB pr ur pin s=u8i pr::u8i ur::u8i (pin.length:Nat)::(pin++Ch.encS s):=by
  simp [recB,flatL]
structure RecK (pr ur:Int) (pin:List UInt8) (s:Ch.Sto):Prop where
  v:Ch.validE s=0
  pr:0≤pr∧pr≤15
  ur:0≤ur∧ur≤15
  pin:pin.length≤16
theorem recB_len {pr ur:Int} {pin:List UInt8} {s:Ch.Sto} (h:RecK pr ur pin s):(recB pr ur pin s).length=3+pin.length+(Ch.encS s).length∧(recB pr ur pin s).length≤200:=by
  have:=encS_len s h.v;have:=h.pin;rw [recB_eq];simp;omega
theorem decrecB {pr ur:Int} {pin:List UInt8} {s:Ch.Sto} (h:RecK pr ur pin s):FnS Tryz.prog 55 [.by_ (recB pr ur pin s)] [] (.tup [.agg [.lit (.int .i64 pr),.lit (.int .i64 ur),.by_ pin,.li 5 (s.pts.map Ch.ptA),.lit (.int .i64 s.now)],.lit (.int .i64 0)]) []:=by
  have hl:=encS_len s h.v;have hp:=h.pin;have hd:=Ch.dc_yes (d:=Ch.encS s) (s:=s) ⟨h.v,rfl⟩;have e:=recB_eq pr ur pin s;refine decrec_c _ pr ur pin (Ch.encS s) s h.pr h.ur hp (by omega) ?_ ?_ ?_ (recB_len h).1 ?_ ?_ hd.1 hd.2
  · rw [e];exact u8i_nat ⟨h.pr.1,by have:=h.pr.2;omega⟩
  · rw [e];exact u8i_nat ⟨h.ur.1,by have:=h.ur.2;omega⟩
  · rw [e];exact u8i_nat ⟨by omega,by omega⟩
  · rw [e];have:3+pin.length=pin.length+3:=by omega
    rw [this];simp
  · rw [e];have:3+pin.length=pin.length+3:=by omega
    rw [this];simp
structure KeptK (x:Chp) (pr ur:Int) (pin:List UInt8) (s:Ch.Sto):Prop where
  r:RecK pr ur pin s
  l:Mem.lR x.m0 x.m1=recB pr ur pin s
  e:Mem.lE x.m0 x.m1=0
def sgQkp (pr ur:Int) (pin:List UInt8) (s:Ch.Sto):Sg:=fun f args ls =>
  match f,args,ls with
  | 54,[.agg [.by_ a,.by_ b]],[]=>some (.tup [.by_ (Mem.lR a b),.lit (.int .i64 (Mem.lE a b))],[],True)
  | 55,[.by_ b],[]=>some (.tup [.agg [.lit (.int .i64 pr),.lit (.int .i64 ur),.by_ pin,.li 5 (s.pts.map Ch.ptA),.lit (.int .i64 s.now)],.lit (.int .i64 0)],[],b=recB pr ur pin s∧RecK pr ur pin s)
  | _,_,_=>none
theorem sgQkp_ok (pr ur:Int) (pin:List UInt8) (s:Ch.Sto):SgOK Tryz.prog (sgQkp pr ur pin s):=by
  intro f args ls r ls' vc h hvc;unfold sgQkp at h;split at h <;> cases h
  · exact ⟨(fnOK Tryz.func54 (by decide) rfl),Mem.load_s _ _⟩
  · obtain ⟨rfl,h⟩:=hvc;exact ⟨(fnOK Tryz.func55 (by decide) rfl),decrecB h⟩
def recA (pr ur:Int) (pin:List UInt8) (s:Ch.Sto):AV:=.agg [.lit (.int .i64 pr),.lit (.int .i64 ur),.by_ pin,.li 5 (s.pts.map Ch.ptA),.lit (.int .i64 s.now)]
theorem Tr_rec (pr ur:Int) (pin:List UInt8) (s:Ch.Sto):Tr (.agg [.lit (.int .i64 pr),.lit (.int .i64 ur),.by_ pin,.li 5 (s.pts.map Ch.ptA),.lit (.int .i64 s.now)])=True:=eq_true (Tr.agg fun x hx=>by
  simp only [List.mem_cons,List.not_mem_nil,or_false] at hx;rcases hx with rfl | rfl | rfl | rfl | rfl;all_goals first | exact Tr.lit _ | exact Tr.by_ _ | exact of_eq_true (Ch.Tr_pts s.pts))
theorem kept_c (x:Chp) (pr ur:Int) (pin:List UInt8) (s:Ch.Sto) (hx:PerOK x.p) (h:KeptK x pr ur pin s):FnS Tryz.prog 29 [chpA x] [] (.tup [recA pr ur pin s,.lit (.int .i64 0)]) []:=by
  have hs:=sgQkp_ok pr ur pin s;have h1:=h.l;have h2:=h.e;have h3:=h.r;have hT:=Ch.Tr_pts s.pts;unfold chpA chpL perL recA;simp only [i0,List.cons_append,List.nil_append];refine fo Tryz.func29 20 fun X hX=>?_;refine up 1 ?_;refine rK hs fun K hK=>?_;simp only [go_sem,sgQkp,h1,h2]
  refine eK ?_;refine up 4 ?_
  refine rK hs fun K hK=>?_;simp only [go_sem,sgQkp,h3,Tr_rec]
  refine eK ?_;refine rE [.agg [.lit (.int .i64 pr),.lit (.int .i64 ur),.by_ pin,.li 5 (s.pts.map Ch.ptA),.lit (.int .i64 s.now)],.lit (.int .i64 0)] [] [.cell 2 104,.tmp 3] ?_;simp only [go_sem,sbT,hT];all_goals exact agA
def mc0 (x:Chp) (pr ur:Int) (pin:List UInt8) (s:Ch.Sto):Mc:=⟨x,pr,ur,pin,s.pts.map Ch.ptA,s.now,0,false,[]⟩
theorem mc0_ok {x:Chp} (pr ur:Int) (pin:List UInt8) (s:Ch.Sto) (hk:ChpK x):MOK (mc0 x pr ur pin s):=⟨hk.p.ok,of_eq_true (Ch.Tr_pts s.pts)⟩
def sgQas (x:Chp) (pr ur:Int) (pin:List UInt8) (s:Ch.Sto) (c:List AV) (m2:Mc) (r:List UInt8) (st:Int):Sg:=fun f args ls =>
  match f,args,ls with
  | 29,[.agg l],[]=>some (.tup [.agg [.lit (.int .i64 pr),.lit (.int .i64 ur),.by_ pin,.li 5 (s.pts.map Ch.ptA),.lit (.int .i64 s.now)],.lit (.int .i64 0)],[],l=chpL x∧ChpK x∧KeptK x pr ur pin s)
  | 30,[.agg l],[]=>some (.agg (chpL x),[],l=chpL x∧ChpK x)
  | 31,[.ptr 0 0 0,.agg c'],[.li 70 [y]]=>some (.agg [.by_ r,.lit (.int .i64 st)],[.li 70 [mcA m2]],c'=c∧y=mcA (mc0 x pr ur pin s))
  | _,_,_=>none
theorem sgQas_ok {x:Chp} {pr ur:Int} {pin:List UInt8} {s:Ch.Sto} {c:List AV} {m2:Mc} {r:List UInt8} {st:Int} (hF:FnS Tryz.prog 31 [.ptr 0 0 0,.agg c] [.li 70 [mcA (mc0 x pr ur pin s)]] (rsX r st) [.li 70 [mcA m2]]):SgOK Tryz.prog (sgQas x pr ur pin s c m2 r st):=by
  intro f args ls r ls' vc h hvc;unfold sgQas at h;split at h <;> cases h
  · obtain ⟨rfl,h,h2⟩:=hvc;exact ⟨(fnOK Tryz.func29 (by decide) rfl),kept_c x pr ur pin s h.p.ok h2⟩
  · obtain ⟨rfl,h⟩:=hvc;exact ⟨(fnOK Tryz.func30 (by decide) rfl),clone_c x h⟩
  · obtain ⟨rfl,rfl⟩:=hvc;exact ⟨(fnOK Tryz.func31 (by decide) rfl),hF⟩
theorem Answer_c (x:Chp) (pr ur:Int) (pin:List UInt8) (s:Ch.Sto) (hk:ChpK x) (hx:KeptK x pr ur pin s) (hon:x.on=true) (k ins p1 p2 e:Int) (d:List UInt8) (m2:Mc) (h2:MOK m2) (r:List UInt8) (st:Int)
    (hF:FnS Tryz.prog 31 [.ptr 0 0 0,cmX k ins p1 p2 d e] [.li 70 [mcA (mc0 x pr ur pin s)]] (rsX r st) [.li 70 [mcA m2]]) :
    FnS Tryz.prog 13 [chpA x,cmX k ins p1 p2 d e,.lit (.int .i64 (-1))] [] (.tup [chpA m2.x,rsX r st,.lit (.bool true)]) []:=by
  unfold cmX at hF ⊢;have hs:=sgQas_ok hF;have o1:=eq_true hk.p.ok.1;have o2:=eq_true hk.p.ok.2;have hT:=Ch.Tr_pts s.pts;have h1:=mc0_ok pr ur pin s hk;have hm:=eq_true (TrC_mc h1);have hm2:=eq_true (TrC_mc h2);have z0:((0:Int) != 0)=false:=by decide
  unfold chpA chpL perL;simp only [i0,List.cons_append,List.nil_append];refine fo Tryz.func13 64 fun X hX=>?_;refine up 1 ?_;refine rK hs fun K hK=>?_;simp only [go_sem,sgQas,hk,hx,chpL,perL,i0,List.cons_append,List.nil_append,o1,o2,hT,Fil.Tr_fls,Fil.Tr_aps]
  refine eK ?_;refine up 1 ?_;refine rK hs fun K hK=>?_;simp only [go_sem,hon,z0]
  refine eK ?_;refine up 2 ?_
  refine WA.drawnK mixed_ ty_ok hs (tbl:=[[],[0],[],[],[0,1,2,3],[0,1,2,3,4],[0,1,2,3,4,5]]) (nb:=[0,1,2]) (by kernel_rfl) fun K hK=>?_;simp only [go_sem,sgQas,hk,hon,chpL,perL,i0,List.cons_append,List.nil_append,o1,o2,hT,Fil.Tr_fls,Fil.Tr_aps]
  refine eK ?_;refine WA.sb 2200 (xs':=[mcA (mc0 x pr ur pin s)]) rfl ?hw ?_
  case hw =>
    refine ⟨?_,rfl⟩;simp only [mcA,chpL,perL,i0,AV.cl,List.cons_append,List.nil_append,mc0,hon];repeat first | exact rfl | refine ⟨Wk.by_,?_⟩ | refine ⟨Wk.rfl_ _,?_⟩
  refine rK hs fun K hK=>?_;simp only [go_sem,sgQas,hm,hm2]
  refine eK ?_;refine up 1 ?_;have g1:=eq_true h2.1.1;have g2:=eq_true h2.1.2;have g3:=eq_true h2.2;refine rK hs fun K hK=>?_;simp only [go_sem,mcA,chpL,perL,i0,List.cons_append,List.nil_append]
  refine eK ?_;refine up 2 ?_
  refine WA.drawnH mixed_ ty_ok hs (tbl:=[[],[0],[0,1],[0,1,2],[],[0,1,2,3],[0,1,2,3,4,5],[0,1,2,3,4,5,6]]) (nb:=[3,4,5,6]) (hk:=[[],[],[],[],[2016],[],[],[]]) (by kernel_rfl) fun K hK=>?_;simp only [go_sem,true_and]
  refine eK ?_;refine rE [chpA m2.x,rsX r st,.lit (.bool true)] [] [.cell 6 63,.cell 7 65,.tmp 8] ?_;simp only [go_sem,sbT,rsX,chpA,chpL,perL,i0,List.cons_append,List.nil_append,g1,g2,g3,Fil.Tr_fls,Fil.Tr_aps];all_goals exact agA
section
def tbSiA0:List (List Nat):=[[],[0],[0,1],[0,1,2],[0,1,2,3],[0,1,2,3,4],[0,1,2,3],[0,1,2,3,6],[0,1,2,3,4,5,6,7],[0,1,2,3,4,5,6,7,8],[0,1,2,3,4,5,6,7,8,9]]
def tbSiA1:List (List Nat):=[[],[0],[0,1],[0,1,2],[0,1,2,3],[0,1,2,3,4],[0,1,2,3],[0,1,2,3,6],[0,1,2,3,6,7],[0,1,2,3,6,7,8],[0,1,2,3,4,5,6,7,8,9],[0,1,2,3,4,5,6,7,8,9,10],[0,1,2,3,4,5,6,7,8,9,10,11]]
attribute [local go_sem] gt_iff_lt ge_iff_le Int.reduceLT Int.reduceLE Int.reduceBEq Int.reduceBNe Int.reduceSub Int.reduceAdd decide_true decide_false Bool.not_true Bool.not_false cond_true cond_false Bool.false_eq_true Bool.true_eq_false if_true if_false
attribute [local go_sem] tbSiA0
attribute [local go_sem] tbSiA1
theorem known_i (x:Int):FnS Tryz.prog 167 [.lit (.int .i64 x)] [] (.lit (.bool (bif decide (x ≥ 2) then decide (x≤6) else false))) []:=by
  have hs:=sg0_ok;refine fo Tryz.func167 9 fun X hX=>?_;refine up 2 ?_;refine rE [.lit (.bool (bif decide (x ≥ 2) then decide (x≤6) else false))] [] [.tmp 2] ?_;simp only [go_sem,sbT];all_goals exact agA
theorem mapped_i (x:Int):FnS Tryz.prog 169 [.lit (.int .i64 x)] [] (.lit (.bool (bif x == 2 then true else x == 3))) []:=by
  have hs:=sg0_ok;refine fo Tryz.func169 9 fun X hX=>?_;refine up 2 ?_;refine rE [.lit (.bool (bif x == 2 then true else x == 3))] [] [.tmp 2] ?_;simp only [go_sem,sbT];all_goals exact agA
theorem most_i (b:Bool) (n:Int):FnS Tryz.prog 168 [.lit (.bool b),.lit (.int .i64 n)] [] (.lit (.int .i64 (bif b then n else 0))) []:=by
  have hs:=sg0_ok;refine fo Tryz.func168 7 fun X hX=>?_;refine up 3 ?_;refine WA.cond rfl (fun h=>?_) (fun h=>?_)
  · subst h;refine up 1 ?_;refine rE [.lit (.int .i64 n)] [] [.tmp 4] ?_;simp only [go_sem,sbT];all_goals exact agA
  · subst h;refine up 2 ?_;refine rE [.lit (.int .i64 0)] [] [.tmp 4] ?_;simp only [go_sem,sbT];all_goals exact agA
theorem key_i (x:Int) (h:0≤x∧x<1073741789):FnS Tryz.prog 74 [.lit (.int .i64 x)] [] (.lit (.bool true)) []:=by
  have hs:=sg0_ok;have a1:decide (x ≥ 0)=true:=decide_eq_true h.1;have a2:decide (x<1073741789)=true:=decide_eq_true h.2;refine fo Tryz.func74 9 fun X hX=>?_;refine up 1 ?_;refine rK hs fun K hK=>?_;simp only [go_sem,a1,a2]
  refine eK ?_;refine rE [.lit (.bool true)] [] [.tmp 2] ?_;simp only [go_sem,sbT];all_goals exact agA
theorem nan_i (x:Int):FnS Tryz.prog 171 [.lit (.int .i64 x)] [] (.lit (.bool false)) []:=by
  have hs:=sg0_ok;have a1:(x != x)=false:=by simp
  refine fo Tryz.func171 6 fun X hX=>?_;refine up 1 ?_;refine rK hs fun K hK=>?_;simp only [go_sem,a1]
  refine eK ?_;refine rE [.lit (.bool false)] [] [.tmp 2] ?_;simp only [go_sem,sbT];all_goals exact agA
def cmpV (x y:Int):Int:=if x<y then -1 else if y<x then 1 else 0
def sgQcm:Sg:=fun f args ls =>
  match f,args,ls with
  | 171,[.lit (.int .i64 x)],[]=>some (.lit (.bool false),[],True)
  | _,_,_=>none
theorem sgQcm_ok:SgOK Tryz.prog sgQcm:=by
  intro f args ls r ls' vc h hvc;unfold sgQcm at h;split at h <;> cases h
  exact ⟨(fnOK Tryz.func171 (by decide) rfl),nan_i _⟩
theorem cmp_i (x y:Int):FnS Tryz.prog 122 [.lit (.int .i64 x),.lit (.int .i64 y)] [] (.lit (.int .i64 (cmpV x y))) []:=by
  have hs:=sgQcm_ok;refine fo Tryz.func122 20 fun X hX=>?_;refine up 1 ?_;refine rK hs fun K hK=>?_;simp only [go_sem,sgQcm]
  refine eK ?_;refine rK hs fun K hK=>?_;simp only [go_sem,sgQcm]
  refine eK ?_;refine up 2 ?_;refine WA.cond rfl (fun h=>absurd h (by simp)) (fun h=>?_);refine up 3 ?_;refine WA.cond rfl (fun h=>absurd h (by simp)) (fun h=>?_);refine up 3 ?_;refine WA.cond rfl (fun h=>?_) (fun h=>?_)
  · have h1:x<y:=of_decide_eq_true h;have e:cmpV x y = -1:=if_pos h1;rw [e];refine up 1 ?_;refine rE [.lit (.int .i64 (-1))] [] [.tmp 4] ?_;simp only [go_sem,sbT];all_goals exact agA
  · have h1:¬ x<y:=of_decide_eq_false h;refine up 3 ?_;refine WA.cond rfl (fun h=>?_) (fun h=>?_)
    · have h2:y<x:=of_decide_eq_true h;have e:cmpV x y=1:=by unfold cmpV;rw [if_neg h1,if_pos h2]
      rw [e];refine up 1 ?_;refine rE [.lit (.int .i64 1)] [] [.tmp 4] ?_;simp only [go_sem,sbT];all_goals exact agA
    · have h2:¬ y<x:=of_decide_eq_false h;have e:cmpV x y=0:=by unfold cmpV;rw [if_neg h1,if_neg h2]
      rw [e];refine up 2 ?_;refine rE [.lit (.int .i64 0)] [] [.tmp 4] ?_;simp only [go_sem,sbT];all_goals exact agA
theorem or_i (y:Int):FnS Tryz.prog 121 [.li 1 [.lit (.int .i64 (-1)),.lit (.int .i64 y)]] [] (.lit (.int .i64 (-1))) []:=by
  have hs:=sg0_ok;have a1:((-1:Int) != 0)=true:=by decide
  refine fo Tryz.func121 18 fun X hX=>?_;refine up 5 ?_;refine WA.unroll 0 ?_;refine up 2 ?_;refine WA.cond rfl (fun h=>?_) (fun h=>absurd h (by simp));refine up 4 ?_;refine rK hs fun K hK=>?_;simp only [go_sem,a1]
  refine eK ?_;refine WA.cond rfl (fun h=>?_) (fun h=>absurd h (by simp));refine up 1 ?_;refine rE [.lit (.int .i64 (-1))] [] [.tmp 2] ?_;simp only [go_sem,sbT];all_goals exact agA
def sgQck2:Sg:=fun f args ls =>
  match f,args,ls with
  | 167,[.lit (.int .i64 x)],[]=>some (.lit (.bool (bif decide (x ≥ 2) then decide (x≤6) else false)),[],True)
  | 169,[.lit (.int .i64 x)],[]=>some (.lit (.bool (bif x == 2 then true else x == 3)),[],True)
  | 168,[.lit (.bool b),.lit (.int .i64 n)],[]=>some (.lit (.int .i64 (bif b then n else 0)),[],True)
  | 170,[.lit (.int .i64 x)],[]=>some (.lit (.bool (Ch.eltB x)),[],True)
  | _,_,_=>none
theorem sgQck2_ok:SgOK Tryz.prog sgQck2:=by
  intro f args ls r ls' vc h hvc;unfold sgQck2 at h;split at h <;> cases h
  · exact ⟨(fnOK Tryz.func167 (by decide) rfl),known_i _⟩
  · exact ⟨(fnOK Tryz.func169 (by decide) rfl),mapped_i _⟩
  · exact ⟨(fnOK Tryz.func168 (by decide) rfl),most_i _ _⟩
  · exact ⟨(fnOK Tryz.func170 (by decide) rfl),Ch.elt_s _⟩
def InfG (x:Inf):Prop:=x=⟨2,2,12,0,0⟩∨x=⟨3,2,0,0,0⟩∨(∃ k,x=⟨4,1,0,k,1⟩∧Ch.eltB k=true)∨x=⟨5,1,0,0,0⟩
theorem check_1:FnS Tryz.prog 120 [inA ⟨2,2,12,0,0⟩] [] (.lit (.int .i64 0)) []:=by
  have hs:=sgQck2_ok;unfold inA;refine fo Tryz.func120 62 fun X hX=>?_;refine up 4 ?_;refine rK hs fun K hK=>?_;simp only [go_sem,sgQck2]
  refine eK ?_;refine WA.cond rfl (fun h=>absurd h (by simp)) (fun h=>?_);refine up 1 ?_;refine WA.cond rfl (fun h=>absurd h (by simp)) (fun h=>?_);refine WA.drawnK mixed_ ty_ok hs (tbl:=tbSiA1) (nb:=[1,5,7,8,9]) (by kernel_rfl) fun K hK=>?_;simp only [go_sem,sgQck2]
  refine eK ?_;refine WA.cond rfl (fun h=>absurd h (by simp)) (fun h=>?_);refine WA.drawnK mixed_ ty_ok hs (tbl:=tbSiA0) (nb:=[1,5,7]) (by kernel_rfl) fun K hK=>?_;simp only [go_sem,sgQck2]
  refine eK ?_;refine WA.cond rfl (fun h=>absurd h (by simp)) (fun h=>?_);refine rK hs fun K hK=>?_;simp only [go_sem,sgQck2]
  refine eK ?_;refine WA.cond rfl (fun h=>absurd h (by simp)) (fun h=>?_);refine up 2 ?_;refine rE [.lit (.int .i64 0)] [] [.tmp 2] ?_;simp only [go_sem,sbT];all_goals exact agA
end
section
def tbSiB0:List (List Nat):=[[],[0],[0,1],[0,1,2],[0,1,2,3],[0,1,2,3,4],[0,1,2,3],[0,1,2,3,6],[0,1,2,3,4,5,6,7],[0,1,2,3,4,5,6,7,8],[0,1,2,3,4,5,6,7,8,9]]
def tbSiB1:List (List Nat):=[[],[0],[0,1],[0,1,2],[0,1,2,3],[0,1,2,3,4],[0,1,2,3],[0,1,2,3,6],[0,1,2,3,6,7],[0,1,2,3,6,7,8],[0,1,2,3,4,5,6,7,8,9],[0,1,2,3,4,5,6,7,8,9,10],[0,1,2,3,4,5,6,7,8,9,10,11]]
def tbSiB2:List (List Nat):=[[],[0],[0,1],[0,1,2],[0,1,2],[0,1,2,4],[0,1,2,3,4,5],[0,1,2,3,4,5,6],[0,1,2,3,4,5,6,7],[0,1,2],[0,1,2,9],[0,1,2,3,4,5,6,7,8,9,10],[0,1,2],[0,1,2],[0,1,2,13],[0,1,2,12,13,14],[0,1,2,12,13,14,15],[0,1,2,12,13,14,15,16],[0,1,2],[0,1,2,18],[0,1,2,3,4,5,6,7,8,9,10,11,12,13,14,15,16,17,18,19],[0,1,2,3,4,5,6,7,8,9,10,11,12,13,14,15,16,17,18,19,20],[0,1,2,3,4,5,6,7,8,9,10,11,12,13,14,15,16,17,18,19,20,21],[0,1,2,3,4,5,6,7,8,9,10,11,12,13,14,15,16,17,18,19,20,21,22],[0,1,2,3,4,5,6,7,8,9,10,11,12,13,14,15,16,17,18,19,20,21,22,23]]
attribute [local go_sem] gt_iff_lt ge_iff_le Int.reduceLT Int.reduceLE Int.reduceBEq Int.reduceBNe Int.reduceSub Int.reduceAdd decide_true decide_false Bool.not_true Bool.not_false cond_true cond_false Bool.false_eq_true Bool.true_eq_false if_true if_false
attribute [local go_sem] tbSiB0
attribute [local go_sem] tbSiB1
attribute [local go_sem] tbSiB2
theorem check_2:FnS Tryz.prog 120 [inA ⟨3,2,0,0,0⟩] [] (.lit (.int .i64 0)) []:=by
  have hs:=sgQck2_ok;unfold inA;refine fo Tryz.func120 62 fun X hX=>?_;refine up 4 ?_;refine rK hs fun K hK=>?_;simp only [go_sem,sgQck2]
  refine eK ?_;refine WA.cond rfl (fun h=>absurd h (by simp)) (fun h=>?_);refine up 1 ?_;refine WA.cond rfl (fun h=>absurd h (by simp)) (fun h=>?_);refine WA.drawnK mixed_ ty_ok hs (tbl:=tbSiB1) (nb:=[1,5,7,8,9]) (by kernel_rfl) fun K hK=>?_;simp only [go_sem,sgQck2]
  refine eK ?_;refine WA.cond rfl (fun h=>absurd h (by simp)) (fun h=>?_);refine WA.drawnK mixed_ ty_ok hs (tbl:=tbSiB0) (nb:=[1,5,7]) (by kernel_rfl) fun K hK=>?_;simp only [go_sem,sgQck2]
  refine eK ?_;refine WA.cond rfl (fun h=>absurd h (by simp)) (fun h=>?_);refine rK hs fun K hK=>?_;simp only [go_sem,sgQck2]
  refine eK ?_;refine WA.cond rfl (fun h=>absurd h (by simp)) (fun h=>?_);refine up 2 ?_;refine rE [.lit (.int .i64 0)] [] [.tmp 2] ?_;simp only [go_sem,sbT];all_goals exact agA
theorem check_3 (k:Int) (hk:Ch.eltB k=true):FnS Tryz.prog 120 [inA ⟨4,1,0,k,1⟩] [] (.lit (.int .i64 0)) []:=by
  have hs:=sgQck2_ok;unfold inA;refine fo Tryz.func120 62 fun X hX=>?_;refine up 4 ?_;refine rK hs fun K hK=>?_;simp only [go_sem,sgQck2]
  refine eK ?_;refine WA.cond rfl (fun h=>absurd h (by simp)) (fun h=>?_);refine up 1 ?_;refine WA.cond rfl (fun h=>absurd h (by simp)) (fun h=>?_);refine WA.drawnK mixed_ ty_ok hs (tbl:=tbSiB1) (nb:=[1,5,7,8,9]) (by kernel_rfl) fun K hK=>?_;simp only [go_sem,sgQck2]
  refine eK ?_;refine WA.cond rfl (fun h=>absurd h (by simp)) (fun h=>?_);refine WA.drawnK mixed_ ty_ok hs (tbl:=tbSiB0) (nb:=[1,5,7]) (by kernel_rfl) fun K hK=>?_;simp only [go_sem,sgQck2]
  refine eK ?_;refine WA.cond rfl (fun h=>absurd h (by simp)) (fun h=>?_);refine rK hs fun K hK=>?_;simp only [go_sem,sgQck2,hk]
  refine eK ?_;refine WA.cond rfl (fun h=>absurd h (by simp)) (fun h=>?_);refine up 2 ?_;refine rE [.lit (.int .i64 0)] [] [.tmp 2] ?_;simp only [go_sem,sbT];all_goals exact agA
theorem check_4:FnS Tryz.prog 120 [inA ⟨5,1,0,0,0⟩] [] (.lit (.int .i64 0)) []:=by
  have hs:=sgQck2_ok;unfold inA;refine fo Tryz.func120 62 fun X hX=>?_;refine up 4 ?_;refine rK hs fun K hK=>?_;simp only [go_sem,sgQck2]
  refine eK ?_;refine WA.cond rfl (fun h=>absurd h (by simp)) (fun h=>?_);refine up 1 ?_;refine WA.cond rfl (fun h=>absurd h (by simp)) (fun h=>?_);refine WA.drawnK mixed_ ty_ok hs (tbl:=tbSiB1) (nb:=[1,5,7,8,9]) (by kernel_rfl) fun K hK=>?_;simp only [go_sem,sgQck2]
  refine eK ?_;refine WA.cond rfl (fun h=>absurd h (by simp)) (fun h=>?_);refine WA.drawnK mixed_ ty_ok hs (tbl:=tbSiB0) (nb:=[1,5,7]) (by kernel_rfl) fun K hK=>?_;simp only [go_sem,sgQck2]
  refine eK ?_;refine WA.cond rfl (fun h=>absurd h (by simp)) (fun h=>?_);refine rK hs fun K hK=>?_;simp only [go_sem,sgQck2]
  refine eK ?_;refine WA.cond rfl (fun h=>absurd h (by simp)) (fun h=>?_);refine up 2 ?_;refine rE [.lit (.int .i64 0)] [] [.tmp 2] ?_;simp only [go_sem,sbT];all_goals exact agA
def sgQvi (k:Int):Sg:=fun f args ls =>
  match f,args,ls with
  | 120,[.agg l],[]=>some (.lit (.int .i64 0),[],∃ x,.agg l=inA x∧InfG x)
  | 122,[.lit (.int .i64 x),.lit (.int .i64 y)],[]=>some (.lit (.int .i64 (cmpV x y)),[],True)
  | 121,[.li 1 [.lit (.int .i64 a),.lit (.int .i64 b)]],[]=>some (.lit (.int .i64 (-1)),[],a = -1)
  | 121,[.any],[]=>some (.lit (.int .i64 0),[],False)
  | _,_,_=>none
theorem sgQvi_ok (k:Int):SgOK Tryz.prog (sgQvi k):=by
  intro f args ls r ls' vc h hvc;unfold sgQvi at h;split at h <;> cases h
  · obtain ⟨x,hx,h⟩:=hvc;rw [hx];refine ⟨(fnOK Tryz.func120 (by decide) rfl),?_⟩;rcases h with rfl | rfl | ⟨k,rfl,hk⟩ | rfl
    · exact check_1
    · exact check_2
    · exact check_3 k hk
    · exact check_4
  · exact ⟨(fnOK Tryz.func122 (by decide) rfl),cmp_i _ _⟩
  · obtain rfl:=hvc;exact ⟨(fnOK Tryz.func121 (by decide) rfl),or_i _⟩
  · exact hvc.elim
def l4 (k:Int):List Inf:=[⟨2,2,12,0,0⟩,⟨3,2,0,0,0⟩,⟨4,1,0,k,1⟩,⟨5,1,0,0,0⟩]
def l3 (k:Int):List Inf:=[⟨3,2,0,0,0⟩,⟨4,1,0,k,1⟩,⟨5,1,0,0,0⟩]
theorem ival_4 (k:Int) (hk:Ch.eltB k=true):FnS Tryz.prog 73 [.li 5 ((l4 k).map inA)] [] (.lit (.int .i64 0)) []:=by
  have hs:=sgQvi_ok k;have hT:=Tr_ins (l4 k);simp only [l4,List.map_cons,List.map_nil,inA] at hT;have c1:(∃ x,AV.agg [.lit (.int .i64 2),.lit (.int .i64 2),.lit (.int .i64 12),.lit (.int .i64 0),.lit (.int .i64 0)]=inA x∧InfG x)=True:=eq_true ⟨⟨2,2,12,0,0⟩,rfl,.inl rfl⟩;have c2:(∃ x,AV.agg [.lit (.int .i64 3),.lit (.int .i64 2),.lit (.int .i64 0),.lit (.int .i64 0),.lit (.int .i64 0)]=inA x∧InfG x)=True:=eq_true ⟨⟨3,2,0,0,0⟩,rfl,.inr (.inl rfl)⟩;have c3:(∃ x,AV.agg [.lit (.int .i64 4),.lit (.int .i64 1),.lit (.int .i64 0),.lit (.int .i64 k),.lit (.int .i64 1)]=inA x∧InfG x)=True:=eq_true ⟨⟨4,1,0,k,1⟩,rfl,.inr (.inr (.inl ⟨k,rfl,hk⟩))⟩;have c4:(∃ x,AV.agg [.lit (.int .i64 5),.lit (.int .i64 1),.lit (.int .i64 0),.lit (.int .i64 0),.lit (.int .i64 0)]=inA x∧InfG x)=True:=eq_true ⟨⟨5,1,0,0,0⟩,rfl,.inr (.inr (.inr rfl))⟩;simp only [l4,List.map_cons,List.map_nil,inA];refine fo Tryz.func73 47 fun X hX=>?_;refine up 3 ?_;refine WA.cond rfl (fun h=>absurd h (by simp)) (fun h=>?_);refine up 2 ?_;refine rK hs fun K hK=>?_;simp only [go_sem,hT]
  refine eK ?_;refine up 1 ?_;refine WA.loopW hX (fun k=>k) ((fun (i:Int)=>⟨[(0,.li 5 [.agg [.lit (.int .i64 2),.lit (.int .i64 2),.lit (.int .i64 12),.lit (.int .i64 0),.lit (.int .i64 0)],.agg [.lit (.int .i64 3),.lit (.int .i64 2),.lit (.int .i64 0),.lit (.int .i64 0),.lit (.int .i64 0)],.agg [.lit (.int .i64 4),.lit (.int .i64 1),.lit (.int .i64 0),.lit (.int .i64 k),.lit (.int .i64 1)],.agg [.lit (.int .i64 5),.lit (.int .i64 1),.lit (.int .i64 0),.lit (.int .i64 0),.lit (.int .i64 0)]]),(9,.li 5 [.agg [.lit (.int .i64 2),.lit (.int .i64 2),.lit (.int .i64 12),.lit (.int .i64 0),.lit (.int .i64 0)],.agg [.lit (.int .i64 3),.lit (.int .i64 2),.lit (.int .i64 0),.lit (.int .i64 0),.lit (.int .i64 0)],.agg [.lit (.int .i64 4),.lit (.int .i64 1),.lit (.int .i64 0),.lit (.int .i64 k),.lit (.int .i64 1)],.agg [.lit (.int .i64 5),.lit (.int .i64 1),.lit (.int .i64 0),.lit (.int .i64 0),.lit (.int .i64 0)]]),(10,.lit (.int .i64 4)),(11,.lit (.int .i64 i))],[],4000,47⟩:_→St)) (fun i=>(4-i).toNat) (fun i=>i=0∨i=1∨i=2∨i=3∨i=4) (i0:=0) (.inl rfl) (by simp only [go_sem,Int.natCast_add,hT] <;> (try and_intros) <;> (try omega)) fun i hi=>?_
  rcases hi with rfl | rfl | rfl | rfl | rfl
  ·
    refine up 2 ?_;refine WA.cond rfl (fun h=>?_) (fun h=>absurd h (by simp));refine up 3 ?_;refine rK hs fun K hK=>?_;simp only [go_sem,hT]
    refine eK ?_;refine up 1 ?_;refine rK hs fun K hK=>?_;simp only [go_sem,sgQvi,c1,c2,c3,c4]
    refine eK ?_;refine up 1 ?_;refine WA.cond rfl (fun h=>absurd h (by simp)) (fun h=>?_);refine up 1 ?_
    refine WA.drawnK mixed_ ty_ok hs (tbl:=tbSiB2) (nb:=[8,10,11,17,19,20,22]) (by kernel_rfl) fun K hK=>?_;simp only [go_sem,sgQvi,cmpV,hT]
    refine eK ?_;refine WA.cond rfl (fun h=>absurd h (by simp)) (fun h=>?_);refine up 1 ?_
    refine WA.regionE ty_ok hs fun K hK=>?_;simp only [go_sem,Int.reduceAdd]
    (repeat refine sdA ?_);refine hK _ (roundE hX (fun k=>k) (j:=(1:Int)) (by simp) (by first | omega | (dsimp only;omega) | (simp;omega)) (by simp only [go_sem,Int.natCast_add,hT] <;> (try and_intros) <;> (try omega)))
  ·
    refine up 2 ?_;refine WA.cond rfl (fun h=>?_) (fun h=>absurd h (by simp));refine up 3 ?_;refine rK hs fun K hK=>?_;simp only [go_sem,hT]
    refine eK ?_;refine up 1 ?_;refine rK hs fun K hK=>?_;simp only [go_sem,sgQvi,c1,c2,c3,c4]
    refine eK ?_;refine up 1 ?_;refine WA.cond rfl (fun h=>absurd h (by simp)) (fun h=>?_);refine up 1 ?_
    refine WA.drawnK mixed_ ty_ok hs (tbl:=tbSiB2) (nb:=[8,10,11,17,19,20,22]) (by kernel_rfl) fun K hK=>?_;simp only [go_sem,sgQvi,cmpV,hT]
    refine eK ?_;refine WA.cond rfl (fun h=>absurd h (by simp)) (fun h=>?_);refine up 1 ?_
    refine WA.regionE ty_ok hs fun K hK=>?_;simp only [go_sem,Int.reduceAdd]
    (repeat refine sdA ?_);refine hK _ (roundE hX (fun k=>k) (j:=(2:Int)) (by simp) (by first | omega | (dsimp only;omega) | (simp;omega)) (by simp only [go_sem,Int.natCast_add,hT] <;> (try and_intros) <;> (try omega)))
  ·
    refine up 2 ?_;refine WA.cond rfl (fun h=>?_) (fun h=>absurd h (by simp));refine up 3 ?_;refine rK hs fun K hK=>?_;simp only [go_sem,hT]
    refine eK ?_;refine up 1 ?_;refine rK hs fun K hK=>?_;simp only [go_sem,sgQvi,c1,c2,c3,c4]
    refine eK ?_;refine up 1 ?_;refine WA.cond rfl (fun h=>absurd h (by simp)) (fun h=>?_);refine up 1 ?_
    refine WA.drawnK mixed_ ty_ok hs (tbl:=tbSiB2) (nb:=[8,10,11,17,19,20,22]) (by kernel_rfl) fun K hK=>?_;simp only [go_sem,sgQvi,cmpV,hT]
    refine eK ?_;refine WA.cond rfl (fun h=>absurd h (by simp)) (fun h=>?_);refine up 1 ?_
    refine WA.regionE ty_ok hs fun K hK=>?_;simp only [go_sem,Int.reduceAdd]
    (repeat refine sdA ?_);refine hK _ (roundE hX (fun k=>k) (j:=(3:Int)) (by simp) (by first | omega | (dsimp only;omega) | (simp;omega)) (by simp only [go_sem,Int.natCast_add,hT] <;> (try and_intros) <;> (try omega)))
  ·
    refine up 2 ?_;refine WA.cond rfl (fun h=>?_) (fun h=>absurd h (by simp));refine up 3 ?_;refine rK hs fun K hK=>?_;simp only [go_sem,hT]
    refine eK ?_;refine up 1 ?_;refine rK hs fun K hK=>?_;simp only [go_sem,sgQvi,c1,c2,c3,c4]
    refine eK ?_;refine up 1 ?_;refine WA.cond rfl (fun h=>absurd h (by simp)) (fun h=>?_);refine up 1 ?_
    refine WA.drawnK mixed_ ty_ok hs (tbl:=tbSiB2) (nb:=[8,10,11,17,19,20,22]) (by kernel_rfl) fun K hK=>?_;simp only [go_sem,sgQvi,cmpV,hT]
    refine eK ?_;refine WA.cond rfl (fun h=>absurd h (by simp)) (fun h=>?_);refine up 1 ?_
    refine WA.regionE ty_ok hs fun K hK=>?_;simp only [go_sem,Int.reduceAdd]
    (repeat refine sdA ?_);refine hK _ (roundE hX (fun k=>k) (j:=(4:Int)) (by simp) (by first | omega | (dsimp only;omega) | (simp;omega)) (by simp only [go_sem,Int.natCast_add,hT] <;> (try and_intros) <;> (try omega)))
  ·
    refine up 2 ?_;refine WA.cond rfl (fun h=>absurd h (by simp)) (fun h=>?_);refine up 2 ?_;refine rE [.lit (.int .i64 0)] [] [.tmp 2] ?_;simp only [go_sem,sbT];all_goals exact agA
theorem ival_3 (k:Int) (hk:Ch.eltB k=true):FnS Tryz.prog 73 [.li 5 ((l3 k).map inA)] [] (.lit (.int .i64 0)) []:=by
  have hs:=sgQvi_ok k;have hT:=Tr_ins (l3 k);simp only [l3,List.map_cons,List.map_nil,inA] at hT;have c1:(∃ x,AV.agg [.lit (.int .i64 2),.lit (.int .i64 2),.lit (.int .i64 12),.lit (.int .i64 0),.lit (.int .i64 0)]=inA x∧InfG x)=True:=eq_true ⟨⟨2,2,12,0,0⟩,rfl,.inl rfl⟩;have c2:(∃ x,AV.agg [.lit (.int .i64 3),.lit (.int .i64 2),.lit (.int .i64 0),.lit (.int .i64 0),.lit (.int .i64 0)]=inA x∧InfG x)=True:=eq_true ⟨⟨3,2,0,0,0⟩,rfl,.inr (.inl rfl)⟩;have c3:(∃ x,AV.agg [.lit (.int .i64 4),.lit (.int .i64 1),.lit (.int .i64 0),.lit (.int .i64 k),.lit (.int .i64 1)]=inA x∧InfG x)=True:=eq_true ⟨⟨4,1,0,k,1⟩,rfl,.inr (.inr (.inl ⟨k,rfl,hk⟩))⟩;have c4:(∃ x,AV.agg [.lit (.int .i64 5),.lit (.int .i64 1),.lit (.int .i64 0),.lit (.int .i64 0),.lit (.int .i64 0)]=inA x∧InfG x)=True:=eq_true ⟨⟨5,1,0,0,0⟩,rfl,.inr (.inr (.inr rfl))⟩;simp only [l3,List.map_cons,List.map_nil,inA];refine fo Tryz.func73 47 fun X hX=>?_;refine up 3 ?_;refine WA.cond rfl (fun h=>absurd h (by simp)) (fun h=>?_);refine up 2 ?_;refine rK hs fun K hK=>?_;simp only [go_sem,hT]
  refine eK ?_;refine up 1 ?_;refine WA.loopW hX (fun k=>k) ((fun (i:Int)=>⟨[(0,.li 5 [.agg [.lit (.int .i64 3),.lit (.int .i64 2),.lit (.int .i64 0),.lit (.int .i64 0),.lit (.int .i64 0)],.agg [.lit (.int .i64 4),.lit (.int .i64 1),.lit (.int .i64 0),.lit (.int .i64 k),.lit (.int .i64 1)],.agg [.lit (.int .i64 5),.lit (.int .i64 1),.lit (.int .i64 0),.lit (.int .i64 0),.lit (.int .i64 0)]]),(9,.li 5 [.agg [.lit (.int .i64 3),.lit (.int .i64 2),.lit (.int .i64 0),.lit (.int .i64 0),.lit (.int .i64 0)],.agg [.lit (.int .i64 4),.lit (.int .i64 1),.lit (.int .i64 0),.lit (.int .i64 k),.lit (.int .i64 1)],.agg [.lit (.int .i64 5),.lit (.int .i64 1),.lit (.int .i64 0),.lit (.int .i64 0),.lit (.int .i64 0)]]),(10,.lit (.int .i64 3)),(11,.lit (.int .i64 i))],[],4000,47⟩:_→St)) (fun i=>(3-i).toNat) (fun i=>i=0∨i=1∨i=2∨i=3) (i0:=0) (.inl rfl) (by simp only [go_sem,Int.natCast_add,hT] <;> (try and_intros) <;> (try omega)) fun i hi=>?_
  rcases hi with rfl | rfl | rfl | rfl
  ·
    refine up 2 ?_;refine WA.cond rfl (fun h=>?_) (fun h=>absurd h (by simp));refine up 3 ?_;refine rK hs fun K hK=>?_;simp only [go_sem,hT]
    refine eK ?_;refine up 1 ?_;refine rK hs fun K hK=>?_;simp only [go_sem,sgQvi,c1,c2,c3,c4]
    refine eK ?_;refine up 1 ?_;refine WA.cond rfl (fun h=>absurd h (by simp)) (fun h=>?_);refine up 1 ?_
    refine WA.drawnK mixed_ ty_ok hs (tbl:=tbSiB2) (nb:=[8,10,11,17,19,20,22]) (by kernel_rfl) fun K hK=>?_;simp only [go_sem,sgQvi,cmpV,hT]
    refine eK ?_;refine WA.cond rfl (fun h=>absurd h (by simp)) (fun h=>?_);refine up 1 ?_
    refine WA.regionE ty_ok hs fun K hK=>?_;simp only [go_sem,Int.reduceAdd]
    (repeat refine sdA ?_);refine hK _ (roundE hX (fun k=>k) (j:=(1:Int)) (by simp) (by first | omega | (dsimp only;omega) | (simp;omega)) (by simp only [go_sem,Int.natCast_add,hT] <;> (try and_intros) <;> (try omega)))
  ·
    refine up 2 ?_;refine WA.cond rfl (fun h=>?_) (fun h=>absurd h (by simp));refine up 3 ?_;refine rK hs fun K hK=>?_;simp only [go_sem,hT]
    refine eK ?_;refine up 1 ?_;refine rK hs fun K hK=>?_;simp only [go_sem,sgQvi,c1,c2,c3,c4]
    refine eK ?_;refine up 1 ?_;refine WA.cond rfl (fun h=>absurd h (by simp)) (fun h=>?_);refine up 1 ?_
    refine WA.drawnK mixed_ ty_ok hs (tbl:=tbSiB2) (nb:=[8,10,11,17,19,20,22]) (by kernel_rfl) fun K hK=>?_;simp only [go_sem,sgQvi,cmpV,hT]
    refine eK ?_;refine WA.cond rfl (fun h=>absurd h (by simp)) (fun h=>?_);refine up 1 ?_
    refine WA.regionE ty_ok hs fun K hK=>?_;simp only [go_sem,Int.reduceAdd]
    (repeat refine sdA ?_);refine hK _ (roundE hX (fun k=>k) (j:=(2:Int)) (by simp) (by first | omega | (dsimp only;omega) | (simp;omega)) (by simp only [go_sem,Int.natCast_add,hT] <;> (try and_intros) <;> (try omega)))
  ·
    refine up 2 ?_;refine WA.cond rfl (fun h=>?_) (fun h=>absurd h (by simp));refine up 3 ?_;refine rK hs fun K hK=>?_;simp only [go_sem,hT]
    refine eK ?_;refine up 1 ?_;refine rK hs fun K hK=>?_;simp only [go_sem,sgQvi,c1,c2,c3,c4]
    refine eK ?_;refine up 1 ?_;refine WA.cond rfl (fun h=>absurd h (by simp)) (fun h=>?_);refine up 1 ?_
    refine WA.drawnK mixed_ ty_ok hs (tbl:=tbSiB2) (nb:=[8,10,11,17,19,20,22]) (by kernel_rfl) fun K hK=>?_;simp only [go_sem,sgQvi,cmpV,hT]
    refine eK ?_;refine WA.cond rfl (fun h=>absurd h (by simp)) (fun h=>?_);refine up 1 ?_
    refine WA.regionE ty_ok hs fun K hK=>?_;simp only [go_sem,Int.reduceAdd]
    (repeat refine sdA ?_);refine hK _ (roundE hX (fun k=>k) (j:=(3:Int)) (by simp) (by first | omega | (dsimp only;omega) | (simp;omega)) (by simp only [go_sem,Int.natCast_add,hT] <;> (try and_intros) <;> (try omega)))
  ·
    refine up 2 ?_;refine WA.cond rfl (fun h=>absurd h (by simp)) (fun h=>?_);refine up 2 ?_;refine rE [.lit (.int .i64 0)] [] [.tmp 2] ?_;simp only [go_sem,sbT];all_goals exact agA
end
structure NewK (p:Per) (s:Ch.Sto):Prop where
  k:PerK p
  fv:Fil.val p.root p.apps=0
  zl:(p.zone.size:Int)≤64
  nl:p.number.length≤16
  pl:p.pin.length≤16
  ul:p.puk.length≤16
  pr:1≤p.pr∧p.pr≤15
  ur:1≤p.ur∧p.ur≤15
  inf:∃ g,(p.infos=(l4 g).map inA∨p.infos=(l3 g).map inA)∧Ch.eltB g=true
  ck:0≤p.ck∧p.ck<1073741789
  ak:0≤p.ak∧p.ak<1073741789
  ps:p.pts=s.pts.map Ch.ptA
  da:p.date=s.now
  tv:Ch.validE s=0
  il:1≤p.ident.length∧p.ident.length≤32
  sl:p.seed.length≤64
def sgQcv (p:Per) (s:Ch.Sto):Sg:=fun f args ls =>
  match f,args,ls with
  | 72,[.agg [.li e1 xs,.li e2 ys]],[]=>some (.lit (.int .i64 0),[],e1=5∧e2=2∧xs=p.root.map Fil.flA∧ys=p.apps.map Fil.apA∧Fil.val p.root p.apps=0)
  | 73,[.li e xs],[]=>some (.lit (.int .i64 0),[],e=5 ∧ ∃ g,(xs=(l4 g).map inA∨xs=(l3 g).map inA)∧Ch.eltB g=true)
  | 74,[.lit (.int .i64 x)],[]=>some (.lit (.bool true),[],0≤x∧x<1073741789)
  | 75,[.agg [.li e xs,.lit (.int .i64 d)]],[]=>some (.lit (.int .i64 (Ch.validE s)),[],e=5∧xs=s.pts.map Ch.ptA∧d=s.now)
  | _,_,_=>none
theorem sgQcv_ok (p:Per) (s:Ch.Sto):SgOK Tryz.prog (sgQcv p s):=by
  intro f args ls r ls' vc h hvc;unfold sgQcv at h;split at h <;> cases h
  · obtain ⟨rfl,rfl,rfl,rfl,h⟩:=hvc;refine ⟨(fnOK Tryz.func72 (by decide) rfl),?_⟩;have:=Fil.valid_s p.root p.apps;rw [h] at this;exact this
  · obtain ⟨rfl,g,h,hg⟩:=hvc;refine ⟨(fnOK Tryz.func73 (by decide) rfl),?_⟩;rcases h with rfl | rfl
    · exact ival_4 g hg
    · exact ival_3 g hg
  · exact ⟨(fnOK Tryz.func74 (by decide) rfl),key_i _ hvc⟩
  · obtain ⟨rfl,rfl,rfl⟩:=hvc;exact ⟨(fnOK Tryz.func75 (by decide) rfl),Ch.valid_s s⟩
theorem cvalid_c (p:Per) (s:Ch.Sto) (h:NewK p s):FnS Tryz.prog 42 [.agg (perL p)] [] (.lit (.int .i64 0)) []:=by
  have hs:=sgQcv_ok p s;have o1:=eq_true h.k.ok.1;have o2:=eq_true h.k.ok.2;have c1:=h.fv;have c2:=eq_true h.inf;have c3:=h.ck;have c4:=h.ak;have c5:=h.ps;have c6:=h.da;have c7:=h.tv;have l1:=h.zl;have l2:=h.nl;have l3:=h.pl;have l4:=h.ul;have l5:=h.pr;have l6:=h.ur;have l7:=h.il;have l8:=h.sl;have a1:decide ((p.zone.size:Int) > 64)=false:=decide_eq_false (by omega);have a2:decide ((p.number.length:Int) > 16)=false:=decide_eq_false (by omega);have a3:decide ((p.pin.length:Int) > 16)=false:=decide_eq_false (by omega);have a4:decide ((p.puk.length:Int) > 16)=false:=decide_eq_false (by omega);have a5:decide (p.pr<1)=false:=decide_eq_false (by omega);have a6:decide (p.pr > 15)=false:=decide_eq_false (by omega);have a7:decide (p.ur<1)=false:=decide_eq_false (by omega);have a8:decide (p.ur > 15)=false:=decide_eq_false (by omega);have a9:decide ((p.ident.length:Int)<1)=false:=decide_eq_false (by omega);have b1:decide ((p.ident.length:Int) > 32)=false:=decide_eq_false (by omega);have b2:decide ((p.seed.length:Int) > 64)=false:=decide_eq_false (by omega);have z0:((0:Int) != 0)=false:=by decide
  unfold perL;refine fo Tryz.func42 89 fun X hX=>?_;refine up 2 ?_;refine rK hs fun K hK=>?_;simp only [go_sem,sgQcv,c1,Fil.Tr_fls,Fil.Tr_aps]
  refine eK ?_;refine rK hs fun K hK=>?_;simp only [go_sem,z0]
  refine eK ?_;refine up 3 ?_;refine rK hs fun K hK=>?_;simp only [go_sem,a1,a2,a3,a4]
  refine eK ?_;refine up 5 ?_;refine WA.unroll 2 ?_;refine up 7 ?_;refine rK hs fun K hK=>?_;simp only [go_sem,a5,a6]
  refine eK ?_;refine up 2 ?_
  refine WA.regionE ty_ok hs fun K hK=>?_;simp only [go_sem,true_and]
  (repeat refine sdA ?_);with_reducible refine hK _ (WN.mk ?_)
  clear hK K;repeat first | with_reducible refine WN.b ?_
  refine WN.r ?_;refine up 7 ?_;refine rK hs fun K hK=>?_;simp only [go_sem,a7,a8]
  refine eK ?_;refine up 2 ?_
  refine WA.regionE ty_ok hs fun K hK=>?_;simp only [go_sem,true_and]
  (repeat refine sdA ?_);with_reducible refine hK _ (WN.mk ?_)
  clear hK K;repeat first | with_reducible refine WN.b ?_
  refine WN.r ?_;refine up 5 ?_;refine rK hs fun K hK=>?_;simp only [go_sem,sgQcv,c2,o1]
  refine eK ?_;refine rK hs fun K hK=>?_;simp only [go_sem,z0]
  refine eK ?_;refine up 3 ?_;refine rK hs fun K hK=>?_;simp only [go_sem,sgQcv,c3,c4]
  refine eK ?_;refine up 3 ?_;refine rK hs fun K hK=>?_;simp only [go_sem,sgQcv,c5,c6,c7,o2]
  refine eK ?_;refine rK hs fun K hK=>?_;simp only [go_sem,z0]
  refine eK ?_;refine up 3 ?_;refine rK hs fun K hK=>?_;simp only [go_sem,a9,b1,b2]
  refine eK ?_;refine up 3 ?_;refine rE [.lit (.int .i64 0)] [] [.tmp 2] ?_;simp only [go_sem,sbT];all_goals exact agA
end Go.Proofs.YtjjkfpbkmhfckaaGreatDoor
