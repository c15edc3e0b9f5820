import Derived.Test.YtjjkfpbkmhfckaaGreatDoorK21
import Derived.Test.YtjjkfpbkmhfckaaGreatDoorK12
set_option linter.unusedVariables false
set_option linter.unusedSimpArgs false
set_option maxHeartbeats 1000000
set_option maxRecDepth 10000
namespace Go.Proofs.YtjjkfpbkmhfckaaGreatDoor
open Go.RowKit Go.TravelBase Go.TravelAbs
section
attribute [local irreducible] tagV consT longT
def sgTp:Sg:=fun f args ls =>
  match f,args,ls with
  | 177,[.ptr 0 0 0,.lit (.int .i64 e),.lit (.int .i64 d)],[.li 4 [.agg [.by_ B,.lit (.int .i64 p),.lit (.bool true),.lit (.int .i64 c)]]] =>
    some (.tup [.fr (.li 3 ((unW B).map fnA)),.lit (.int .i64 0)],[rdA B (B.length:Nat) ((unW B).length:Nat)],d=1∧e=(B.length:Nat)∧p=0∧c=0∧ObK (unW B)∧B=obW (unW B))
  | _,_,_=>none
theorem sgTp_ok:SgOK Tryz.prog sgTp:=by
  intro f args ls r ls' vc h hvc;unfold sgTp at h;split at h <;> cases h
  obtain ⟨rfl,rfl,rfl,rfl,h1,h2⟩:=hvc;rename_i B;have:=tobjs_s (unW B) h1;rw [← h2] at this;exact ⟨(fnOK Tryz.func177 (by decide) rfl),this⟩
theorem tparse_s (l:List Ob) (hl:ObK l):FnS Tryz.prog 129 [.by_ (obW l),.lit (.bool true)] [] (.tup [.fr (.li 3 (l.map fnA)),.lit (.int .i64 0)]) []:=by
  have hs:=sgTp_ok;have hW:=obW_len l fun x hx=>(hl.2 x hx).2;have hn:=hl.1;have hu:unW (obW l)=l:=unW_obW l hl;have hT:=Tr_rd (obW l);have hTl:TrC (.li 3 (l.map fnA))=True:=eq_true (TrC.li fun x hx y hy=>by
    obtain ⟨f,_,rfl⟩:=List.mem_map.1 hx;simp only [fnA,AV.cl,List.mem_cons,List.not_mem_nil,or_false] at hy;rcases hy with rfl | rfl | rfl
    · exact Tr.lit _
    · exact Tr.by_ _
    · exact Tr.lit _)
  have hu2:(obW l=obW (unW (obW l)))=True:=eq_true (by rw [hu]);obtain ⟨B,hB⟩:∃ B,obW l=B:=⟨_,rfl⟩;rw [hB] at hW hu;rw [hB];have hlk:ObK l:=hl;have hB2:(B=obW l)=True:=eq_true hB.symm;refine fo Tryz.func129 18 fun X hX=>?_;refine up 3 ?_;refine WA.cond rfl (fun h=>absurd h (by simp;omega)) (fun h=>?_);refine up 2 ?_;refine rK hs fun K hK=>?_;simp only [go_sem,sgTp,rdA,hu,hT,hTl,hlk,hB2,List.length_map]
  refine eK ?_;refine rE [.fr (.li 3 (l.map fnA)),.lit (.int .i64 0)] [] [.tmp 4,.tmp 5] ?_;simp only [go_sem,sbT,hTl,List.length_map];all_goals exact agA
end
theorem tfind1_s (x:Ob) (t:Int):FnS Tryz.prog 179 [fnA x,.ep (.lit (.int .i64 t)) 0] [] (.lit (.bool (x.1 == t))) []:=by
  have hs:=sg0_ok;unfold fnA;refine fo Tryz.func179 8 fun X hX=>?_;refine up 2 ?_;refine rE [.lit (.bool (x.1 == t))] [] [.tmp 3] ?_;simp only [go_sem,sbT];all_goals exact agA
open Classical in
noncomputable def sg_idxO_s (g:FuncId) (y:AV) (p:Ob→Bool):Sg:=fun f args ls =>
  match args,ls with
  | [.agg [.lit (.int .i64 a),.by_ b,.lit (.slice none 0 0)],z],[]=>if f=g∧z = .ep y 0 then some (.lit (.bool (p (a,b))),[],True) else none
  | _,_=>none
theorem sg_idxO_s_ok (g:FuncId) (y:AV) (p:Ob→Bool) (hok:FnOK Tryz.prog g) (hp:∀ x,FnS Tryz.prog g [fnA x,.ep y 0] [] (.lit (.bool (p x))) []):SgOK Tryz.prog (sg_idxO_s g y p):=by
  intro f args ls r ls' vc h hvc;unfold sg_idxO_s at h;split at h
  · split at h
    · rename_i hc;obtain ⟨rfl,rfl⟩:=hc;simp only [Option.some.injEq,Prod.mk.injEq] at h;obtain ⟨rfl,rfl,rfl⟩:=h;refine ⟨hok,?_⟩;exact hp (_,_)
    · cases h
  · cases h
theorem idxO_s (g:FuncId) (y:AV) (p:Ob→Bool) (l:List Ob) (hok:FnOK Tryz.prog g) (hT:Tr (.ep y 0)=True) (hp:∀ x,FnS Tryz.prog g [fnA x,.ep y 0] [] (.lit (.bool (p x))) []):FnS Tryz.prog 178 [.li 3 (l.map fnA),.clo g [.ep y 0]] [] (.lit (.int .i64 (fdx p l))) []:=by
  have hs:=sg_idxO_s_ok g y p hok hp;refine FnS.len fun hL _=>?_;have hL:=hL 0 3 _ rfl;rw [List.length_map] at hL;simp only [maxLen] at hL;have hcT:Tr (.clo g [.ep y 0])=True:=eq_true (Tr.clo fun x hx=>by
    simp only [List.mem_cons,List.not_mem_nil,or_false] at hx;subst hx;exact of_eq_true hT)
  refine fo Tryz.func178 19 fun X hX=>?_;refine up 4 ?_;refine WA.loopW hX (fun k=>k) ((fun (i:Nat)=>⟨[(0,.li 3 (l.map fnA)),(1,.clo g [.ep y 0]),(7,.lit (.int .i64 (l.length:Nat))),(8,.lit (.int .i64 (i:Nat)))],[],3000,19⟩:_→St)) (fun i=>l.length-i) (fun i=>i≤l.length ∧ ∀ j (hj:j<i) (hl:j<l.length),p l[j]=false) (i0:=0) (⟨by omega,fun j hj=>by omega⟩) (by simp only [go_sem,Int.natCast_add,Tr_fns,hcT] <;> (try and_intros) <;> (try omega)) fun i hi=>?_
  obtain ⟨hi,hno⟩:=hi;refine up 2 ?_;refine WA.cond rfl (fun h=>?_) (fun h=>?_)
  ·
    refine up 1 ?_
    have h6:i<l.length:=by have:=of_decide_eq_true h;omega
    have g1:=fn_at h6;clear h;refine up 3 ?_;refine rK hs fun K hK=>?_;simp only [go_sem,sg_idxO_s,g1,hT,Tr_fns]
    refine eK ?_;refine WA.cond rfl (fun h=>?_) (fun h=>?_)
    ·
      have e:fdx p l=i:=fdx_yes h6 h (fun j hj=>hno j hj (by omega));refine up 1 ?_;refine rE [.lit (.int .i64 (fdx p l))] [] [.tmp 4] ?_;simp only [go_sem,sbT,e]
    ·
      refine up 1 ?_
      refine WA.regionE ty_ok hs fun K hK=>?_;simp only [go_sem,true_and];and_intros
      all_goals try omega
      refine hK _ (roundE hX (fun k=>k) (j:=i+1) (⟨by omega,fun j hj hl=>by rcases Nat.lt_succ_iff_lt_or_eq.1 hj with q | rfl;exact hno j q hl;exact h⟩) (by first | omega | (dsimp only;omega) | (simp;omega)) (by simp only [go_sem,Int.natCast_add,Tr_fns,hcT] <;> (try and_intros) <;> (try omega)))
  ·
    have h6:i=l.length:=by have:=of_decide_eq_false h;omega
    subst h6;have e:fdx p l = -1:=fdx_no fun j hj=>hno j hj hj;refine up 2 ?_;refine rE [.lit (.int .i64 (fdx p l))] [] [.tmp 4] ?_;simp only [go_sem,sbT,e]
theorem tclone_s (x:Ob) (h:x.2.length≤100):FnS Tryz.prog 180 [fnA x] [] (fnA x) []:=by
  have hs:=sgCl_ok;obtain ⟨t,v⟩:=x;simp only at h
  have h2:v.length≤140737488355328:=by omega
  have ht:List.take v.length v=v:=List.take_length;unfold fnA;refine fo Tryz.func180 28 fun X hX=>?_;refine up 1 ?_;refine WA.drawnH mixed_ ty_ok hs (tbl:=[[],[0],[],[2],[2,3],[0,1,2,3,4],[],[0,1,2,3,4,5,6]]) (nb:=[1,3,4,7]) (hk:=[[],[],[],[],[],[],[],[]]) (by kernel_rfl) fun K hK=>?_;simp only [go_sem,sgCl,h2]
  refine eK ?_;refine up 3 ?_;refine WA.loopW hX (fun k=>if k=3000 then 2000 else if k=3001 then 2008 else if k=3002 then 2064 else if k=3003 then 2048 else k) ((fun (i:Nat)=>⟨[(2,.ptr 3001 0 0),(3,.ptr 3002 0 0),(13,.lit (.slice none 0 0)),(14,.lit (.int .i64 0)),(15,.lit (.int .i64 0))],[(3001,⟨.li 3 [.agg [.lit (.int .i64 0),.lit (.slice none 0 0),.lit (.slice none 0 0)]],0,false⟩),(3002,⟨.li 3 [.agg [.lit (.int .i64 t),.sl 3003 1 0 v.length,.lit (.slice none 0 0)]],0,false⟩),(3003,⟨.by_ v,0,false⟩)],4000,28⟩:_→St)) (fun i=>0) (fun i=>True) (i0:=0) (trivial) (by simp only [go_sem,Int.natCast_add,true_and] <;> (try and_intros) <;> (try omega)) fun i hi=>?_
  refine up 2 ?_;refine WA.cond rfl (fun h=>absurd h (by simp)) (fun h=>?_);refine up 2 ?_;refine rE [.agg [.lit (.int .i64 t),.by_ v,.lit (.slice none 0 0)]] [] [.cell 2 119] ?_;simp only [go_sem,sbT,ht];all_goals exact agA
def sgTf:Sg:=fun f args ls =>
  match f,args,ls with
  | 178,[.li 3 xs,.clo 179 [.ep (.lit (.int .i64 t)) 0]],[]=>some (.lit (.int .i64 (fdx (fun x=>x.1 == t) (xs.map unO))),[],xs=(xs.map unO).map fnA)
  | 180,[.agg [.lit (.int .i64 t),.by_ v,.lit (.slice none 0 0)]],[]=>some (.agg [.lit (.int .i64 t),.by_ v,.lit (.slice none 0 0)],[],v.length≤100)
  | _,_,_=>none
theorem sgTf_ok:SgOK Tryz.prog sgTf:=by
  intro f args ls r ls' vc h hvc;unfold sgTf at h;split at h <;> cases h
  · rename_i xs t;have:=idxO_s 179 (.lit (.int .i64 t)) (fun x=>x.1 == t) (xs.map unO) (fnOK Tryz.func179 (by decide) rfl) (eq_true (Tr.ep fun y hy=>by
      simp only [AV.cl,List.mem_singleton] at hy;subst hy;exact Tr.lit _)) (fun x=>tfind1_s x t)
    rw [← hvc] at this;exact ⟨(fnOK Tryz.func178 (by decide) rfl),this⟩
  · rename_i t v;exact ⟨(fnOK Tryz.func180 (by decide) rfl),tclone_s (t,v) hvc⟩
theorem fdx_at {T:Type} {p:T→Bool} {l:List T} (h:∃ x∈l,p x=true):∃ (i:Nat) (hi:i<l.length),fdx p l=i∧p l[i]=true:=by
  have h1:l.findIdx p<l.length:=List.findIdx_lt_length.2 h;exact ⟨l.findIdx p,h1,by unfold fdx;rw [if_pos h1],List.findIdx_getElem⟩
theorem tfind_s (l:List Ob) (t:Int) (hl:ObK l) (h:∃ x∈l,x.1=t):∃ x:Ob,FnS Tryz.prog 130 [.li 3 (l.map fnA),.li 1 [.lit (.int .i64 t)]] [] (.tup [fnA x,.lit (.bool true)]) []:=by
  obtain ⟨j,hj,e1,e2⟩:=fdx_at (p:=fun x:Ob=>x.1 == t) (l:=l) (by
    obtain ⟨x,hx,rfl⟩:=h;exact ⟨x,hx,by simp⟩)
  refine ⟨l[j],?_⟩;have hs:=sgTf_ok;have g:=fn_at hj;obtain ⟨hk,hv⟩:=hl.2 _ (List.getElem_mem hj);have hT:=Tr_fns l;have hn:=hl.1;have hC:Tr (.clo 179 [.ep (.lit (.int .i64 t)) 0])=True:=eq_true (Tr.clo fun x hx=>by
    rw [List.mem_singleton] at hx;subst hx;exact Tr.ep fun y hy=>by
      simp only [AV.cl,List.mem_singleton] at hy;subst hy;exact Tr.lit _)
  have hE:TrC (.li 1 [.lit (.int .i64 t)])=True:=eq_true (TrC.li fun x hx y hy=>by
    rw [List.mem_singleton] at hx;subst hx;simp only [AV.cl,List.mem_singleton] at hy;subst hy;exact Tr.lit _)
  generalize l[j]=x at g hk hv;obtain ⟨tt,v⟩:=x;simp only at g hv
  unfold fnA;have hA:(l.map fun x:Ob=>AV.agg [.lit (.int .i64 x.1),.by_ x.2,.lit (.slice none 0 0)])=l.map fnA:=rfl;rw [hA];refine fo Tryz.func130 34 fun X hX=>?_;refine up 5 ?_;refine WA.loopW hX (fun k=>if k=3000 then 2016 else if k=3001 then 2000 else k) ((fun (i:Nat)=>⟨[(0,if i=0 then .li 3 (l.map fnA) else .lit (.slice none 0 0)),(1,.li 1 [.lit (.int .i64 t)]),(4,.ptr 3001 0 0),(6,.ptr 3000 0 0),(10,.li 1 [.lit (.int .i64 t)]),(11,.lit (.int .i64 1)),(12,.lit (.int .i64 (i:Nat)))],[(3001,⟨.li 3 [.agg [.lit (.int .i64 0),.lit (.slice none 0 0),.lit (.slice none 0 0)]],0,false⟩),(3000,⟨.li 3 [if i=0 then .agg [.lit (.int .i64 0),.lit (.slice none 0 0),.lit (.slice none 0 0)] else .agg [.lit (.int .i64 tt),.by_ v,.lit (.slice none 0 0)]],0,false⟩)],4000,34⟩:_→St)) (fun i=>1-i) (fun i=>i≤1) (i0:=0) (Nat.zero_le _) (by simp only [go_sem,Int.natCast_add,Int.natCast_zero,if_true,hT] <;> (try and_intros) <;> (try omega)) fun i hi=>?_
  rcases (show i=0∨i=1 by omega) with rfl | rfl
  ·
    simp only [if_true];refine rK hs fun K hK=>?_;simp only [go_sem,Int.natCast_zero]
    refine eK ?_;refine up 1 ?_;refine WA.cond rfl (fun h=>?_) (fun h=>absurd h (by simp));refine up 4 ?_;refine rK hs fun K hK=>?_;simp only [go_sem,sgTf,hC,hT,un_fns,e1]
    refine eK ?_;refine up 2 ?_;refine WA.cond rfl (fun h=>absurd h (by first | (simp;done) | (simp;omega))) (fun h=>?_)
    refine up 1 ?_
    refine rK hs fun K hK=>?_;simp only [go_sem,g,List.length_map]
    refine eK ?_;refine up 1 ?_
    refine WA.regionE ty_ok hs fun K hK=>?_;simp only [go_sem,true_and]
    (repeat refine sdA ?_);have e3:¬ ((0:Nat)+1=0):=by omega
    refine hK _ (roundE hX (fun k=>k) (j:=0+1) (by omega) (by first | omega | (dsimp only;omega) | (simp;omega)) (by simp only [go_sem,Int.natCast_add,if_neg e3,Int.natCast_zero,Int.natCast_one] <;> (try and_intros) <;> (try omega)))
  ·
    have e3:¬ ((1:Nat)=0):=by omega
    simp only [if_neg e3];refine rK hs fun K hK=>?_;simp only [go_sem,Int.natCast_one]
    refine eK ?_;refine up 1 ?_;refine WA.cond rfl (fun h=>absurd h (by simp)) (fun h=>?_);refine up 1 ?_
    refine rK hs fun K hK=>?_;simp only [go_sem,sgTf,hv]
    refine eK ?_;refine rE [.agg [.lit (.int .i64 tt),.by_ v,.lit (.slice none 0 0)],.lit (.bool true)] [] [.cell 4 119,.tmp 5] ?_;simp only [go_sem,sbT];all_goals exact agA
end Go.Proofs.YtjjkfpbkmhfckaaGreatDoor
