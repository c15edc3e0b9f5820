import Derived.Test.YtjjkfpbkmhfckaaGreatDoorK06
import Derived.Test.YtjjkfpbkmhfckaaGreatDoorK08
import Derived.Test.YtjjkfpbkmhfckaaGreatDoorK09
set_option linter.unusedVariables false
set_option linter.unusedSimpArgs false
set_option maxHeartbeats 1000000
set_option maxRecDepth 10000
namespace Go.Proofs.YtjjkfpbkmhfckaaGreatDoor
open Go.RowKit Go.TravelBase Go.TravelAbs
@[go_sem] theorem arr0:(List.toArray ([]:List Operand)).isEmpty=true:=rfl
def fdx {T:Type} (p:T→Bool) (l:List T):Int:=if l.findIdx p<l.length then (l.findIdx p:Int) else -1
theorem fdx_yes {T:Type} {p:T→Bool} {l:List T} {i:Nat} (h:i<l.length) (h1:p l[i]=true) (h2:∀ j (hj:j<i),p (l[j]'(by omega))=false):fdx p l=i:=by
  have e:l.findIdx p=i:=(List.findIdx_eq h).2 ⟨h1,h2⟩;unfold fdx;rw [e,if_pos h]
theorem fdx_no {T:Type} {p:T→Bool} {l:List T} (h2:∀ j (hj:j<l.length),p l[j]=false):fdx p l = -1:=by
  have e:l.findIdx p=l.length:=List.findIdx_eq_length.2 fun x hx=>by
    obtain ⟨j,hj,rfl⟩:=List.getElem_of_mem hx;exact h2 j hj
  unfold fdx;rw [e,if_neg (Nat.lt_irrefl _)]
theorem fdx_any {T:Type} (p:T→Bool) (l:List T):decide (fdx p l ≥ 0)=l.any p:=by
  unfold fdx;cases h:l.any p with
  | true =>
    have h1:l.findIdx p<l.length:=List.findIdx_lt_length.2 (by simpa using h);rw [if_pos h1];simp
  | false =>
    have h1:¬ l.findIdx p<l.length:=fun h2=>by
      have:=List.findIdx_lt_length.1 h2;simp at h;obtain ⟨x,hx,hp⟩:=this;rw [h x hx] at hp;cases hp
    rw [if_neg h1];rfl
end Go.Proofs.YtjjkfpbkmhfckaaGreatDoor
namespace Go.Proofs.YtjjkfpbkmhfckaaGreatDoor.Ch
open Go.RowKit Go.TravelBase Go.TravelAbs
def unT:AV→Pt
  | .agg [.lit (.string a),.lit (.int _ b),.lit (.int _ c),.lit (.int _ d),.lit (.int _ e)]=>⟨a.data.toList,b,c,d,e⟩
  | _=>⟨[],0,0,0,0⟩
theorem un_pt (p:Pt):unT (ptA p)=p:=rfl
theorem un_pts (l:List Pt):(l.map ptA).map unT=l:=by
  rw [List.map_map];exact (List.map_congr_left fun x _=>un_pt x).trans (List.map_id _)
theorem Tr_ptA (p:Pt):Tr (ptA p):=Tr.agg fun x hx=>by
  simp only [List.mem_cons,List.not_mem_nil,or_false] at hx;rcases hx with rfl | rfl | rfl | rfl | rfl <;> exact Tr.lit _
theorem Tr_pts (l:List Pt):Tr (.li 5 (l.map ptA))=True:=eq_true (Tr.li fun x hx y hy=>by
  obtain ⟨f,_,rfl⟩:=List.mem_map.1 hx;simp only [ptA,AV.cl,List.mem_cons,List.not_mem_nil,or_false] at hy;rcases hy with rfl | rfl | rfl | rfl | rfl <;> exact Tr.lit _)
theorem pt_at {l:List Pt} {i:Nat} (h:i<l.length):(l.map ptA).getD i .any = .agg [.lit (.string (strB l[i].h)),.lit (.int .i64 l[i].key),.lit (.int .i64 l[i].rt),.lit (.int .i64 l[i].fr),.lit (.int .i64 l[i].til)]:=by
  simp [List.getD,List.getElem?_eq_getElem h,ptA]
theorem Tr_eps (s:ByteArray):Tr (.ep (.lit (.string s)) 0)=True:=eq_true (Tr.ep fun y hy=>by
  simp only [AV.cl,List.mem_cons,List.not_mem_nil,or_false] at hy;subst hy;exact Tr.lit _)
open Classical in
noncomputable def sg_idxT_s (g:FuncId) (y:AV) (p:Pt→Bool):Sg:=fun f args ls =>
  match args,ls with
  | [.agg [.lit (.string a),.lit (.int .i64 b),.lit (.int .i64 c),.lit (.int .i64 d),.lit (.int .i64 e)],z],[]=>if f=g∧z = .ep y 0 then some (.lit (.bool (p ⟨a.data.toList,b,c,d,e⟩)),[],True) else none
  | _,_=>none
theorem sg_idxT_s_ok (g:FuncId) (y:AV) (p:Pt→Bool) (hok:FnOK Tryz.prog g) (hp:∀ x,FnS Tryz.prog g [ptA x,.ep y 0] [] (.lit (.bool (p x))) []):SgOK Tryz.prog (sg_idxT_s g y p):=by
  intro f args ls r ls' vc h hvc;unfold sg_idxT_s at h;split at h
  · split at h
    · rename_i hc;obtain ⟨rfl,rfl⟩:=hc;simp only [Option.some.injEq,Prod.mk.injEq] at h;obtain ⟨rfl,rfl,rfl⟩:=h;refine ⟨hok,?_⟩;exact hp ⟨_,_,_,_,_⟩
    · cases h
  · cases h
theorem idxT_s (g:FuncId) (y:AV) (p:Pt→Bool) (l:List Pt) (hok:FnOK Tryz.prog g) (hT:Tr (.ep y 0)=True) (hp:∀ x,FnS Tryz.prog g [ptA x,.ep y 0] [] (.lit (.bool (p x))) []):FnS Tryz.prog 217 [.li 5 (l.map ptA),.clo g [.ep y 0]] [] (.lit (.int .i64 (fdx p l))) []:=by
  have hs:=sg_idxT_s_ok g y p hok hp;refine FnS.len fun hL _=>?_;have hL:=hL 0 5 _ rfl;rw [List.length_map] at hL;simp only [maxLen] at hL;have hcT:Tr (.clo g [.ep y 0])=True:=eq_true (Tr.clo fun x hx=>by
    simp only [List.mem_cons,List.not_mem_nil,or_false] at hx;subst hx;exact of_eq_true hT)
  refine fo Tryz.func217 19 fun X hX=>?_;refine up 4 ?_;refine WA.loopW hX (fun k=>k) ((fun (i:Nat)=>⟨[(0,.li 5 (l.map ptA)),(1,.clo g [.ep y 0]),(7,.lit (.int .i64 (l.length:Nat))),(8,.lit (.int .i64 (i:Nat)))],[],3000,19⟩:_→St)) (fun i=>l.length-i) (fun i=>i≤l.length ∧ ∀ j (hj:j<i) (hl:j<l.length),p l[j]=false) (i0:=0) (⟨by omega,fun j hj=>by omega⟩) (by simp only [go_sem,Int.natCast_add,Tr_pts,hcT] <;> (try and_intros) <;> (try omega)) fun i hi=>?_
  obtain ⟨hi,hno⟩:=hi;refine up 2 ?_;refine WA.cond rfl (fun h=>?_) (fun h=>?_)
  ·
    refine up 1 ?_
    have h6:i<l.length:=by have:=of_decide_eq_true h;omega
    have g1:=pt_at h6;clear h;refine up 3 ?_;refine rK hs fun K hK=>?_;simp only [go_sem,sg_idxT_s,g1,hT,Tr_pts,strB_list]
    refine eK ?_;refine WA.cond rfl (fun h=>?_) (fun h=>?_)
    ·
      have e:fdx p l=i:=fdx_yes h6 h (fun j hj=>hno j hj (by omega));refine up 1 ?_;refine rE [.lit (.int .i64 (fdx p l))] [] [.tmp 4] ?_;simp only [go_sem,sbT,e]
    ·
      refine up 1 ?_
      refine WA.regionE ty_ok hs fun K hK=>?_;simp only [go_sem,true_and];and_intros
      all_goals try omega
      refine hK _ (roundE hX (fun k=>k) (j:=i+1) (⟨by omega,fun j hj hl=>by rcases Nat.lt_succ_iff_lt_or_eq.1 hj with q | rfl;exact hno j q hl;exact h⟩) (by first | omega | (dsimp only;omega) | (simp;omega)) (by simp only [go_sem,Int.natCast_add,Tr_pts,hcT] <;> (try and_intros) <;> (try omega)))
  ·
    have h6:i=l.length:=by have:=of_decide_eq_false h;omega
    subst h6;have e:fdx p l = -1:=fdx_no fun j hj=>hno j hj hj;refine up 2 ?_;refine rE [.lit (.int .i64 (fdx p l))] [] [.tmp 4] ?_;simp only [go_sem,sbT,e]
open Classical in
noncomputable def sg_ctxT_s (g:FuncId) (y:AV) (p:Pt→Bool):Sg:=fun f args ls =>
  match f,args,ls with
  | 217,[.li es xs,.clo g' [.ep y' 0]],[]=>if g'=g∧y'=y then some (.lit (.int .i64 (fdx p (xs.map unT))),[],es=5∧xs=(xs.map unT).map ptA) else none
  | _,_,_=>none
theorem ctxT_s (g:FuncId) (y:AV) (p:Pt→Bool) (l:List Pt) (hok:FnOK Tryz.prog g) (hT:Tr (.ep y 0)=True) (hp:∀ x,FnS Tryz.prog g [ptA x,.ep y 0] [] (.lit (.bool (p x))) []):FnS Tryz.prog 174 [.li 5 (l.map ptA),.clo g [.ep y 0]] [] (.lit (.bool (l.any p))) []:=by
  have hs:SgOK Tryz.prog (sg_ctxT_s g y p):=by
    intro f args ls r ls' vc h hvc;unfold sg_ctxT_s at h;split at h
    · split at h
      · rename_i hc;obtain ⟨rfl,rfl⟩:=hc;simp only [Option.some.injEq,Prod.mk.injEq] at h;obtain ⟨rfl,rfl,rfl⟩:=h;rename_i es xs g' y';obtain ⟨rfl,h2⟩:=hvc;refine ⟨(fnOK Tryz.func217 (by decide) rfl),?_⟩;have:=idxT_s g' y' p (xs.map unT) hok hT hp;rw [← h2] at this;exact this
      · cases h
    · cases h
  have hcT:Tr (.clo g [.ep y 0])=True:=eq_true (Tr.clo fun x hx=>by
    simp only [List.mem_cons,List.not_mem_nil,or_false] at hx;subst hx;exact of_eq_true hT)
  have e:=fdx_any p l;refine fo Tryz.func174 9 fun X hX=>?_;refine up 1 ?_;refine rK hs fun K hK=>?_;simp only [go_sem,sg_ctxT_s,Tr_pts,hcT,hT,un_pts]
  refine eK ?_;refine rE [.lit (.bool (l.any p))] [] [.tmp 4] ?_;simp only [go_sem,sbT,e]
def hasP (n:List UInt8) (p:Pt):Bool:=p.h == n
def hasB (l:List Pt) (n:List UInt8):Bool:=l.any (hasP n)
theorem has1_s (n:List UInt8) (p:Pt):FnS Tryz.prog 175 [ptA p,.ep (.lit (.string (strB n))) 0] [] (.lit (.bool (hasP n p))) []:=by
  have hs:=sg0_ok;unfold ptA;refine fo Tryz.func175 8 fun X hX=>?_;refine rK hs fun K hK=>?_;simp only [go_sem,Tr_eps]
  refine eK ?_;refine rK hs fun K hK=>?_;simp only [go_sem,strB_toList,Tr_eps]
  refine eK ?_;refine rE [.lit (.bool (hasP n p))] [] [.tmp 3] ?_;simp only [go_sem,sbT,Tr_eps];all_goals rfl
def sgHs:Sg:=fun f args ls =>
  match f,args,ls with
  | 174,[.li es xs,.clo 175 [.ep (.lit (.string s)) 0]],[]=>some (.lit (.bool ((xs.map unT).any (hasP s.data.toList))),[],es=5∧xs=(xs.map unT).map ptA)
  | _,_,_=>none
theorem sgHs_ok:SgOK Tryz.prog sgHs:=by
  intro f args ls r ls' vc h hvc;unfold sgHs at h;split at h <;> cases h
  obtain ⟨rfl,h2⟩:=hvc;refine ⟨(fnOK Tryz.func174 (by decide) rfl),?_⟩;rename_i xs s;have:=ctxT_s 175 (.lit (.string s)) (hasP s.data.toList) (xs.map unT) (fnOK Tryz.func175 (by decide) rfl) (Tr_eps _) (fun p=>has1_s s.data.toList p);rw [← h2] at this;exact this
theorem has_s (l:List Pt) (n:List UInt8):FnS Tryz.prog 124 [.li 5 (l.map ptA),.lit (.string (strB n))] [] (.lit (.bool (hasB l n))) []:=by
  have hs:=sgHs_ok;refine fo Tryz.func124 8 fun X hX=>?_;refine rK hs fun K hK=>?_;simp only [go_sem,Tr_pts]
  refine eK ?_;refine rK hs fun K hK=>?_;simp only [go_sem,sgHs,Tr_pts,un_pts,strB_list,Tr_eps]
  refine eK ?_;refine rE [.lit (.bool (hasB l n))] [] [.tmp 4] ?_;simp only [go_sem,sbT,Tr_pts];all_goals rfl
structure Sto where
  pts:List Pt
  now:Int
def stoA (s:Sto):AV:=.agg [.li 5 (s.pts.map ptA),.lit (.int .i64 s.now)]
def firE:List Pt→Int
  | []=>0
  | p::r=>if pointE p=0 then firE r else pointE p
theorem firE_no:∀ {l:List Pt},(∀ j (hj:j<l.length),pointE l[j]=0)→firE l=0
  | [],_=>rfl
  | p::r,h=>by
    have h0:=h 0 (by simp);simp only [List.getElem_cons_zero] at h0;rw [firE,if_pos h0];exact firE_no fun j hj=>by
      have:=h (j+1) (by simp;omega);simpa using this
theorem firE_yes:∀ {l:List Pt} {i:Nat} (hi:i<l.length),(∀ j (hj:j<i),pointE (l[j]'(by omega))=0)→pointE l[i] ≠ 0→firE l=pointE l[i]
  | [],_,hi,_,_=>by simp at hi
  | p::r,0,_,_,h=>by
    simp only [List.getElem_cons_zero] at h ⊢;rw [firE,if_neg h]
  | p::r,i+1,hi,h,h2=>by
    have h0:=h 0 (by omega);simp only [List.getElem_cons_zero] at h0;simp only [List.getElem_cons_succ] at h2 ⊢;rw [firE,if_pos h0];exact firE_yes (by simpa using hi) (fun j hj=>by
      have:=h (j+1) (by omega);simpa using this) h2
def dupB:List Pt→Bool
  | [a,b]=>a.h == b.h
  | _=>false
theorem dup_yes {l:List Pt} {i:Nat} (hi:i<l.length) (hl:l.length≤2) (h:hasB (l.take i) l[i].h=true):dupB l=true:=by
  match l,i,hi,hl,h with
  | [],i,hi,_,_=>simp at hi
  | [a],0,_,_,h=>simp [hasB] at h
  | [a],i+1,hi,_,_=>simp at hi
  | [a,b],0,_,_,h=>simp [hasB] at h
  | [a,b],1,_,_,h=>simpa [hasB,hasP,dupB] using h
  | [a,b],i+2,hi,_,_=>simp at hi;omega
  | a::b::c::r,i,_,hl,_=>simp at hl
theorem dup_no {l:List Pt} (hl:l.length≤2) (h:∀ j (hj:j<l.length),hasB (l.take j) l[j].h=false):dupB l=false:=by
  match l,hl,h with
  | [],_,_=>rfl
  | [a],_,_=>rfl
  | [a,b],_,h =>
    have:=h 1 (by simp);simpa [hasB,hasP,dupB] using this
  | a::b::c::r,hl,_=>simp at hl
def validE (s:Sto):Int:=if s.pts.length<1∨2<s.pts.length then 72 else if firE s.pts ≠ 0 then firE s.pts else if dupB s.pts=true then 15 else if dayB s.now=false then 8 else 0
def sgV:Sg:=fun f args ls =>
  match f,args,ls with
  | 123,[.agg [.lit (.string a),.lit (.int .i64 b),.lit (.int .i64 c),.lit (.int .i64 d),.lit (.int .i64 e)]],[]=>some (.lit (.int .i64 (pointE ⟨a.data.toList,b,c,d,e⟩)),[],True)
  | 124,[.li es xs,.lit (.string s)],[]=>some (.lit (.bool (hasB (xs.map unT) s.data.toList)),[],es=5∧xs=(xs.map unT).map ptA)
  | _,_,_=>none
theorem sgV_ok:SgOK Tryz.prog sgV:=by
  intro f args ls r ls' vc h hvc;unfold sgV at h;split at h <;> cases h
  · exact ⟨(fnOK Tryz.func123 (by decide) rfl),point_s ⟨_,_,_,_,_⟩⟩
  · obtain ⟨rfl,h2⟩:=hvc;refine ⟨(fnOK Tryz.func124 (by decide) rfl),?_⟩;rename_i xs s;have:=has_s (xs.map unT) s.data.toList;rw [← h2] at this;exact this
theorem valid_s (s:Sto):FnS Tryz.prog 75 [stoA s] [] (.lit (.int .i64 (validE s))) []:=by
  obtain ⟨l,now⟩:=s;have hs:=sgV_ok;have ht:=Tr_pts l;unfold stoA;refine fo Tryz.func75 55 fun X hX=>?_;refine rK hs fun K hK=>?_;simp only [go_sem,ht]
  refine eK ?_;refine up 1 ?_;refine rK hs fun K hK=>?_;simp only [go_sem,List.length_map,ht]
  refine eK ?_;refine WA.cond rfl (fun h=>?_) (fun h=>?_)
  ·
    have h:l.length<1∨2<l.length:=by first | (simp only [Bool.and_eq_true,Bool.or_eq_true,Bool.not_eq_true',decide_eq_true_eq,decide_eq_false_iff_not,beq_iff_eq,bne_iff_ne,ne_eq,Bool.not_eq_eq_eq_not,Bool.not_true,Bool.not_false,beq_eq_false_iff_ne,bne_eq_false_iff_eq,Bool.and_eq_false_imp,Bool.or_eq_false_iff,Bool.cond_false_right,Bool.cond_true_left,Bool.cond_false_left,Bool.cond_true_right,gt_iff_lt,ge_iff_le,true_and] at h;first | exact h | omega) | omega | simpa using h
    refine up 1 ?_;refine rE [.lit (.int .i64 (validE ⟨l,now⟩))] [] [.tmp 2] ?_;simp only [go_sem,sbT,validE,h];all_goals exact agA
  ·
    refine up 1 ?_
    have h:¬ (l.length<1∨2<l.length):=by first | (simp only [Bool.and_eq_true,Bool.or_eq_true,Bool.not_eq_true',decide_eq_true_eq,decide_eq_false_iff_not,beq_iff_eq,bne_iff_ne,ne_eq,Bool.not_eq_eq_eq_not,Bool.not_true,Bool.not_false,beq_eq_false_iff_ne,bne_eq_false_iff_eq,Bool.and_eq_false_imp,Bool.or_eq_false_iff,Bool.cond_false_right,Bool.cond_true_left,Bool.cond_false_left,Bool.cond_true_right,gt_iff_lt,ge_iff_le,true_and] at h;first | exact h | omega) | omega | simpa using h
    have h1:=h;refine up 1 ?_;refine rK hs fun K hK=>?_;simp only [go_sem,List.length_map]
    refine eK ?_;refine up 1 ?_;refine WA.loopW hX (fun k=>if k=3000 then 2000 else k) ((fun (i:Nat)=>⟨[(1,.ptr 3000 0 0),(19,.li 5 (l.map ptA)),(20,.lit (.int .i64 (l.length:Nat))),(21,.lit (.int .i64 (i:Nat)))],[(3000,⟨.li 2 [.agg [.li 5 (l.map ptA),.lit (.int .i64 now)]],0,false⟩)],4000,55⟩:_→St)) (fun i=>l.length-i) (fun i=>i≤l.length ∧ ∀ j (hj:j<i) (hl:j<l.length),pointE l[j]=0) (i0:=0) (⟨by omega,fun j hj=>by omega⟩) (by simp only [go_sem,Int.natCast_add,ht,Int.natCast_zero] <;> (try and_intros) <;> (try omega)) fun i hi=>?_
    obtain ⟨hi,ho⟩:=hi;refine up 2 ?_;refine WA.cond rfl (fun h=>?_) (fun h=>?_)
    ·
      refine up 1 ?_
      have h:(i:Int)<(l.length:Nat):=by first | (simp only [Bool.and_eq_true,Bool.or_eq_true,Bool.not_eq_true',decide_eq_true_eq,decide_eq_false_iff_not,beq_iff_eq,bne_iff_ne,ne_eq,Bool.not_eq_eq_eq_not,Bool.not_true,Bool.not_false,beq_eq_false_iff_ne,bne_eq_false_iff_eq,Bool.and_eq_false_imp,Bool.or_eq_false_iff,Bool.cond_false_right,Bool.cond_true_left,Bool.cond_false_left,Bool.cond_true_right,gt_iff_lt,ge_iff_le,true_and] at h;first | exact h | omega) | omega | simpa using h
      have hi2:i<l.length:=by omega
      have g:=pt_at hi2;refine up 2 ?_;refine rK hs fun K hK=>?_;simp only [go_sem,g,List.length_map]
      refine eK ?_;refine rK hs fun K hK=>?_;simp only [go_sem,sgV,strB_list]
      refine eK ?_;refine up 1 ?_;refine WA.cond rfl (fun h=>?_) (fun h=>?_)
      ·
        have h:¬ pointE l[i]=0:=by first | (simp only [Bool.and_eq_true,Bool.or_eq_true,Bool.not_eq_true',decide_eq_true_eq,decide_eq_false_iff_not,beq_iff_eq,bne_iff_ne,ne_eq,Bool.not_eq_eq_eq_not,Bool.not_true,Bool.not_false,beq_eq_false_iff_ne,bne_eq_false_iff_eq,Bool.and_eq_false_imp,Bool.or_eq_false_iff,Bool.cond_false_right,Bool.cond_true_left,Bool.cond_false_left,Bool.cond_true_right,gt_iff_lt,ge_iff_le,true_and] at h;first | exact h | omega) | omega | simpa using h
        have e:=firE_yes hi2 (fun j hj=>ho j hj (by omega)) h;have e2:firE l ≠ 0:=by rw [e];exact h
        refine up 1 ?_;refine rE [.lit (.int .i64 (validE ⟨l,now⟩))] [] [.tmp 2] ?_;simp only [go_sem,sbT,validE,h,h1,e2,e];all_goals exact agA
      ·
        refine up 1 ?_
        have h:pointE l[i]=0:=by first | (simp only [Bool.and_eq_true,Bool.or_eq_true,Bool.not_eq_true',decide_eq_true_eq,decide_eq_false_iff_not,beq_iff_eq,bne_iff_ne,ne_eq,Bool.not_eq_eq_eq_not,Bool.not_true,Bool.not_false,beq_eq_false_iff_ne,bne_eq_false_iff_eq,Bool.and_eq_false_imp,Bool.or_eq_false_iff,Bool.cond_false_right,Bool.cond_true_left,Bool.cond_false_left,Bool.cond_true_right,gt_iff_lt,ge_iff_le,true_and] at h;first | exact h | omega) | omega | simpa using h
        refine WA.regionE ty_ok hs fun K hK=>?_;simp only [go_sem,true_and]
        (repeat refine sdA ?_);refine hK _ (roundE hX (fun k=>k) (j:=i+1) (⟨by omega,fun j hj hl=>by rcases Nat.lt_succ_iff_lt_or_eq.1 hj with q | rfl;exact ho j q hl;exact h⟩) (by first | omega | (dsimp only;omega) | (simp;omega)) (by simp only [go_sem,Int.natCast_add,ht] <;> (try and_intros) <;> (try omega)))
    ·
      refine up 1 ?_
      have h:¬ (i:Int)<(l.length:Nat):=by first | (simp only [Bool.and_eq_true,Bool.or_eq_true,Bool.not_eq_true',decide_eq_true_eq,decide_eq_false_iff_not,beq_iff_eq,bne_iff_ne,ne_eq,Bool.not_eq_eq_eq_not,Bool.not_true,Bool.not_false,beq_eq_false_iff_ne,bne_eq_false_iff_eq,Bool.and_eq_false_imp,Bool.or_eq_false_iff,Bool.cond_false_right,Bool.cond_true_left,Bool.cond_false_left,Bool.cond_true_right,gt_iff_lt,ge_iff_le,true_and] at h;first | exact h | omega) | omega | simpa using h
      obtain rfl:i=l.length:=by omega
      have hf:firE l=0:=firE_no fun j hj=>ho j hj hj;clear ho hi h;refine up 1 ?_;refine rK hs fun K hK=>?_;simp only [go_sem,List.length_map]
      refine eK ?_;refine up 1 ?_;refine WA.loopW hX (fun k=>k) ((fun (i:Nat)=>⟨[(1,.ptr 3000 0 0),(32,.li 5 (l.map ptA)),(33,.lit (.int .i64 (l.length:Nat))),(34,.lit (.int .i64 (i:Nat)))],[(3000,⟨.li 2 [.agg [.li 5 (l.map ptA),.lit (.int .i64 now)]],0,false⟩)],4000,55⟩:_→St)) (fun i=>l.length-i) (fun i=>i≤l.length ∧ ∀ j (hj:j<i) (hl:j<l.length),hasB (l.take j) l[j].h=false) (i0:=0) (⟨by omega,fun j hj=>by omega⟩) (by simp only [go_sem,Int.natCast_add,ht,Int.natCast_zero] <;> (try and_intros) <;> (try omega)) fun i hi=>?_
      obtain ⟨hi,ho⟩:=hi;refine up 2 ?_;refine WA.cond rfl (fun h=>?_) (fun h=>?_)
      ·
        refine up 1 ?_
        have h:(i:Int)<(l.length:Nat):=by first | (simp only [Bool.and_eq_true,Bool.or_eq_true,Bool.not_eq_true',decide_eq_true_eq,decide_eq_false_iff_not,beq_iff_eq,bne_iff_ne,ne_eq,Bool.not_eq_eq_eq_not,Bool.not_true,Bool.not_false,beq_eq_false_iff_ne,bne_eq_false_iff_eq,Bool.and_eq_false_imp,Bool.or_eq_false_iff,Bool.cond_false_right,Bool.cond_true_left,Bool.cond_false_left,Bool.cond_true_right,gt_iff_lt,ge_iff_le,true_and] at h;first | exact h | omega) | omega | simpa using h
        have hi2:i<l.length:=by omega
        have g:=pt_at hi2;have g2:(l.map ptA).take i=(l.take i).map ptA:=(List.map_take).symm;have g3:=un_pts (l.take i);have g4:=Tr_pts (l.take i);refine up 2 ?_;refine rK hs fun K hK=>?_;simp only [go_sem,g,List.length_map]
        refine eK ?_;refine WA.drawnK mixed_ ty_ok hs (tbl:=[[],[0],[],[0,1,2],[],[4],[0,1,2,3,4,5]]) (nb:=[1,5,6]) (by kernel_rfl) fun K hK=>?_;simp only [go_sem,sgV,strB_list,List.length_map,g2,g3,g4,List.drop_zero]
        refine eK ?_;refine WA.cond rfl (fun h=>?_) (fun h=>?_)
        ·
          have e:=dup_yes hi2 (by omega) h;refine up 1 ?_;refine rE [.lit (.int .i64 (validE ⟨l,now⟩))] [] [.tmp 2] ?_;simp only [go_sem,sbT,validE,h1,hf,e];all_goals exact agA
        ·
          refine up 1 ?_
          refine WA.regionE ty_ok hs fun K hK=>?_;simp only [go_sem,true_and]
          (repeat refine sdA ?_);refine hK _ (roundE hX (fun k=>k) (j:=i+1) (⟨by omega,fun j hj hl=>by rcases Nat.lt_succ_iff_lt_or_eq.1 hj with q | rfl;exact ho j q hl;exact h⟩) (by first | omega | (dsimp only;omega) | (simp;omega)) (by simp only [go_sem,Int.natCast_add,ht] <;> (try and_intros) <;> (try omega)))
      ·
        refine up 1 ?_
        have h:¬ (i:Int)<(l.length:Nat):=by first | (simp only [Bool.and_eq_true,Bool.or_eq_true,Bool.not_eq_true',decide_eq_true_eq,decide_eq_false_iff_not,beq_iff_eq,bne_iff_ne,ne_eq,Bool.not_eq_eq_eq_not,Bool.not_true,Bool.not_false,beq_eq_false_iff_ne,bne_eq_false_iff_eq,Bool.and_eq_false_imp,Bool.or_eq_false_iff,Bool.cond_false_right,Bool.cond_true_left,Bool.cond_false_left,Bool.cond_true_right,gt_iff_lt,ge_iff_le,true_and] at h;first | exact h | omega) | omega | simpa using h
        obtain rfl:i=l.length:=by omega
        have hd:dupB l=false:=dup_no (by omega) fun j hj=>ho j hj hj;refine up 2 ?_;refine WA.cond rfl (fun h=>?_) (fun h=>?_)
        ·
          have h:¬ (0≤now∧now≤73048):=by (simp only [Bool.and_eq_true,Bool.or_eq_true,Bool.not_eq_true',decide_eq_true_eq,decide_eq_false_iff_not,beq_iff_eq,bne_iff_ne,ne_eq,Bool.not_eq_eq_eq_not,Bool.not_true,Bool.not_false,beq_eq_false_iff_ne,bne_eq_false_iff_eq,Bool.and_eq_false_imp,Bool.or_eq_false_iff,Bool.cond_false_right,Bool.cond_true_left,Bool.cond_false_left,Bool.cond_true_right,gt_iff_lt,ge_iff_le,true_and] at h);(try unfold dayB);omega
          have e:dayB now=false:=by
            unfold dayB;simp only [Bool.and_eq_false_iff,decide_eq_false_iff_not];omega
          refine up 1 ?_;refine rE [.lit (.int .i64 (validE ⟨l,now⟩))] [] [.tmp 2] ?_;simp only [go_sem,sbT,validE,h1,hf,hd,e];all_goals exact agA
        ·
          refine up 1 ?_
          have h:0≤now∧now≤73048:=by (simp only [Bool.and_eq_true,Bool.or_eq_true,Bool.not_eq_true',decide_eq_true_eq,decide_eq_false_iff_not,beq_iff_eq,bne_iff_ne,ne_eq,Bool.not_eq_eq_eq_not,Bool.not_true,Bool.not_false,beq_eq_false_iff_ne,bne_eq_false_iff_eq,Bool.and_eq_false_imp,Bool.or_eq_false_iff,Bool.cond_false_right,Bool.cond_true_left,Bool.cond_false_left,Bool.cond_true_right,gt_iff_lt,ge_iff_le,true_and] at h);(try unfold dayB);omega
          have e:dayB now=true:=by
            unfold dayB;simp only [Bool.and_eq_true,decide_eq_true_eq];exact h
          refine up 1 ?_;refine rE [.lit (.int .i64 (validE ⟨l,now⟩))] [] [.tmp 2] ?_;simp only [go_sem,sbT,validE,h1,hf,hd,e];all_goals exact agA

theorem point_ok {p:Pt} (h:pointE p=0):(1≤p.h.length∧p.h.length≤16)∧eltB p.key=true∧(0≤p.rt∧p.rt≤65535)∧(0≤p.fr∧p.fr≤73048)∧(0≤p.til∧p.til≤73048):=by
  unfold pointE at h;split at h
  · cases h
  · rename_i h1;split at h
    · cases h
    · rename_i h2;split at h
      · cases h
      · rename_i h3;split at h
        · cases h
        · rename_i h4;simp only [nameB,decide_eq_false_iff_not,Decidable.not_not] at h1;simp only [Bool.not_eq_false] at h2 h4;simp only [daysB,Bool.and_eq_true,decide_eq_true_eq] at h4;exact ⟨⟨h1.1,h1.2.1⟩,h2,by omega,by omega,by omega⟩
theorem firE_all:∀ {l:List Pt},firE l=0 → ∀ p∈l,pointE p=0
  | [],_,p,hp=>by cases hp
  | q::r,h,p,hp=>by
    rw [firE] at h;split at h
    · rename_i h0;rcases List.mem_cons.1 hp with rfl | hp
      · exact h0
      · exact firE_all h p hp
    · rename_i h0;exact absurd h h0
theorem valid_ok {s:Sto} (h:validE s=0):(1≤s.pts.length∧s.pts.length≤2)∧(∀ p∈s.pts,pointE p=0)∧(0≤s.now∧s.now≤73048):=by
  unfold validE at h;split at h
  · cases h
  · rename_i h1;split at h
    · rename_i h2;exact absurd h h2
    · rename_i h2;simp only [ne_eq,Decidable.not_not] at h2;split at h
      · cases h
      · split at h
        · cases h
        · rename_i h4;simp only [Bool.not_eq_false,dayB,Bool.and_eq_true,decide_eq_true_eq] at h4;exact ⟨by omega,firE_all h2,h4⟩
def encPt (p:Pt):List UInt8:=[byt (p.h.length:Nat)]++p.h++encL p.key++le2 p.rt++le3 p.fr++le3 p.til
def acE (now:Int) (l:List Pt) (i:Nat):List UInt8:=le3 now++[byt (l.length:Nat)]++((l.take i).map encPt).flatten
theorem acE_0 (now:Int) (l:List Pt):acE now l 0=le3 now++[byt (l.length:Nat)]:=by simp [acE]
theorem acE_succ {now:Int} {l:List Pt} {i:Nat} (h:i<l.length):acE now l (i+1)=acE now l i++encPt l[i]:=by
  unfold acE;rw [List.take_add_one,List.getElem?_eq_getElem h,Option.toList_some,List.map_append,List.flatten_append];simp
theorem encPt_len {p:Pt} (h:pointE p=0):(encPt p).length=13+p.h.length:=by
  obtain ⟨_,h2,_⟩:=point_ok h;simp [encPt,encL,h2,length_beS,le2,le3];omega
theorem acE_len {now:Int} {l:List Pt} (h:∀ p∈l,pointE p=0):∀ {i:Nat},i≤l.length→(acE now l i).length≤4+29*i
  | 0,_=>by simp [acE_0,le3]
  | i+1,hi=>by
    have h1:=h _ (List.getElem_mem (by omega:i<l.length));have h2:=encPt_len h1;have h3:=(point_ok h1).1;have h4:=acE_len (now:=now) h (i:=i) (by omega);rw [acE_succ (by omega),List.length_append];omega
def encS (s:Sto):List UInt8:=if validE s=0 then acE s.now s.pts s.pts.length else []
def sgE:Sg:=fun f args ls =>
  match f,args,ls with
  | 75,[.agg [.li es xs,.lit (.int .i64 now)]],[]=>some (.lit (.int .i64 (validE ⟨xs.map unT,now⟩)),[],es=5∧xs=(xs.map unT).map ptA)
  | 125,[.lit (.int .i64 d)],[]=>some (.fr (.by_ (le3 d)),[],True)
  | 126,[.lit (.int .i64 x)],[]=>some (.tup [.fr (.by_ (encL x)),.lit (.int .i64 (encE x))],[],True)
  | _,_,_=>none
theorem sgE_ok:SgOK Tryz.prog sgE:=by
  intro f args ls r ls' vc h hvc;unfold sgE at h;split at h <;> cases h
  · obtain ⟨rfl,h2⟩:=hvc;refine ⟨(fnOK Tryz.func75 (by decide) rfl),?_⟩;rename_i xs now;have:=valid_s ⟨xs.map unT,now⟩;unfold stoA at this;rw [← h2] at this;exact this
  · exact ⟨(fnOK Tryz.func125 (by decide) rfl),day_s _⟩
  · exact ⟨(fnOK Tryz.func126 (by decide) rfl),genc_s _⟩
theorem encode_s (s:Sto):FnS Tryz.prog 76 [stoA s] [] (.tup [.by_ (encS s),.lit (.int .i64 (validE s))]) []:=by
  obtain ⟨l,now⟩:=s;have hs:=sgE_ok;have ht:=Tr_pts l;have hu:=un_pts l;unfold stoA;refine fo Tryz.func76 73 fun X hX=>?_;refine rK hs fun K hK=>?_;simp only [go_sem,ht]
  refine eK ?_;refine up 1 ?_;refine rK hs fun K hK=>?_;simp only [go_sem,sgE,ht,hu]
  refine eK ?_;refine up 1 ?_;refine WA.cond rfl (fun h=>?_) (fun h=>?_)
  ·
    have h:¬ validE ⟨l,now⟩=0:=by first | (simp only [Bool.and_eq_true,Bool.or_eq_true,Bool.not_eq_true',decide_eq_true_eq,decide_eq_false_iff_not,beq_iff_eq,bne_iff_ne,ne_eq,Bool.not_eq_eq_eq_not,Bool.not_true,Bool.not_false,beq_eq_false_iff_ne,bne_eq_false_iff_eq,Bool.and_eq_false_imp,Bool.or_eq_false_iff,Bool.cond_false_right,Bool.cond_true_left,Bool.cond_false_left,Bool.cond_true_right,gt_iff_lt,ge_iff_le,true_and] at h;first | exact h | omega) | omega | simpa using h
    have e:encS ⟨l,now⟩=[]:=if_neg h;refine up 1 ?_;refine rE [.by_ (encS ⟨l,now⟩),.lit (.int .i64 (validE ⟨l,now⟩))] [] [.tmp 2,.tmp 3] ?_;simp only [go_sem,sbT,e];all_goals exact agA
  ·
    refine up 1 ?_
    have h:validE ⟨l,now⟩=0:=by first | (simp only [Bool.and_eq_true,Bool.or_eq_true,Bool.not_eq_true',decide_eq_true_eq,decide_eq_false_iff_not,beq_iff_eq,bne_iff_ne,ne_eq,Bool.not_eq_eq_eq_not,Bool.not_true,Bool.not_false,beq_eq_false_iff_ne,bne_eq_false_iff_eq,Bool.and_eq_false_imp,Bool.or_eq_false_iff,Bool.cond_false_right,Bool.cond_true_left,Bool.cond_false_left,Bool.cond_true_right,gt_iff_lt,ge_iff_le,true_and] at h;first | exact h | omega) | omega | simpa using h
    have hv:=h;have e:encS ⟨l,now⟩=acE now l l.length:=if_pos h;obtain ⟨v1,v2,v3⟩:=valid_ok h;simp only at v1 v2 v3
    clear h;have z0:=acE_0 now l;unfold le3 byt at z0;refine WA.drawnH mixed_ ty_ok hs (tbl:=[[],[0],[0,1],[],[3],[3,4],[3,4,5],[3,4,5,6],[0,1,2,3,4,5,6,7],[0,1,2,3,4,5,6,7,8]]) (nb:=[1,2,4,8]) (hk:=[[],[],[],[],[],[],[],[],[],[]]) (by kernel_rfl) fun K hK=>?_;simp only [go_sem,sgE,List.length_map,le3,byt]
    refine eK ?_;refine up 1 ?_;refine rK hs fun K hK=>?_;simp only [go_sem,List.length_map]
    refine eK ?_;refine up 1 ?_;refine WA.loopW hX (fun k=>if k=3000 then 2128 else if k=3008 then 2000 else k) ((fun (i:Nat)=>⟨[(1,.ptr 3008 0 0),(5,.sl 3000 1 0 (acE now l i).length),(25,.li 5 (l.map ptA)),(26,.lit (.int .i64 (l.length:Nat))),(27,.lit (.int .i64 (i:Nat)))],[(3000,⟨.by_ (acE now l i),0,false⟩),(3008,⟨.li 2 [.agg [.li 5 (l.map ptA),.lit (.int .i64 now)]],0,false⟩)],4000,73⟩:_→St)) (fun i=>l.length-i) (fun i=>i≤l.length) (i0:=0) (Nat.zero_le _) (by simp only [go_sem,Int.natCast_add,ht,Int.natCast_zero,z0] <;> (try and_intros) <;> (try omega)) fun i hi=>?_
    refine up 2 ?_;refine WA.cond rfl (fun h=>?_) (fun h=>?_)
    ·
      refine up 1 ?_
      have h:(i:Int)<(l.length:Nat):=by first | (simp only [Bool.and_eq_true,Bool.or_eq_true,Bool.not_eq_true',decide_eq_true_eq,decide_eq_false_iff_not,beq_iff_eq,bne_iff_ne,ne_eq,Bool.not_eq_eq_eq_not,Bool.not_true,Bool.not_false,beq_eq_false_iff_ne,bne_eq_false_iff_eq,Bool.and_eq_false_imp,Bool.or_eq_false_iff,Bool.cond_false_right,Bool.cond_true_left,Bool.cond_false_left,Bool.cond_true_right,gt_iff_lt,ge_iff_le,true_and] at h;first | exact h | omega) | omega | simpa using h
      have hi2:i<l.length:=by omega
      have g:=pt_at hi2;obtain ⟨w1,w2,w3,w4,w5⟩:=point_ok (v2 _ (List.getElem_mem hi2));have g1:=acE_len (now:=now) v2 hi;have g2:encE l[i].key=0:=by simp [encE,w2]
      have g3:(encL l[i].key).length=4:=by simp [encL,w2,length_beS]
      have g4:=acE_succ (now:=now) hi2;have g5:List.take 4 (encL l[i].key)=encL l[i].key:=List.take_of_length_le (by omega);have l3:∀ d,(le3 d).length=3:=fun _=>rfl;have t3:∀ d,List.take 3 (le3 d)=le3 d:=fun _=>rfl;have z1:acE now l i++[UInt8.ofNat (IntKind.u8.wrap ↑l[i].h.length).toNat]++l[i].h++encL l[i].key++[UInt8.ofNat (IntKind.u8.wrap (l[i].rt.fdiv (2 ^ 8))).toNat,UInt8.ofNat (IntKind.u8.wrap l[i].rt).toNat]++le3 l[i].fr++le3 l[i].til=acE now l (i+1):=by
        rw [g4];simp only [encPt,le2,byt,List.append_assoc];rfl
      have z2:(acE now l (i+1)).length=(acE now l i).length+1+l[i].h.length+4+2+3+3:=by
        rw [← z1];simp only [List.length_append,List.length_cons,List.length_nil,g3,l3]
      refine up 2 ?_;refine rK hs fun K hK=>?_;simp only [go_sem,g,List.length_map]
      refine eK ?_;refine rK hs fun K hK=>?_;simp only [go_sem,sgE,g2]
      refine eK ?_;refine up 2 ?_;refine WA.cond rfl (fun h=>?_) (fun h=>?_)
      ·
        exfalso;revert h;decide
      ·
        refine up 1 ?_
        refine WA.drawnH mixed_ ty_ok hs (tbl:=[[],[],[1],[1,2],[1,2,3],[1,2,3,4],[0,1,2,3,4,5],[],[7],[0,1,2,3,4,5,6,7,8],[],[0,1,2,3,4,5,6,7,8,9,10],[0,1,2,3,4,5,6,7,8,9,10,11]]) (nb:=[2,6,8,9,11]) (hk:=[[],[],[],[],[],[],[],[3000],[3000],[],[3000,4168],[],[]]) (by kernel_rfl) fun K hK=>?_;simp only [go_sem,strB_size,strB_list,g3,g5]
        refine eK ?_;refine rK hs fun K hK=>?_;simp only [go_sem,g3,g5]
        refine eK ?_;refine WA.drawn2 mixed_ ty_ok hs (tbl:=[[],[],[1],[1,2],[0,1,2,3],[],[5],[0,1,2,3,4,5,6],[0,1,2,3,4,5,6,7],[0,1,2,3,4,5,6,7,8]]) (nb:=[2,3,4,6,7,8]) (hk:=[[],[],[],[],[],[4296],[4296],[],[],[]]) (by kernel_rfl) fun K hK=>?_;simp only [go_sem,sgE,g3,g5,l3,t3]
        refine eN ?_
        refine WA.regionE ty_ok hs fun K hK=>?_;simp only [go_sem,true_and]
        (repeat refine sdA ?_);refine hK _ (roundE hX (fun k=>if k=3000 then 4376 else k) (j:=i+1) (by omega) (by first | omega | (dsimp only;omega) | (simp;omega)) (by simp only [go_sem,Int.natCast_add,ht,z1,z2] <;> (try and_intros) <;> (try omega)))
    ·
      refine up 1 ?_
      have h:¬ (i:Int)<(l.length:Nat):=by first | (simp only [Bool.and_eq_true,Bool.or_eq_true,Bool.not_eq_true',decide_eq_true_eq,decide_eq_false_iff_not,beq_iff_eq,bne_iff_ne,ne_eq,Bool.not_eq_eq_eq_not,Bool.not_true,Bool.not_false,beq_eq_false_iff_ne,bne_eq_false_iff_eq,Bool.and_eq_false_imp,Bool.or_eq_false_iff,Bool.cond_false_right,Bool.cond_true_left,Bool.cond_false_left,Bool.cond_true_right,gt_iff_lt,ge_iff_le,true_and] at h;first | exact h | omega) | omega | simpa using h
      obtain rfl:i=l.length:=by omega
      refine up 1 ?_;refine rE [.by_ (encS ⟨l,now⟩),.lit (.int .i64 (validE ⟨l,now⟩))] [] [.tmp 2,.tmp 3] ?_;simp only [go_sem,sbT,e,hv];all_goals exact agA
def sgF:Sg:=fun f args ls =>
  match f,args,ls with
  | _,_,_=>none
theorem sgF_ok:SgOK Tryz.prog sgF:=by
  intro f args ls r ls' vc h hvc;unfold sgF at h;split at h <;> cases h
def rdA (d:List UInt8) (p:Nat) (b:Bool):AV:=.agg [.by_ d,.lit (.int .i64 (p:Nat)),.lit (.bool b)]
def tkF (d:List UInt8) (p:Nat) (b:Bool) (n:Nat):Bool:=b || decide (d.length<p+n)
def tkL (d:List UInt8) (p:Nat) (b:Bool) (n:Nat):List UInt8:=if tkF d p b n=true then [] else (d.drop p).take n
def tkP (d:List UInt8) (p:Nat) (b:Bool) (n:Nat):Nat:=if tkF d p b n=true then p else p+n
theorem tkP_le {d:List UInt8} {p:Nat} {b:Bool} {n:Nat} (h:p≤d.length):tkP d p b n≤d.length:=by
  unfold tkP;split
  · exact h
  · rename_i h2;simp only [tkF,Bool.or_eq_true,decide_eq_true_eq,not_or] at h2;omega
theorem tkL_len (d:List UInt8) (p:Nat) (b:Bool) (n:Nat):(tkL d p b n).length≤n:=by
  unfold tkL;split
  · simp
  · rw [List.length_take];omega
theorem take_s (d:List UInt8) (p:Nat) (b:Bool) (n:Nat) (hp:p≤d.length) (hd:d.length≤1000) (hn:n≤255):FnS Tryz.prog 143 [.ptr 0 0 0,.lit (.int .i64 (n:Nat))] [.li 3 [rdA d p b]] (.by_ (tkL d p b n)) [.li 3 [rdA d (tkP d p b n) (tkF d p b n)]]:=by
  have hs:=sg0_ok;unfold rdA;refine fo Tryz.func143 49 fun X hX=>?_;refine up 2 ?_;refine WA.drawnK mixed_ ty_ok hs (tbl:=[[],[0],[0,1],[0,1,2],[0,1,2,3],[0,1,2,3,4],[0,1,2,3,4],[0,1,2,3,4,6],[0,1,2,3,4,6,7],[0,1,2,3,4,6,7,8],[0,1,2,3,4,6,7,8,9],[0,1,2,3,4],[0,1,2,3,4,11],[0,1,2,3,4,11,12],[0,1,2,3,4,11,12,13],[0,1,2,3,4,6,7,8,9,10,11,12,13,14],[0,1,2,3,4,5,6,7,8,9,10,11,12,13,14,15],[0,1,2,3,4,5,6,7,8,9,10,11,12,13,14,15,16]]) (nb:=[3,9,14]) (by kernel_rfl) fun K hK=>?_;simp only [go_sem,true_and]
  refine eK ?_;refine WA.cond rfl (fun h=>?_) (fun h=>?_)
  ·
    have h:b=true∨((d.length:Nat):Int)-(p:Nat)<(n:Nat):=by first | (simp only [Bool.and_eq_true,Bool.or_eq_true,Bool.not_eq_true',decide_eq_true_eq,decide_eq_false_iff_not,beq_iff_eq,bne_iff_ne,ne_eq,Bool.not_eq_eq_eq_not,Bool.not_true,Bool.not_false,beq_eq_false_iff_ne,bne_eq_false_iff_eq,Bool.and_eq_false_imp,Bool.or_eq_false_iff,Bool.cond_false_right,Bool.cond_true_left,Bool.cond_false_left,Bool.cond_true_right,gt_iff_lt,ge_iff_le,true_and] at h;first | exact h | omega) | omega | simpa using h
    have e:tkF d p b n=true:=by
      simp only [tkF,Bool.or_eq_true,decide_eq_true_eq];rcases h with h | h
      · exact .inl h
      · exact .inr (by omega)
    refine up 2 ?_;refine rE [.by_ (tkL d p b n)] [.li 3 [.agg [.by_ d,.lit (.int .i64 (tkP d p b n:Nat)),.lit (.bool (tkF d p b n))]]] [.tmp 4] ?_;simp only [go_sem,sbT,tkL,tkP,e]
  ·
    refine up 1 ?_
    have h:b=false ∧ ¬ ((d.length:Nat):Int)-(p:Nat)<(n:Nat):=by first | (simp only [Bool.and_eq_true,Bool.or_eq_true,Bool.not_eq_true',decide_eq_true_eq,decide_eq_false_iff_not,beq_iff_eq,bne_iff_ne,ne_eq,Bool.not_eq_eq_eq_not,Bool.not_true,Bool.not_false,beq_eq_false_iff_ne,bne_eq_false_iff_eq,Bool.and_eq_false_imp,Bool.or_eq_false_iff,Bool.cond_false_right,Bool.cond_true_left,Bool.cond_false_left,Bool.cond_true_right,gt_iff_lt,ge_iff_le,true_and] at h;first | exact h | omega) | omega | simpa using h
    obtain ⟨hb,h⟩:=h;subst hb;have h:¬ d.length<p+n:=by omega
    have e:tkF d p false n=false:=by
      simp only [tkF,Bool.false_or,decide_eq_false_iff_not];exact h
    have e1:((p:Int)+(n:Int)-(n:Int)).toNat=p:=by omega
    have e2:((p:Int)+(n:Int)).toNat=p+n:=by omega
    have e3:List.drop p (List.take (p+n) d)=(d.drop p).take n:=by
      rw [List.drop_take];congr 1
      omega
    have e4:((p:Int)+(n:Int))=((p+n:Nat):Int):=by omega
    refine up 1 ?_;refine WA.drawnK mixed_ ty_ok hs (tbl:=[[],[0],[0,1],[0,1,2],[],[4],[4,5],[4,5,6],[],[4,5,6,7,8],[],[10],[10,11],[10,11,12],[0,1,2,3,4,5,6,7,8,9,10,11,12,13],[0,1,2,3,4,5,6,7,8,9,10,11,12,13,14]]) (nb:=[3,7,13]) (by kernel_rfl) fun K hK=>?_;simp only [go_sem,e1,e2,e3,Option.getD_some]
    refine eK ?_;refine rE [.by_ (tkL d p false n)] [.li 3 [.agg [.by_ d,.lit (.int .i64 (tkP d p false n:Nat)),.lit (.bool (tkF d p false n))]]] [.tmp 4] ?_;simp only [go_sem,sbT,tkL,tkP,e,e4]
def sgT:Sg:=fun f args ls =>
  match f,args,ls with
  | 143,[.ptr 0 0 0,.lit (.int .i64 z)],[.li 3 [.agg [.by_ d,.lit (.int .i64 p),.lit (.bool b)]]]=>some (.by_ (tkL d p.toNat b z.toNat),[.li 3 [.agg [.by_ d,.lit (.int .i64 (tkP d p.toNat b z.toNat:Nat)),.lit (.bool (tkF d p.toNat b z.toNat))]]],(0≤z∧z≤255)∧(0≤p∧p≤d.length)∧d.length≤1000)
  | 101,[.by_ bs],[]=>some (.tup [.lit (.int .i64 (numV bs)),.lit (.int .i64 (numE bs))],[],True)
  | _,_,_=>none
theorem sgT_ok:SgOK Tryz.prog sgT:=by
  intro f args ls r ls' vc h hvc;unfold sgT at h;split at h <;> cases h
  · rename_i z d p b;obtain ⟨⟨z0,z1⟩,⟨p0,p1⟩,hd⟩:=hvc;obtain ⟨n,rfl⟩:=Int.eq_ofNat_of_zero_le z0;obtain ⟨q,rfl⟩:=Int.eq_ofNat_of_zero_le p0;exact ⟨(fnOK Tryz.func143 (by decide) rfl),take_s d q b n (by omega) hd (by omega)⟩
  · exact ⟨(fnOK Tryz.func101 (by decide) rfl),number_s _⟩
theorem num_s (d:List UInt8) (p:Nat) (b:Bool) (n:Nat) (hp:p≤d.length) (hd:d.length≤1000) (hn:n≤255):FnS Tryz.prog 142 [.ptr 0 0 0,.lit (.int .i64 (n:Nat))] [.li 3 [rdA d p b]] (.lit (.int .i64 (numV (tkL d p b n)))) [.li 3 [rdA d (tkP d p b n) (tkF d p b n)]]:=by
  have hs:=sgT_ok;unfold rdA;refine fo Tryz.func142 15 fun X hX=>?_;refine up 1 ?_;refine rK hs fun K hK=>?_;simp only [go_sem,sgT,Int.toNat_natCast]
  refine eK ?_;refine up 1 ?_;refine rE [.lit (.int .i64 (numV (tkL d p b n)))] [.li 3 [.agg [.by_ d,.lit (.int .i64 (tkP d p b n:Nat)),.lit (.bool (tkF d p b n))]]] [.tmp 4] ?_;simp only [go_sem,sbT]

structure Ct where
  iss:List UInt8
  hold:List UInt8
  key:Int
  role:Int
  rt:Int
  fr:Int
  til:Int
  se:Int
  ss:Int
def ctA (c:Ct):AV:=.agg [.lit (.string (strB c.iss)),.lit (.string (strB c.hold)),.lit (.int .i64 c.key),.lit (.int .i64 c.role),.lit (.int .i64 c.rt),.lit (.int .i64 c.fr),.lit (.int .i64 c.til),.lit (.int .i64 c.se),.lit (.int .i64 c.ss)]
def checkE (c:Ct):Int:=if nameB c.iss=false∨nameB c.hold=false then 60 else if eltB c.key=false then 10 else if c.role<1∨4<c.role then 61 else if c.rt<0∨65535<c.rt then 62 else if daysB c.fr c.til=false then 8 else 0
theorem daysB_f {a b:Int} (h:¬ (0≤a∧a≤b∧b≤73048)):daysB a b=false:=by
  unfold daysB;simp only [Bool.and_eq_false_iff,decide_eq_false_iff_not];omega
theorem daysB_t {a b:Int} (h:0≤a∧a≤b∧b≤73048):daysB a b=true:=by
  unfold daysB;simp only [Bool.and_eq_true,decide_eq_true_eq];omega
theorem check_s (c:Ct):FnS Tryz.prog 275 [ctA c] [] (.lit (.int .i64 (checkE c))) []:=by
  have hs:=sgP_ok;unfold ctA;refine fo Tryz.func275 44 fun X hX=>?_;refine up 3 ?_;refine rK hs fun K hK=>?_;simp only [go_sem,sgP,strB_list]
  refine eK ?_;refine WA.cond rfl (fun h=>?_) (fun h=>?_)
  ·
    have h:nameB c.iss=false∨nameB c.hold=false:=by first | (simp only [Bool.and_eq_true,Bool.or_eq_true,Bool.not_eq_true',decide_eq_true_eq,decide_eq_false_iff_not,beq_iff_eq,bne_iff_ne,ne_eq,Bool.not_eq_eq_eq_not,Bool.not_true,Bool.not_false,beq_eq_false_iff_ne,bne_eq_false_iff_eq,Bool.and_eq_false_imp,Bool.or_eq_false_iff,Bool.cond_false_right,Bool.cond_true_left,Bool.cond_false_left,Bool.cond_true_right,gt_iff_lt,ge_iff_le,true_and] at h;first | exact h | omega) | omega | simpa using h
    refine up 1 ?_;refine rE [.lit (.int .i64 (checkE c))] [] [.tmp 2] ?_;simp only [go_sem,sbT,checkE,h];all_goals exact agA
  ·
    have h:nameB c.iss=true∧nameB c.hold=true:=by first | (simp only [Bool.and_eq_true,Bool.or_eq_true,Bool.not_eq_true',decide_eq_true_eq,decide_eq_false_iff_not,beq_iff_eq,bne_iff_ne,ne_eq,Bool.not_eq_eq_eq_not,Bool.not_true,Bool.not_false,beq_eq_false_iff_ne,bne_eq_false_iff_eq,Bool.and_eq_false_imp,Bool.or_eq_false_iff,Bool.cond_false_right,Bool.cond_true_left,Bool.cond_false_left,Bool.cond_true_right,gt_iff_lt,ge_iff_le,true_and] at h;first | exact h | omega) | omega | simpa using h
    obtain ⟨h1,h2⟩:=h;refine rK hs fun K hK=>?_;simp only [go_sem,sgP]
    refine eK ?_;refine WA.cond rfl (fun h=>?_) (fun h=>?_)
    ·
      have h:eltB c.key=false:=by first | (simp only [Bool.and_eq_true,Bool.or_eq_true,Bool.not_eq_true',decide_eq_true_eq,decide_eq_false_iff_not,beq_iff_eq,bne_iff_ne,ne_eq,Bool.not_eq_eq_eq_not,Bool.not_true,Bool.not_false,beq_eq_false_iff_ne,bne_eq_false_iff_eq,Bool.and_eq_false_imp,Bool.or_eq_false_iff,Bool.cond_false_right,Bool.cond_true_left,Bool.cond_false_left,Bool.cond_true_right,gt_iff_lt,ge_iff_le,true_and] at h;first | exact h | omega) | omega | simpa using h
      refine up 1 ?_;refine rE [.lit (.int .i64 (checkE c))] [] [.tmp 2] ?_;simp only [go_sem,sbT,checkE,h,h1,h2];all_goals exact agA
    ·
      have h:eltB c.key=true:=by first | (simp only [Bool.and_eq_true,Bool.or_eq_true,Bool.not_eq_true',decide_eq_true_eq,decide_eq_false_iff_not,beq_iff_eq,bne_iff_ne,ne_eq,Bool.not_eq_eq_eq_not,Bool.not_true,Bool.not_false,beq_eq_false_iff_ne,bne_eq_false_iff_eq,Bool.and_eq_false_imp,Bool.or_eq_false_iff,Bool.cond_false_right,Bool.cond_true_left,Bool.cond_false_left,Bool.cond_true_right,gt_iff_lt,ge_iff_le,true_and] at h;first | exact h | omega) | omega | simpa using h
      have h3:=h;refine up 1 ?_;refine WA.cond rfl (fun h=>?_) (fun h=>?_)
      ·
        have h:c.role<1∨4<c.role:=by first | (simp only [Bool.and_eq_true,Bool.or_eq_true,Bool.not_eq_true',decide_eq_true_eq,decide_eq_false_iff_not,beq_iff_eq,bne_iff_ne,ne_eq,Bool.not_eq_eq_eq_not,Bool.not_true,Bool.not_false,beq_eq_false_iff_ne,bne_eq_false_iff_eq,Bool.and_eq_false_imp,Bool.or_eq_false_iff,Bool.cond_false_right,Bool.cond_true_left,Bool.cond_false_left,Bool.cond_true_right,gt_iff_lt,ge_iff_le,true_and] at h;first | exact h | omega) | omega | simpa using h
        refine up 1 ?_;refine rE [.lit (.int .i64 (checkE c))] [] [.tmp 2] ?_;simp only [go_sem,sbT,checkE,h,h1,h2,h3];all_goals exact agA
      ·
        have h:¬ (c.role<1∨4<c.role):=by first | (simp only [Bool.and_eq_true,Bool.or_eq_true,Bool.not_eq_true',decide_eq_true_eq,decide_eq_false_iff_not,beq_iff_eq,bne_iff_ne,ne_eq,Bool.not_eq_eq_eq_not,Bool.not_true,Bool.not_false,beq_eq_false_iff_ne,bne_eq_false_iff_eq,Bool.and_eq_false_imp,Bool.or_eq_false_iff,Bool.cond_false_right,Bool.cond_true_left,Bool.cond_false_left,Bool.cond_true_right,gt_iff_lt,ge_iff_le,true_and] at h;first | exact h | omega) | omega | simpa using h
        have h4:=h;refine up 1 ?_;refine WA.cond rfl (fun h=>?_) (fun h=>?_)
        ·
          have h:c.rt<0∨65535<c.rt:=by first | (simp only [Bool.and_eq_true,Bool.or_eq_true,Bool.not_eq_true',decide_eq_true_eq,decide_eq_false_iff_not,beq_iff_eq,bne_iff_ne,ne_eq,Bool.not_eq_eq_eq_not,Bool.not_true,Bool.not_false,beq_eq_false_iff_ne,bne_eq_false_iff_eq,Bool.and_eq_false_imp,Bool.or_eq_false_iff,Bool.cond_false_right,Bool.cond_true_left,Bool.cond_false_left,Bool.cond_true_right,gt_iff_lt,ge_iff_le,true_and] at h;first | exact h | omega) | omega | simpa using h
          refine up 1 ?_;refine rE [.lit (.int .i64 (checkE c))] [] [.tmp 2] ?_;simp only [go_sem,sbT,checkE,h,h1,h2,h3,h4];all_goals exact agA
        ·
          have h:¬ (c.rt<0∨65535<c.rt):=by first | (simp only [Bool.and_eq_true,Bool.or_eq_true,Bool.not_eq_true',decide_eq_true_eq,decide_eq_false_iff_not,beq_iff_eq,bne_iff_ne,ne_eq,Bool.not_eq_eq_eq_not,Bool.not_true,Bool.not_false,beq_eq_false_iff_ne,bne_eq_false_iff_eq,Bool.and_eq_false_imp,Bool.or_eq_false_iff,Bool.cond_false_right,Bool.cond_true_left,Bool.cond_false_left,Bool.cond_true_right,gt_iff_lt,ge_iff_le,true_and] at h;first | exact h | omega) | omega | simpa using h
          have h5:=h;refine rK hs fun K hK=>?_;simp only [go_sem,sgP]
          refine eK ?_;refine WA.cond rfl (fun h=>?_) (fun h=>?_)
          ·
            have h:¬ (0≤c.fr∧c.fr≤c.til∧c.til≤73048):=by first | (simp only [Bool.and_eq_true,Bool.or_eq_true,Bool.not_eq_true',decide_eq_true_eq,decide_eq_false_iff_not,beq_iff_eq,bne_iff_ne,ne_eq,Bool.not_eq_eq_eq_not,Bool.not_true,Bool.not_false,beq_eq_false_iff_ne,bne_eq_false_iff_eq,Bool.and_eq_false_imp,Bool.or_eq_false_iff,Bool.cond_false_right,Bool.cond_true_left,Bool.cond_false_left,Bool.cond_true_right,gt_iff_lt,ge_iff_le,daysB] at h;first | exact h | omega) | omega | simpa using h
            have h6:=daysB_f h;refine up 1 ?_;refine rE [.lit (.int .i64 (checkE c))] [] [.tmp 2] ?_;simp only [go_sem,sbT,checkE,h1,h2,h3,h4,h5,h6];all_goals exact agA
          ·
            have h:0≤c.fr∧c.fr≤c.til∧c.til≤73048:=by first | (simp only [Bool.and_eq_true,Bool.or_eq_true,Bool.not_eq_true',decide_eq_true_eq,decide_eq_false_iff_not,beq_iff_eq,bne_iff_ne,ne_eq,Bool.not_eq_eq_eq_not,Bool.not_true,Bool.not_false,beq_eq_false_iff_ne,bne_eq_false_iff_eq,Bool.and_eq_false_imp,Bool.or_eq_false_iff,Bool.cond_false_right,Bool.cond_true_left,Bool.cond_false_left,Bool.cond_true_right,gt_iff_lt,ge_iff_le,daysB] at h;first | exact h | omega) | omega | simpa using h
            have h6:=daysB_t h;refine up 2 ?_;refine rE [.lit (.int .i64 (checkE c))] [] [.tmp 2] ?_;simp only [go_sem,sbT,checkE,h1,h2,h3,h4,h5,h6];all_goals exact agA

theorem numS_be (n:Nat):∀ k,numS (beS n k)=n % p256 k:=by
  have key:∀ k,∀ x:Nat,(beS n k).foldl (fun n b=>n*256+b.toNat) x=x*p256 k+n % p256 k:=by
    intro k;induction k with
    | zero=>intro x;simp [beS,p256,Nat.mod_one]
    | succ k ih =>
      intro x;have e:beS n (k+1)=UInt8.ofNat (n / p256 k)::beS n k:=rfl;rw [e,List.foldl_cons,ih,UInt8.toNat_ofNat',p256_succ,Nat.add_mul];have h1:n % (p256 k*256)=n % p256 k+p256 k*(n / p256 k % 256):=Nat.mod_mul;rw [h1,Nat.mul_assoc x,Nat.mul_comm 256 (p256 k),Nat.mul_comm (p256 k) (n / p256 k % 256),show (2:Nat) ^ 8=256 from rfl]
      omega
  intro k;have:=key k 0;simpa [numS] using this
theorem numV_3 {d:Int} (h:0≤d∧d≤73048):numV (le3 d)=d∧numS (le3 d)=d.toNat:=by
  have e:=numS_be d.toNat 3;have p:p256 3=16777216:=by decide +kernel
  rw [← le3_be h.1,p,Nat.mod_eq_of_lt (by omega)] at e;refine ⟨?_,e⟩;unfold numV;rw [if_neg (by simp [le3]),e];omega
theorem numV_2 {d:Int} (h:0≤d∧d≤65535):numV (le2 d)=d∧numS (le2 d)=d.toNat:=by
  have e:=numS_be d.toNat 2;have p:p256 2=65536:=by decide +kernel
  rw [← le2_be h.1,p,Nat.mod_eq_of_lt (by omega)] at e;refine ⟨?_,e⟩;unfold numV;rw [if_neg (by simp [le2]),e];omega
theorem numV_1 {n:Nat} (h:n≤255):numV [byt (n:Int)]=(n:Int):=by
  rw [byt_nat];simp only [numV,numS,List.length_cons,List.length_nil,List.foldl_cons,List.foldl_nil,UInt8.toNat_ofNat'];rw [if_neg (by omega)];omega
theorem elt_rng {x:Int} (h:eltB x=true):1≤x∧x<2147483579:=by
  unfold eltB at h;simp only [Bool.and_eq_true,decide_eq_true_eq] at h;have:=resB_t h.1.1;omega
theorem key_back {x:Int} (h:eltB x=true):(encL x).length=4∧numV (encL x)=x∧numS (encL x)=x.toNat∧decV (encL x)=x∧decE (encL x)=0:=by
  obtain ⟨h1,h2⟩:=elt_rng h;have e0:encL x=beS x.toNat 4:=if_pos h;have e:=numS_be x.toNat 4;have p:p256 4=4294967296:=by decide +kernel
  rw [p,Nat.mod_eq_of_lt (by omega)] at e;have l:=length_beS x.toNat 4;have v:numV (beS x.toNat 4)=x:=by
    unfold numV;rw [l,if_neg (by omega),e];omega
  rw [e0];refine ⟨l,v,e,?_,?_⟩
  · unfold decV;rw [if_pos l,v,if_pos h]
  · unfold decE;rw [if_pos l,v,if_pos h]
def okS (d:List UInt8) (s:Sto):Prop:=validE s=0∧encS s=d
def remS (s:Sto) (i:Nat):List UInt8:=((s.pts.drop i).map encPt).flatten
theorem enc_eq {d:List UInt8} {s:Sto} (h:okS d s):d=le3 s.now++([byt (s.pts.length:Nat)]++remS s 0):=by
  obtain ⟨h1,h2⟩:=h;rw [← h2];unfold encS acE remS;rw [if_pos h1,List.take_length,List.drop_zero,List.append_assoc]
theorem rem_step {d:List UInt8} {s:Sto} (h:okS d s) {i:Nat} (hi:i<s.pts.length):remS s i=encPt s.pts[i]++remS s (i+1):=by
  unfold remS;rw [List.drop_eq_getElem_cons hi,List.map_cons,List.flatten_cons]
theorem tk_ok {d x y:List UInt8} {p n:Nat} (hp:p≤d.length) (h:d.drop p=x++y) (hx:x.length=n):tkF d p false n=false∧tkL d p false n=x∧tkP d p false n=p+n∧p+n≤d.length∧d.drop (p+n)=y:=by
  have hl:=congrArg List.length h;rw [List.length_drop,List.length_append,hx] at hl;have e:tkF d p false n=false:=by
    unfold tkF;rw [Bool.false_or,decide_eq_false_iff_not];omega
  refine ⟨e,?_,?_,by omega,?_⟩
  · unfold tkL;rw [if_neg (by simp [e]),h,← hx];simp
  · unfold tkP;rw [if_neg (by simp [e])]
  · rw [← List.drop_drop,h,← hx];simp
def FitR (d:List UInt8) (i p:Nat) (b:Bool) (l:List Pt) (now n:Int):Prop:=∀ s,okS d s→b=false∧p≤d.length∧d.drop p=remS s i∧l=s.pts.take i∧now=s.now∧n=(s.pts.length:Nat)
theorem fit_0 (d:List UInt8):FitR d 0 (tkP d (tkP d 0 false 3) (tkF d 0 false 3) 1) (tkF d (tkP d 0 false 3) (tkF d 0 false 3) 1) [] (numV (tkL d 0 false 3)) (numV (tkL d (tkP d 0 false 3) (tkF d 0 false 3) 1)):=by
  intro s hs;have e:=enc_eq hs;obtain ⟨a1,a2,a3⟩:=valid_ok hs.1;obtain ⟨f1,f2,f3,f4,f5⟩:=tk_ok (p:=0) (n:=3) (Nat.zero_le _) e rfl;obtain ⟨g1,g2,g3,g4,g5⟩:=tk_ok (n:=1) f4 f5 rfl;rw [f1,f2,f3,g1,g2,g3];exact ⟨rfl,g4,g5,rfl,(numV_3 a3).1,numV_1 (by omega)⟩
def rdPt (d:List UInt8) (p:Nat) (b:Bool):Pt × Nat × Bool × List UInt8 :=
  let n:=(numV (tkL d p b 1)).toNat
  let p1:=tkP d p b 1
  let b1:=tkF d p b 1
  let h:=tkL d p1 b1 n
  let p2:=tkP d p1 b1 n
  let b2:=tkF d p1 b1 n
  let k:=tkL d p2 b2 4
  let p3:=tkP d p2 b2 4
  let b3:=tkF d p2 b2 4
  let r:=tkL d p3 b3 2
  let p4:=tkP d p3 b3 2
  let b4:=tkF d p3 b3 2
  let f:=tkL d p4 b4 3
  let p5:=tkP d p4 b4 3
  let b5:=tkF d p4 b4 3
  (⟨h,decV k,numV r,numV f,numV (tkL d p5 b5 3)⟩,tkP d p5 b5 3,tkF d p5 b5 3,k)
theorem fit_succ {d:List UInt8} {i p:Nat} {b:Bool} {l:List Pt} {now n:Int} (h:FitR d i p b l now n) (hi:(i:Int)<n):FitR d (i+1) (rdPt d p b).2.1 (rdPt d p b).2.2.1 (l++[(rdPt d p b).1]) now n ∧ ∀ s,okS d s→decE (rdPt d p b).2.2.2=0:=by
  have key:∀ s,okS d s→(rdPt d p b).2.2.1=false∧(rdPt d p b).2.1≤d.length∧d.drop (rdPt d p b).2.1=remS s (i+1)∧(∃ hi:i<s.pts.length,(rdPt d p b).1=s.pts[i])∧decE (rdPt d p b).2.2.2=0:=by
    intro s hs;obtain ⟨rfl,hp,hd,hl,hnow,hn⟩:=h s hs;have hi2:i<s.pts.length:=by omega
    obtain ⟨a1,a2,a3⟩:=valid_ok hs.1;have hk:=a2 _ (List.getElem_mem hi2);obtain ⟨p1,p2,p3,p4,p5⟩:=point_ok hk;obtain ⟨k1,k2,k3,k4,k5⟩:=key_back p2;rw [rem_step hs hi2] at hd;unfold encPt at hd;simp only [List.append_assoc] at hd;obtain ⟨a1,a2,a3,a4,a5⟩:=tk_ok (n:=1) hp hd rfl;have v1:=numV_1 (n:=s.pts[i].h.length) (by omega);obtain ⟨b1,b2,b3,b4,b5⟩:=tk_ok (n:=s.pts[i].h.length) a4 a5 rfl;obtain ⟨c1,c2,c3,c4,c5⟩:=tk_ok (n:=4) b4 b5 k1;obtain ⟨d1,d2,d3,d4,d5⟩:=tk_ok (n:=2) c4 c5 rfl;obtain ⟨e1,e2,e3,e4,e5⟩:=tk_ok (n:=3) d4 d5 rfl;obtain ⟨f1,f2,f3,f4,f5⟩:=tk_ok (n:=3) e4 e5 rfl;unfold rdPt;simp only [a1,a2,a3,v1,Int.toNat_natCast,b1,b2,b3,c1,c2,c3,d1,d2,d3,e1,e2,e3,f1,f2,f3,k4,k5,(numV_2 p3).1,(numV_3 p4).1,(numV_3 p5).1];exact ⟨trivial,f4,f5,⟨hi2,trivial⟩,trivial⟩
  refine ⟨fun s hs=>?_,fun s hs=>(key s hs).2.2.2.2⟩;obtain ⟨k1,k2,k3,⟨hi2,k4⟩,_⟩:=key s hs;obtain ⟨_,_,_,hl,hnow,hn⟩:=h s hs;refine ⟨k1,k2,k3,?_,hnow,hn⟩;rw [k4,hl,List.take_add_one,List.getElem?_eq_getElem hi2];rfl
theorem fit_end {d:List UInt8} {i p:Nat} {b:Bool} {l:List Pt} {now n:Int} (h:FitR d i p b l now n) (hi:n≤i):∀ s,okS d s→(⟨l,now⟩:Sto)=s∧b=false:=by
  intro s hs;obtain ⟨hb,_,_,hl,hnow,hn⟩:=h s hs;rw [List.take_of_length_le (by omega)] at hl;rw [hl,hnow];exact ⟨rfl,hb⟩
def candL (d:List UInt8):Nat→Nat × Bool × List Pt
  | 0=>(tkP d (tkP d 0 false 3) (tkF d 0 false 3) 1,tkF d (tkP d 0 false 3) (tkF d 0 false 3) 1,[])
  | i+1=>((rdPt d (candL d i).1 (candL d i).2.1).2.1,(rdPt d (candL d i).1 (candL d i).2.1).2.2.1,(candL d i).2.2++[(rdPt d (candL d i).1 (candL d i).2.1).1])
def candN (d:List UInt8):Int:=numV (tkL d (tkP d 0 false 3) (tkF d 0 false 3) 1)
def cand (d:List UInt8):Sto:=⟨(candL d (candN d).toNat).2.2,numV (tkL d 0 false 3)⟩
theorem cand_fit (d:List UInt8):∀ i:Nat,(i:Int)≤candN d→FitR d i (candL d i).1 (candL d i).2.1 (candL d i).2.2 (numV (tkL d 0 false 3)) (candN d)
  | 0,_=>fit_0 d
  | i+1,h=>(fit_succ (cand_fit d i (by omega)) (by omega)).1
theorem cand_eq {d:List UInt8} {s:Sto} (h:okS d s):cand d=s:=by
  have h0:0≤candN d:=by
    have:=(fit_0 d s h).2.2.2.2.2;unfold candN;omega
  exact (fit_end (cand_fit d (candN d).toNat (by omega)) (by omega) s h).1
def dcV (d:List UInt8):Sto:=if validE (cand d)=0∧encS (cand d)=d then cand d else ⟨[],0⟩
def dcE (d:List UInt8):Int:=if validE (cand d)=0∧encS (cand d)=d then 0 else 1
theorem dc_yes {d:List UInt8} {s:Sto} (h:okS d s):dcV d=s∧dcE d=0:=by
  have e:=cand_eq h;have h':validE (cand d)=0∧encS (cand d)=d:=by rw [e];exact h
  exact ⟨(if_pos h').trans e,if_pos h'⟩
theorem dc_no {d:List UInt8} (h:∀ s,¬ okS d s):dcV d=⟨[],0⟩∧dcE d=1:=⟨if_neg (h _),if_neg (h _)⟩
end Go.Proofs.YtjjkfpbkmhfckaaGreatDoor.Ch
