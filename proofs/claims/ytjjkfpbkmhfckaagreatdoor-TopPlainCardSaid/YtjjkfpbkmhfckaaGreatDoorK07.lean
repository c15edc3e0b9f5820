import Derived.Test.YtjjkfpbkmhfckaaGreatDoorK06
set_option linter.unusedVariables false
set_option linter.unusedSimpArgs false
set_option maxHeartbeats 1000000
set_option maxRecDepth 10000
namespace Go.Proofs.YtjjkfpbkmhfckaaGreatDoor.Fil
open Go.RowKit Go.TravelBase Go.TravelAbs
@[go_sem] theorem arr0:(List.toArray ([]:List Operand)).isEmpty=true:=rfl
structure Fl where
  id:Int
  short:Int
  content:List UInt8
  level:Int
  right:Int
def flA (f:Fl):AV:=.agg [.lit (.int .i64 f.id),.lit (.int .i64 f.short),.by_ f.content,.lit (.int .i64 f.level),.lit (.int .i64 f.right)]
def unF:AV→Fl
  | .agg [.lit (.int _ a),.lit (.int _ b),.by_ c,.lit (.int _ d),.lit (.int _ e)]=>⟨a,b,c,d,e⟩
  | _=>⟨0,0,[],0,0⟩
theorem un_fl (f:Fl):unF (flA f)=f:=rfl
theorem un_fls (l:List Fl):(l.map flA).map unF=l:=by
  rw [List.map_map];exact (List.map_congr_left fun x _=>un_fl x).trans (List.map_id _)
theorem Tr_flA (f:Fl):Tr (flA f):=Tr.agg fun x hx=>by
  simp only [List.mem_cons,List.not_mem_nil,or_false] at hx;rcases hx with rfl | rfl | rfl | rfl | rfl <;> first | exact Tr.lit _ | exact Tr.by_ _
theorem Tr_fls (l:List Fl):Tr (.li 5 (l.map flA))=True:=eq_true (Tr.li fun x hx y hy=>by
  obtain ⟨f,_,rfl⟩:=List.mem_map.1 hx;simp only [flA,AV.cl,List.mem_cons,List.not_mem_nil,or_false] at hy;rcases hy with rfl | rfl | rfl | rfl | rfl <;> first | exact Tr.lit _ | exact Tr.by_ _)
theorem fl_at {l:List Fl} {i:Nat} (h:i<l.length):(l.map flA).getD i .any = .agg [.lit (.int .i64 l[i].id),.lit (.int .i64 l[i].short),.by_ l[i].content,.lit (.int .i64 l[i].level),.lit (.int .i64 l[i].right)]:=by
  simp [List.getD,List.getElem?_eq_getElem h,flA]
structure Fap where
  name:List UInt8
  files:List Fl
def apA (a:Fap):AV:=.agg [.by_ a.name,.li 5 (a.files.map flA)]
def unP:AV→Fap
  | .agg [.by_ n,.li _ xs]=>⟨n,xs.map unF⟩
  | _=>⟨[],[]⟩
theorem un_ap (a:Fap):unP (apA a)=a:=by
  cases a
  simp only [apA,unP,un_fls]
theorem un_aps (l:List Fap):(l.map apA).map unP=l:=by
  rw [List.map_map];exact (List.map_congr_left fun x _=>un_ap x).trans (List.map_id _)
theorem Tr_aps (l:List Fap):Tr (.li 2 (l.map apA))=True:=eq_true (Tr.li fun x hx y hy=>by
  obtain ⟨a,_,rfl⟩:=List.mem_map.1 hx;simp only [apA,AV.cl,List.mem_cons,List.not_mem_nil,or_false] at hy;rcases hy with rfl | rfl
  · exact Tr.by_ _
  · exact of_eq_true (Tr_fls _))
theorem ap_at {l:List Fap} {i:Nat} (h:i<l.length):(l.map apA).getD i .any = .agg [.by_ l[i].name,.li 5 (l[i].files.map flA)]:=by
  simp [List.getD,List.getElem?_eq_getElem h,apA]
def fdx {T:Type} (p:T→Bool) (l:List T):Int:=if l.findIdx p<l.length then (l.findIdx p:Int) else -1
theorem fdx_yes {T:Type} {p:T→Bool} {l:List T} {i:Nat} (h:i<l.length) (h1:p l[i]=true) (h2:∀ j (hj:j<i),p (l[j]'(by omega))=false):fdx p l=i:=by
  have e:l.findIdx p=i:=(List.findIdx_eq h).2 ⟨h1,h2⟩;unfold fdx;rw [e,if_pos h]
theorem fdx_no {T:Type} {p:T→Bool} {l:List T} (h2:∀ j (hj:j<l.length),p l[j]=false):fdx p l = -1:=by
  have e:l.findIdx p=l.length:=List.findIdx_eq_length.2 fun x hx=>by
    obtain ⟨j,hj,rfl⟩:=List.getElem_of_mem hx;exact h2 j hj
  unfold fdx;rw [e,if_neg (Nat.lt_irrefl _)]
theorem fdx_any {T:Type} (p:T→Bool) (l:List T):decide (fdx p l ≥ 0)=l.any p:=by
  unfold fdx;cases h:l.any p with
  | true =>
    have h1:l.findIdx p<l.length:=List.findIdx_lt_length.2 (by simpa using h);rw [if_pos h1];simp
  | false =>
    have h1:¬ l.findIdx p<l.length:=fun h2=>by
      have:=List.findIdx_lt_length.1 h2;simp at h;obtain ⟨x,hx,hp⟩:=this;rw [h x hx] at hp;cases hp
    rw [if_neg h1];rfl
open Classical in
noncomputable def sg_idxF_s (g:FuncId) (y:AV) (p:Fl→Bool):Sg:=fun f args ls =>
  match args,ls with
  | [.agg [.lit (.int .i64 a),.lit (.int .i64 b),.by_ c,.lit (.int .i64 d),.lit (.int .i64 e)],z],[]=>if f=g∧z = .ep y 0 then some (.lit (.bool (p ⟨a,b,c,d,e⟩)),[],True) else none
  | _,_=>none
theorem sg_idxF_s_ok (g:FuncId) (y:AV) (p:Fl→Bool) (hok:FnOK Tryz.prog g) (hp:∀ x,FnS Tryz.prog g [flA x,.ep y 0] [] (.lit (.bool (p x))) []):SgOK Tryz.prog (sg_idxF_s g y p):=by
  intro f args ls r ls' vc h hvc;unfold sg_idxF_s at h;split at h
  · split at h
    · rename_i hc;obtain ⟨rfl,rfl⟩:=hc;simp only [Option.some.injEq,Prod.mk.injEq] at h;obtain ⟨rfl,rfl,rfl⟩:=h;refine ⟨hok,?_⟩;exact hp ⟨_,_,_,_,_⟩
    · cases h
  · cases h
theorem idxF_s (g:FuncId) (y:AV) (p:Fl→Bool) (l:List Fl) (hok:FnOK Tryz.prog g) (hT:Tr (.ep y 0)=True) (hp:∀ x,FnS Tryz.prog g [flA x,.ep y 0] [] (.lit (.bool (p x))) []):FnS Tryz.prog 214 [.li 5 (l.map flA),.clo g [.ep y 0]] [] (.lit (.int .i64 (fdx p l))) []:=by
  have hs:=sg_idxF_s_ok g y p hok hp;refine FnS.len fun hL _=>?_;have hL:=hL 0 5 _ rfl;rw [List.length_map] at hL;simp only [maxLen] at hL;have hcT:Tr (.clo g [.ep y 0])=True:=eq_true (Tr.clo fun x hx=>by
    simp only [List.mem_cons,List.not_mem_nil,or_false] at hx;subst hx;exact of_eq_true hT)
  refine fo Tryz.func214 19 fun X hX=>?_;refine up 4 ?_;refine WA.loopW hX (fun k=>k) ((fun (i:Nat)=>⟨[(0,.li 5 (l.map flA)),(1,.clo g [.ep y 0]),(7,.lit (.int .i64 (l.length:Nat))),(8,.lit (.int .i64 (i:Nat)))],[],3000,19⟩:_→St)) (fun i=>l.length-i) (fun i=>i≤l.length ∧ ∀ j (hj:j<i) (hl:j<l.length),p l[j]=false) (i0:=0) (⟨by omega,fun j hj=>by omega⟩) (by simp only [go_sem,Int.natCast_add,Tr_fls,hcT] <;> (try and_intros) <;> (try omega)) fun i hi=>?_
  obtain ⟨hi,hno⟩:=hi;refine up 2 ?_;refine WA.cond rfl (fun h=>?_) (fun h=>?_)
  ·
    refine up 1 ?_
    have h6:i<l.length:=by have:=of_decide_eq_true h;omega
    have g1:=fl_at h6;clear h;refine up 3 ?_;refine rK hs fun K hK=>?_;simp only [go_sem,sg_idxF_s,g1,hT,Tr_fls,Tr_fls,un_fls]
    refine eK ?_;refine WA.cond rfl (fun h=>?_) (fun h=>?_)
    ·
      have e:fdx p l=i:=fdx_yes h6 h (fun j hj=>hno j hj (by omega));refine up 1 ?_;refine rE [.lit (.int .i64 (fdx p l))] [] [.tmp 4] ?_;simp only [go_sem,sbT,e]
    ·
      refine up 1 ?_
      refine WA.regionE ty_ok hs fun K hK=>?_;simp only [go_sem,true_and];and_intros
      all_goals try omega
      refine hK _ (roundE hX (fun k=>k) (j:=i+1) (⟨by omega,fun j hj hl=>by rcases Nat.lt_succ_iff_lt_or_eq.1 hj with q | rfl;exact hno j q hl;exact h⟩) (by first | omega | (dsimp only;omega) | (simp;omega)) (by simp only [go_sem,Int.natCast_add,Tr_fls,hcT] <;> (try and_intros) <;> (try omega)))
  ·
    have h6:i=l.length:=by have:=of_decide_eq_false h;omega
    subst h6;have e:fdx p l = -1:=fdx_no fun j hj=>hno j hj hj;refine up 2 ?_;refine rE [.lit (.int .i64 (fdx p l))] [] [.tmp 4] ?_;simp only [go_sem,sbT,e]
open Classical in
noncomputable def sg_idxP_s (g:FuncId) (y:AV) (p:Fap→Bool):Sg:=fun f args ls =>
  match args,ls with
  | [.agg [.by_ a,.li 5 xs],z],[]=>if f=g∧z = .ep y 0 then some (.lit (.bool (p ⟨a,xs.map unF⟩)),[],xs=(xs.map unF).map flA) else none
  | _,_=>none
theorem sg_idxP_s_ok (g:FuncId) (y:AV) (p:Fap→Bool) (hok:FnOK Tryz.prog g) (hp:∀ x,FnS Tryz.prog g [apA x,.ep y 0] [] (.lit (.bool (p x))) []):SgOK Tryz.prog (sg_idxP_s g y p):=by
  intro f args ls r ls' vc h hvc;unfold sg_idxP_s at h;split at h
  · split at h
    · rename_i hc;obtain ⟨rfl,rfl⟩:=hc;simp only [Option.some.injEq,Prod.mk.injEq] at h;obtain ⟨rfl,rfl,rfl⟩:=h;refine ⟨hok,?_⟩;rename_i a xs;have:=hp ⟨a,xs.map unF⟩;unfold apA at this;rw [← hvc] at this;exact this
    · cases h
  · cases h
theorem idxP_s (g:FuncId) (y:AV) (p:Fap→Bool) (l:List Fap) (hok:FnOK Tryz.prog g) (hT:Tr (.ep y 0)=True) (hp:∀ x,FnS Tryz.prog g [apA x,.ep y 0] [] (.lit (.bool (p x))) []):FnS Tryz.prog 166 [.li 2 (l.map apA),.clo g [.ep y 0]] [] (.lit (.int .i64 (fdx p l))) []:=by
  have hs:=sg_idxP_s_ok g y p hok hp;refine FnS.len fun hL _=>?_;have hL:=hL 0 2 _ rfl;rw [List.length_map] at hL;simp only [maxLen] at hL;have hcT:Tr (.clo g [.ep y 0])=True:=eq_true (Tr.clo fun x hx=>by
    simp only [List.mem_cons,List.not_mem_nil,or_false] at hx;subst hx;exact of_eq_true hT)
  refine fo Tryz.func166 19 fun X hX=>?_;refine up 4 ?_;refine WA.loopW hX (fun k=>k) ((fun (i:Nat)=>⟨[(0,.li 2 (l.map apA)),(1,.clo g [.ep y 0]),(7,.lit (.int .i64 (l.length:Nat))),(8,.lit (.int .i64 (i:Nat)))],[],3000,19⟩:_→St)) (fun i=>l.length-i) (fun i=>i≤l.length ∧ ∀ j (hj:j<i) (hl:j<l.length),p l[j]=false) (i0:=0) (⟨by omega,fun j hj=>by omega⟩) (by simp only [go_sem,Int.natCast_add,Tr_aps,hcT] <;> (try and_intros) <;> (try omega)) fun i hi=>?_
  obtain ⟨hi,hno⟩:=hi;refine up 2 ?_;refine WA.cond rfl (fun h=>?_) (fun h=>?_)
  ·
    refine up 1 ?_
    have h6:i<l.length:=by have:=of_decide_eq_true h;omega
    have g1:=ap_at h6;clear h;refine up 3 ?_;refine rK hs fun K hK=>?_;simp only [go_sem,sg_idxP_s,g1,hT,Tr_aps,Tr_fls,un_fls]
    refine eK ?_;refine WA.cond rfl (fun h=>?_) (fun h=>?_)
    ·
      have e:fdx p l=i:=fdx_yes h6 h (fun j hj=>hno j hj (by omega));refine up 1 ?_;refine rE [.lit (.int .i64 (fdx p l))] [] [.tmp 4] ?_;simp only [go_sem,sbT,e]
    ·
      refine up 1 ?_
      refine WA.regionE ty_ok hs fun K hK=>?_;simp only [go_sem,true_and];and_intros
      all_goals try omega
      refine hK _ (roundE hX (fun k=>k) (j:=i+1) (⟨by omega,fun j hj hl=>by rcases Nat.lt_succ_iff_lt_or_eq.1 hj with q | rfl;exact hno j q hl;exact h⟩) (by first | omega | (dsimp only;omega) | (simp;omega)) (by simp only [go_sem,Int.natCast_add,Tr_aps,hcT] <;> (try and_intros) <;> (try omega)))
  ·
    have h6:i=l.length:=by have:=of_decide_eq_false h;omega
    subst h6;have e:fdx p l = -1:=fdx_no fun j hj=>hno j hj hj;refine up 2 ?_;refine rE [.lit (.int .i64 (fdx p l))] [] [.tmp 4] ?_;simp only [go_sem,sbT,e]
open Classical in
noncomputable def sg_ctxF_s (g:FuncId) (y:AV) (p:Fl→Bool):Sg:=fun f args ls =>
  match f,args,ls with
  | 214,[.li es xs,.clo g' [.ep y' 0]],[]=>if g'=g∧y'=y then some (.lit (.int .i64 (fdx p (xs.map unF))),[],es=5∧xs=(xs.map unF).map flA) else none
  | _,_,_=>none
theorem ctxF_s (g:FuncId) (y:AV) (p:Fl→Bool) (l:List Fl) (hok:FnOK Tryz.prog g) (hT:Tr (.ep y 0)=True) (hp:∀ x,FnS Tryz.prog g [flA x,.ep y 0] [] (.lit (.bool (p x))) []):FnS Tryz.prog 165 [.li 5 (l.map flA),.clo g [.ep y 0]] [] (.lit (.bool (l.any p))) []:=by
  have hs:SgOK Tryz.prog (sg_ctxF_s g y p):=by
    intro f args ls r ls' vc h hvc;unfold sg_ctxF_s at h;split at h
    · split at h
      · rename_i hc;obtain ⟨rfl,rfl⟩:=hc;simp only [Option.some.injEq,Prod.mk.injEq] at h;obtain ⟨rfl,rfl,rfl⟩:=h;rename_i es xs g' y';obtain ⟨rfl,h2⟩:=hvc;refine ⟨(fnOK Tryz.func214 (by decide) rfl),?_⟩;have:=idxF_s g' y' p (xs.map unF) hok hT hp;rw [← h2] at this;exact this
      · cases h
    · cases h
  have hcT:Tr (.clo g [.ep y 0])=True:=eq_true (Tr.clo fun x hx=>by
    simp only [List.mem_cons,List.not_mem_nil,or_false] at hx;subst hx;exact of_eq_true hT)
  have e:=fdx_any p l;refine fo Tryz.func165 9 fun X hX=>?_;refine up 1 ?_;refine rK hs fun K hK=>?_;simp only [go_sem,sg_ctxF_s,Tr_fls,hcT,hT,un_fls]
  refine eK ?_;refine rE [.lit (.bool (l.any p))] [] [.tmp 4] ?_;simp only [go_sem,sbT,e]
open Classical in
noncomputable def sg_ctxP_s (g:FuncId) (y:AV) (p:Fap→Bool):Sg:=fun f args ls =>
  match f,args,ls with
  | 166,[.li es xs,.clo g' [.ep y' 0]],[]=>if g'=g∧y'=y then some (.lit (.int .i64 (fdx p (xs.map unP))),[],es=2∧xs=(xs.map unP).map apA) else none
  | _,_,_=>none
theorem ctxP_s (g:FuncId) (y:AV) (p:Fap→Bool) (l:List Fap) (hok:FnOK Tryz.prog g) (hT:Tr (.ep y 0)=True) (hp:∀ x,FnS Tryz.prog g [apA x,.ep y 0] [] (.lit (.bool (p x))) []):FnS Tryz.prog 118 [.li 2 (l.map apA),.clo g [.ep y 0]] [] (.lit (.bool (l.any p))) []:=by
  have hs:SgOK Tryz.prog (sg_ctxP_s g y p):=by
    intro f args ls r ls' vc h hvc;unfold sg_ctxP_s at h;split at h
    · split at h
      · rename_i hc;obtain ⟨rfl,rfl⟩:=hc;simp only [Option.some.injEq,Prod.mk.injEq] at h;obtain ⟨rfl,rfl,rfl⟩:=h;rename_i es xs g' y';obtain ⟨rfl,h2⟩:=hvc;refine ⟨(fnOK Tryz.func166 (by decide) rfl),?_⟩;have:=idxP_s g' y' p (xs.map unP) hok hT hp;rw [← h2] at this;exact this
      · cases h
    · cases h
  have hcT:Tr (.clo g [.ep y 0])=True:=eq_true (Tr.clo fun x hx=>by
    simp only [List.mem_cons,List.not_mem_nil,or_false] at hx;subst hx;exact of_eq_true hT)
  have e:=fdx_any p l;refine fo Tryz.func118 9 fun X hX=>?_;refine up 1 ?_;refine rK hs fun K hK=>?_;simp only [go_sem,sg_ctxP_s,Tr_aps,hcT,hT,un_aps]
  refine eK ?_;refine rE [.lit (.bool (l.any p))] [] [.tmp 4] ?_;simp only [go_sem,sbT,e]
def sameF (f g:Fl):Bool:=bif (g.id == f.id) then true else (bif (g.short == f.short) then (f.short != 0) else false)
def idF (z:Int) (g:Fl):Bool:=g.id == z
def shortF (z:Int) (g:Fl):Bool:=bif (g.short == z) then (z != 0) else false
def nameP (n:List UInt8) (a:Fap):Bool:=decide (a.name=n)
def nameQ (n:List UInt8) (a:Fap):Bool:=decide (n=a.name)
def sgE:Sg:=fun f args ls =>
  match f,args,ls with
  | 52,[.by_ a,.by_ b],[]=>some (.lit (.bool (decide (a=b))),[],True)
  | _,_,_=>none
theorem sgE_ok:SgOK Tryz.prog sgE:=by
  intro f args ls r ls' vc h hvc;unfold sgE at h;split at h <;> cases h
  exact ⟨(fnOK Tryz.func52 (by decide) rfl),bequal_s _ _⟩
theorem id1_s (z:Int) (g:Fl):FnS Tryz.prog 221 [flA g,.ep (.lit (.int .i64 z)) 0] [] (.lit (.bool (idF z g))) []:=by
  have hs:=sg0_ok;refine fo Tryz.func221 8 fun X hX=>?_;refine rK hs fun K hK=>?_;simp only [go_sem,flA]
  refine eK ?_;refine rK hs fun K hK=>?_;simp only [go_sem,flA]
  refine eK ?_;refine rE [.lit (.bool (idF z g))] [] [.tmp 3] ?_;simp only [go_sem,idF]
theorem short1_s (z:Int) (g:Fl):FnS Tryz.prog 222 [flA g,.ep (.lit (.int .i64 z)) 0] [] (.lit (.bool (shortF z g))) []:=by
  have hs:=sg0_ok;refine fo Tryz.func222 12 fun X hX=>?_;refine rK hs fun K hK=>?_;simp only [go_sem,flA]
  refine eK ?_;refine rK hs fun K hK=>?_;simp only [go_sem,flA]
  refine eK ?_;refine rE [.lit (.bool (shortF z g))] [] [.tmp 3] ?_;simp only [go_sem,shortF]
theorem check1_s (f g:Fl):FnS Tryz.prog 164 [flA g,.ep (flA f) 0] [] (.lit (.bool (sameF f g))) []:=by
  have hs:=sg0_ok;refine fo Tryz.func164 21 fun X hX=>?_;refine rK hs fun K hK=>?_;simp only [go_sem,flA]
  refine eK ?_;refine rK hs fun K hK=>?_;simp only [go_sem,flA]
  refine eK ?_;refine rE [.lit (.bool (sameF f g))] [] [.tmp 3] ?_;simp only [go_sem,sameF]
theorem valid1_s (a b:Fap):FnS Tryz.prog 119 [apA b,.ep (apA a) 0] [] (.lit (.bool (nameQ a.name b))) []:=by
  have hs:=sgE_ok;have t1:=Tr_fls b.files;refine fo Tryz.func119 9 fun X hX=>?_;refine rK hs fun K hK=>?_;simp only [go_sem,apA]
  refine eK ?_;refine rK hs fun K hK=>?_;simp only [go_sem,apA,sgE]
  refine eK ?_;refine rE [.lit (.bool (nameQ a.name b))] [] [.tmp 3] ?_;simp only [go_sem,nameQ]
theorem name1_s (n:List UInt8) (b:Fap):FnS Tryz.prog 219 [apA b,.ep (.by_ n) 0] [] (.lit (.bool (nameP n b))) []:=by
  have hs:=sgE_ok;have t1:=Tr_fls b.files;refine fo Tryz.func219 8 fun X hX=>?_;refine rK hs fun K hK=>?_;simp only [go_sem,apA]
  refine eK ?_;refine rK hs fun K hK=>?_;simp only [go_sem,apA,sgE]
  refine eK ?_;refine rE [.lit (.bool (nameP n b))] [] [.tmp 3] ?_;simp only [go_sem,nameP]
theorem Tr_epz (z:Int):Tr (.ep (.lit (.int .i64 z)) 0)=True:=Tr_ep fun y hy=>by
  simp only [AV.cl,List.mem_cons,List.not_mem_nil,or_false] at hy;subst hy;exact Tr.lit _
theorem Tr_epn (n:List UInt8):Tr (.ep (.by_ n) 0)=True:=Tr_ep fun y hy=>by
  simp only [AV.cl,List.mem_cons,List.not_mem_nil,or_false] at hy;subst hy;exact Tr.by_ _
theorem Tr_epf (f:Fl):Tr (.ep (flA f) 0)=True:=Tr_ep fun y hy=>by
  simp only [flA,AV.cl,List.mem_cons,List.not_mem_nil,or_false] at hy;rcases hy with rfl | rfl | rfl | rfl | rfl <;> first | exact Tr.lit _ | exact Tr.by_ _
theorem Tr_epa (a:Fap):Tr (.ep (apA a) 0)=True:=Tr_ep fun y hy=>by
  simp only [apA,AV.cl,List.mem_cons,List.not_mem_nil,or_false] at hy;rcases hy with rfl | rfl
  · exact Tr.by_ _
  · exact of_eq_true (Tr_fls _)
def errAt (l:List Fl) (i:Nat):Int :=
  if h:i<l.length then
    if l[i].id<1∨l[i].id > 65535∨l[i].short<0∨l[i].short > 30 then 3
    else if l[i].level<0∨l[i].level > 4∨l[i].right<0∨l[i].right > (if l[i].level=3 then 15 else 0) then 3
    else if l[i].content.length > 4096 then 2
    else if (l.take i).any (sameF l[i])=true then 15 else 0
  else 0
def fstE (e:Nat→Int):Nat→Int
  | 0=>0
  | n+1=>if fstE e n=0 then e n else fstE e n
theorem fstE_at {e:Nat→Int} {i n:Nat} (h0:fstE e i=0) (h1:e i ≠ 0) (h:i<n):fstE e n=e i:=by
  induction n with
  | zero=>omega
  | succ n ih =>
    rcases Nat.lt_succ_iff_lt_or_eq.1 h with q | rfl
    · simp only [fstE];rw [ih q,if_neg h1]
    · simp only [fstE];rw [if_pos h0]
theorem fstE_next {e:Nat→Int} {i:Nat} (h0:fstE e i=0) (h1:e i=0):fstE e (i+1)=0:=by
  simp only [fstE];rw [if_pos h0,h1]
def chk (l:List Fl):Int:=if l.length > 24 then 2 else fstE (errAt l) l.length
def sgF:Sg:=fun f args ls =>
  match f,args,ls with
  | 165,[.li 5 xs,.clo 164 [.ep x 0]],[]=>some (.lit (.bool ((xs.map unF).any (sameF (unF x)))),[],xs=(xs.map unF).map flA∧x=flA (unF x))
  | _,_,_=>none
theorem sgF_ok:SgOK Tryz.prog sgF:=by
  intro f args ls r ls' vc h hvc;unfold sgF at h;split at h <;> cases h
  rename_i xs x;obtain ⟨h1,h2⟩:=hvc;refine ⟨(fnOK Tryz.func165 (by decide) rfl),?_⟩;have:=ctxF_s 164 (flA (unF x)) (sameF (unF x)) (xs.map unF) (fnOK Tryz.func164 (by decide) rfl) (Tr_epf _) (check1_s _);rw [← h1,← h2] at this;exact this
theorem chk_err {l:List Fl} {i:Nat} {e:Int} (hl:¬ l.length > 24) (h0:fstE (errAt l) i=0) (h:i<l.length) (he:errAt l i=e) (hn:e ≠ 0):chk l=e:=by
  unfold chk;rw [if_neg hl,fstE_at h0 (by rw [he];exact hn) h,he]
theorem check_s (l:List Fl):FnS Tryz.prog 117 [.li 5 (l.map flA)] [] (.lit (.int .i64 (chk l))) []:=by
  have hs:=sgF_ok;refine fo Tryz.func117 73 fun X hX=>?_;refine up 3 ?_;refine WA.cond rfl (fun h=>?_) (fun h=>?_)
  ·
    have e:chk l=2:=if_pos (by have:=of_decide_eq_true h;omega);refine up 1 ?_;refine rE [.lit (.int .i64 (chk l))] [] [.tmp 2] ?_;simp only [go_sem,sbT,e]
  ·
    refine up 1 ?_
    have hl:¬ l.length > 24:=by have:=of_decide_eq_false h;omega
    clear h;refine up 3 ?_;refine WA.loopW hX (fun k=>k) ((fun (i:Nat)=>⟨[(7,.any),(0,.li 5 (l.map flA)),(10,.li 5 (l.map flA)),(11,.lit (.int .i64 (l.length:Nat))),(12,.lit (.int .i64 (i:Nat)))],[],3000,73⟩:_→St)) (fun i=>l.length-i) (fun i=>i≤l.length∧fstE (errAt l) i=0) (i0:=0) (⟨by omega,rfl⟩) (by simp only [go_sem,Int.natCast_add,Tr_fls] <;> (try and_intros) <;> (try omega)) fun i hi=>?_
    obtain ⟨hi,h0⟩:=hi;refine up 2 ?_;refine WA.cond rfl (fun h=>?_) (fun h=>?_)
    ·
      refine up 1 ?_
      have h6:i<l.length:=by have:=of_decide_eq_true h;omega
      have g1:=fl_at h6;have he:=fun e=>chk_err (e:=e) hl h0 h6;have hz:=fun (q:errAt l i=0)=>fstE_next h0 q;unfold errAt at he hz;rw [dif_pos h6] at he hz;clear h;obtain ⟨x,hx⟩:∃ x,l[i]=x:=⟨_,rfl⟩;rw [hx] at g1;rw [hx] at he hz;refine up 2 ?_;refine rK hs fun K hK=>?_;simp only [go_sem,g1]
      refine eK ?_;refine up 1 ?_;refine WA.join (fun (r:Int)=>⟨[(3,.lit (.int .i64 (i:Nat))),(4,.ptr 3032 0 0),(5,.lit (.int .i64 r)),(0,.li 5 (l.map flA)),(10,.li 5 (l.map flA)),(11,.lit (.int .i64 (l.length:Nat))),(12,.lit (.int .i64 (i:Nat)))],[(3032,⟨.li 5 [.agg [.lit (.int .i64 x.id),.lit (.int .i64 x.short),.by_ x.content,.lit (.int .i64 x.level),.lit (.int .i64 x.right)]],0,false⟩)],4000,73⟩) (fun r=>r=if x.level=3 then 15 else 0) ?_ ?_
      ·
        refine up 1 ?_;refine WA.cond rfl (fun h=>?_) (fun h=>?_)
        ·
          refine WA.regionE ty_ok hs fun K hK=>?_;simp only [go_sem,true_and];refine hK _ (WN.mk ?_);repeat with_reducible refine WN.b ?_
          refine WN.join hX (fun k=>k) (15) ((by have:=eq_of_beq h;rw [if_pos this])) (by simp only [go_sem,Int.natCast_add,Tr_fls] <;> (try and_intros) <;> (try omega))
        ·
          refine WA.skipN ?_;repeat with_reducible refine WN.b ?_
          refine WN.join hX (fun k=>k) (0) ((by rw [if_neg];intro q;rw [q] at h;simp at h)) (by simp only [go_sem,Int.natCast_add,Tr_fls] <;> (try and_intros) <;> (try omega))
      rintro r hr;rw [← hr] at he hz;have hr2:r≤15:=by rw [hr];split <;> omega
      refine up 1 ?_;refine WA.normT 6 fun K hK=>?_;simp only [go_sem,true_and]
      refine eK ?_;refine up 3 ?_;refine WA.cond rfl (fun h=>?_) (fun h=>?_)
      ·
        refine up 1 ?_
        refine WA.cond (congrArg (fun b=>AV.lit (.bool b)) h) (fun _=>?_) (fun q=>by cases q);have e:=he 3 (if_pos (by simp at h;omega)) (by decide);refine up 1 ?_;refine rE [.lit (.int .i64 (chk l))] [] [.tmp 2] ?_;simp only [go_sem,sbT,e]
      have h1:¬(x.id<1∨x.id > 65535):=by simp at h;omega
      clear h;refine up 1 ?_
      refine WA.cond rfl (fun h=>?_) (fun h=>?_)
      ·
        have e:=he 3 (if_pos (by simp at h;omega)) (by decide);refine up 1 ?_;refine rE [.lit (.int .i64 (chk l))] [] [.tmp 2] ?_;simp only [go_sem,sbT,e]
      have h2:¬(x.id<1∨x.id > 65535∨x.short<0∨x.short > 30):=by simp at h;omega
      clear h;rw [if_neg h2] at he hz;refine up 2 ?_;refine WA.cond rfl (fun h=>?_) (fun h=>?_)
      ·
        refine up 1 ?_
        refine WA.cond (congrArg (fun b=>AV.lit (.bool b)) h) (fun _=>?_) (fun q=>by cases q);have e:=he 3 (if_pos (by simp at h;omega)) (by decide);refine up 1 ?_;refine rE [.lit (.int .i64 (chk l))] [] [.tmp 2] ?_;simp only [go_sem,sbT,e]
      have h3:¬(x.level<0∨x.level > 4):=by simp at h;omega
      clear h;refine up 1 ?_
      refine WA.cond rfl (fun h=>?_) (fun h=>?_)
      ·
        have e:=he 3 (if_pos (by simp at h;omega)) (by decide);refine up 1 ?_;refine rE [.lit (.int .i64 (chk l))] [] [.tmp 2] ?_;simp only [go_sem,sbT,e]
      have h4:¬(x.level<0∨x.level > 4∨x.right<0∨x.right > r):=by simp at h;omega
      clear h;rw [if_neg h4] at he hz;have hm:(l.map flA).take i=(l.take i).map flA:=List.map_take.symm;refine up 1 ?_;refine WA.cond rfl (fun h=>?_) (fun h=>?_)
      ·
        have e:=he 2 (if_pos (by simp at h;omega)) (by decide);refine up 1 ?_;refine rE [.lit (.int .i64 (chk l))] [] [.tmp 2] ?_;simp only [go_sem,sbT,e]
      have h5:¬ x.content.length > 4096:=by simp at h;omega
      rw [if_neg h5] at he hz;clear h;have tx:Tr (.ep (.agg [.lit (.int .i64 x.id),.lit (.int .i64 x.short),.by_ x.content,.lit (.int .i64 x.level),.lit (.int .i64 x.right)]) 0)=True:=Tr_epf x;refine rK hs fun K hK=>?_;simp only [go_sem,sgF,hm,un_fls,unF,flA,Tr_fls,tx]
      refine eK ?_;refine WA.cond rfl (fun h=>?_) (fun h=>?_)
      ·
        have e:=he 15 (if_pos h) (by decide);refine up 1 ?_;refine rE [.lit (.int .i64 (chk l))] [] [.tmp 2] ?_;simp only [go_sem,sbT,e]
      ·
        refine up 1 ?_
        have h7:=hz (if_neg (by rw [show (l.take i).any (sameF x)=false from h];simp))
        refine WA.regionE ty_ok hs fun K hK=>?_;simp only [go_sem,true_and]
        (repeat refine sdA ?_);refine hK _ (roundE hX (fun k=>k) (j:=i+1) (⟨by omega,h7⟩) (by first | omega | (dsimp only;omega) | (simp;omega)) (by simp only [go_sem,Int.natCast_add,Tr_fls] <;> (try and_intros) <;> (try omega)))
    ·
      have h6:i=l.length:=by have:=of_decide_eq_false h;omega
      subst h6;refine up 1 ?_
      have e:chk l=0:=by unfold chk;rw [if_neg hl,h0]
      refine up 1 ?_;refine rE [.lit (.int .i64 (chk l))] [] [.tmp 2] ?_;simp only [go_sem,sbT,e]
theorem unP_mk (n:List UInt8) (xs:List AV):unP (.agg [.by_ n,.li 5 xs])=⟨n,xs.map unF⟩:=rfl
def errP (l:List Fap) (i:Nat):Int :=
  if h:i<l.length then
    if l[i].name.length<1∨l[i].name.length > 16 then 2
    else if (l.take i).any (nameQ l[i].name)=true then 15 else chk l[i].files
  else 0
def val (root:List Fl) (apps:List Fap):Int:=if apps.length > 4 then 2 else if chk root ≠ 0 then chk root else fstE (errP apps) apps.length
def sgV:Sg:=fun f args ls =>
  match f,args,ls with
  | 117,[.li 5 xs],[]=>some (.lit (.int .i64 (chk (xs.map unF))),[],xs=(xs.map unF).map flA)
  | 118,[.li 2 xs,.clo 119 [.ep x 0]],[]=>some (.lit (.bool ((xs.map unP).any (nameQ (unP x).name))),[],xs=(xs.map unP).map apA∧x=apA (unP x))
  | _,_,_=>none
theorem sgV_ok:SgOK Tryz.prog sgV:=by
  intro f args ls r ls' vc h hvc;unfold sgV at h;split at h <;> cases h
  · rename_i xs;refine ⟨(fnOK Tryz.func117 (by decide) rfl),?_⟩;have:=check_s (xs.map unF);rw [← hvc] at this;exact this
  · rename_i xs x;obtain ⟨h1,h2⟩:=hvc;refine ⟨(fnOK Tryz.func118 (by decide) rfl),?_⟩;have:=ctxP_s 119 (apA (unP x)) (nameQ (unP x).name) (xs.map unP) (fnOK Tryz.func119 (by decide) rfl) (Tr_epa _) (valid1_s _);rw [← h1,← h2] at this;exact this
theorem valid_s (root:List Fl) (apps:List Fap):FnS Tryz.prog 72 [.agg [.li 5 (root.map flA),.li 2 (apps.map apA)]] [] (.lit (.int .i64 (val root apps))) []:=by
  have hs:=sgV_ok;refine fo Tryz.func72 48 fun X hX=>?_;refine up 3 ?_;refine WA.cond rfl (fun h=>?_) (fun h=>?_)
  ·
    have e:val root apps=2:=if_pos (by have:=of_decide_eq_true h;omega);refine up 1 ?_;refine rE [.lit (.int .i64 (val root apps))] [] [.tmp 2] ?_;simp only [go_sem,sbT,e]
  ·
    refine up 1 ?_
    have hl:¬ apps.length > 4:=by have:=of_decide_eq_false h;omega
    clear h;refine up 1 ?_;refine rK hs fun K hK=>?_;simp only [go_sem,sgV,Tr_fls,un_fls]
    refine eK ?_;refine up 1 ?_;refine WA.cond rfl (fun h=>?_) (fun h=>?_)
    ·
      have e:val root apps=chk root:=by unfold val;rw [if_neg hl,if_pos (by simpa using h)]
      refine up 1 ?_;refine rE [.lit (.int .i64 (val root apps))] [] [.tmp 2] ?_;simp only [go_sem,sbT,e]
    ·
      refine up 1 ?_
      have hv:val root apps=fstE (errP apps) apps.length:=by unfold val;rw [if_neg hl,if_neg (by simpa using h)]
      clear h;refine up 3 ?_;refine WA.loopW hX (fun k=>k) ((fun (i:Nat)=>⟨[(1,.ptr 2000 0 0),(18,.li 2 (apps.map apA)),(19,.lit (.int .i64 (apps.length:Nat))),(20,.lit (.int .i64 (i:Nat)))],[(2000,⟨.li 2 [.agg [.li 5 (root.map flA),.li 2 (apps.map apA)]],0,false⟩)],3000,48⟩:_→St)) (fun i=>apps.length-i) (fun i=>i≤apps.length∧fstE (errP apps) i=0) (i0:=0) (⟨by omega,rfl⟩) (by simp only [go_sem,Int.natCast_add,Tr_fls,Tr_aps] <;> (try and_intros) <;> (try omega)) fun i hi=>?_
      obtain ⟨hi,h0⟩:=hi;refine up 2 ?_;refine WA.cond rfl (fun h=>?_) (fun h=>?_)
      ·
        refine up 1 ?_
        have h6:i<apps.length:=by have:=of_decide_eq_true h;omega
        have g1:=ap_at h6;have he:∀ e,errP apps i=e→e ≠ 0→val root apps=e:=fun e q hn=>by rw [hv,fstE_at h0 (by rw [q];exact hn) h6,q]
        have hz:=fun (q:errP apps i=0)=>fstE_next h0 q;unfold errP at he hz;rw [dif_pos h6] at he hz;have hm:(apps.map apA).take i=(apps.take i).map apA:=List.map_take.symm;clear h;obtain ⟨x,hx⟩:∃ x,apps[i]=x:=⟨_,rfl⟩;rw [hx] at g1;rw [hx] at he hz;have tx:Tr (.ep (.agg [.by_ x.name,.li 5 (x.files.map flA)]) 0)=True:=Tr_epa x;refine up 2 ?_;refine rK hs fun K hK=>?_;simp only [go_sem,g1]
        refine eK ?_;refine up 2 ?_;refine WA.cond rfl (fun h=>?_) (fun h=>?_)
        ·
          have e:=he 2 (if_pos (by simp at h;omega)) (by decide);refine up 1 ?_;refine rE [.lit (.int .i64 (val root apps))] [] [.tmp 2] ?_;simp only [go_sem,sbT,e]
        refine up 1 ?_
        have h1:¬(x.name.length<1∨x.name.length > 16):=by simp at h;omega
        rw [if_neg h1] at he hz;clear h;refine up 1 ?_;refine rK hs fun K hK=>?_;simp only [go_sem,sgV,hm,un_aps,un_fls,unP_mk,apA,Tr_aps,Tr_fls,tx]
        refine eK ?_;refine WA.cond rfl (fun h=>?_) (fun h=>?_)
        ·
          have e:=he 15 (if_pos h) (by decide);refine up 1 ?_;refine rE [.lit (.int .i64 (val root apps))] [] [.tmp 2] ?_;simp only [go_sem,sbT,e]
        refine up 1 ?_
        have h2:¬ (apps.take i).any (nameQ x.name)=true:=by
          rw [show (apps.take i).any (nameQ x.name)=false from h]
          simp
        rw [if_neg h2] at he hz;clear h;refine rK hs fun K hK=>?_;simp only [go_sem,sgV,un_fls,Tr_fls]
        refine eK ?_;refine up 1 ?_;refine WA.cond rfl (fun h=>?_) (fun h=>?_)
        ·
          have e:=he (chk x.files) rfl (by simpa using h);refine up 1 ?_;refine rE [.lit (.int .i64 (val root apps))] [] [.tmp 2] ?_;simp only [go_sem,sbT,e]
        ·
          refine up 1 ?_
          have h7:=hz (by simpa using h);refine WA.regionE ty_ok hs fun K hK=>?_;simp only [go_sem,true_and]
          (repeat refine sdA ?_);refine hK _ (roundE hX (fun k=>k) (j:=i+1) (⟨by omega,h7⟩) (by first | omega | (dsimp only;omega) | (simp;omega)) (by simp only [go_sem,Int.natCast_add,Tr_fls,Tr_aps] <;> (try and_intros) <;> (try omega)))
      ·
        have h6:i=apps.length:=by have:=of_decide_eq_false h;omega
        subst h6;have e:=hv.trans h0;refine up 2 ?_;refine rE [.lit (.int .i64 (val root apps))] [] [.tmp 2] ?_;simp only [go_sem,sbT,e]
def atB (root:List Fl) (apps:List Fap) (a:Int):Prop:=val root apps ≠ 0∨a < -1∨a ≥ apps.length
instance (root:List Fl) (apps:List Fap) (a:Int):Decidable (atB root apps a):=inferInstanceAs (Decidable (_∨_))
def atL (root:List Fl) (apps:List Fap) (a:Int):List Fl:=if atB root apps a then [] else if a = -1 then root else (apps.getD a.toNat ⟨[],[]⟩).files
def atO (root:List Fl) (apps:List Fap) (a f:Int):Bool:=bif decide (atB root apps a) then false else (bif decide (f ≥ -1) then decide (f<((atL root apps a).length:Int)) else false)
def sgA:Sg:=fun f args ls =>
  match f,args,ls with
  | 72,[.agg [.li 5 xs,.li 2 ys]],[]=>some (.lit (.int .i64 (val (xs.map unF) (ys.map unP))),[],xs=(xs.map unF).map flA∧ys=(ys.map unP).map apA)
  | _,_,_=>none
theorem sgA_ok:SgOK Tryz.prog sgA:=by
  intro f args ls r ls' vc h hvc;unfold sgA at h;split at h <;> cases h
  rename_i xs ys;refine ⟨(fnOK Tryz.func72 (by decide) rfl),?_⟩;have:=valid_s (xs.map unF) (ys.map unP);rw [← hvc.1,← hvc.2] at this;exact this
theorem at_s (root:List Fl) (apps:List Fap) (a f:Int):FnS Tryz.prog 256 [.agg [.li 5 (root.map flA),.li 2 (apps.map apA)],.agg [.lit (.int .i64 a),.lit (.int .i64 f)]] [] (.tup [.li 5 ((atL root apps a).map flA),.lit (.bool (atO root apps a f))]) []:=by
  have hs:=sgA_ok;refine fo Tryz.func256 46 fun X hX=>?_;refine up 2 ?_;refine rK hs fun K hK=>?_;simp only [go_sem,sgA,Tr_fls,Tr_aps,un_fls,un_aps]
  refine eK ?_;refine WA.cond rfl (fun h=>?_) (fun h=>?_)
  ·
    have hb:atB root apps a:=by
      unfold atB;revert h;by_cases h1:val root apps=0 <;> by_cases h2:a < -1 <;> simp [h1,h2]
    have e1:atL root apps a=[]:=if_pos hb;have e2:atO root apps a f=false:=by unfold atO;rw [decide_eq_true hb];rfl
    refine up 1 ?_;refine rE [.li 5 ((atL root apps a).map flA),.lit (.bool (atO root apps a f))] [] [.tmp 4,.tmp 5] ?_;simp only [go_sem,sbT,e1,e2]
  ·
    refine up 1 ?_
    have hb:¬ atB root apps a:=by
      unfold atB;revert h;by_cases h1:val root apps=0 <;> by_cases h2:a < -1 <;> simp [h1,h2] <;> try (intro h3;omega)
    have hb2 : -1≤a∧a<apps.length:=by unfold atB at hb;omega
    clear h;refine up 3 ?_;refine WA.cond rfl (fun h=>?_) (fun h=>?_)
    ·
      have h1:a ≠ -1:=by simpa using h
      have hg:a.toNat<apps.length:=by omega
      have g1:=ap_at hg;have e1:atL root apps a=apps[a.toNat].files:=by
        unfold atL;rw [if_neg hb,if_neg h1];simp [List.getD,List.getElem?_eq_getElem hg]
      have e2:atO root apps a f=(bif decide (f ≥ -1) then decide (f<(apps[a.toNat].files.length:Int)) else false):=by unfold atO;rw [decide_eq_false hb,e1];rfl
      refine WA.regionE ty_ok hs fun K hK=>?_;simp only [go_sem,g1]
      refine eN ?_
      refine WA.drawnK mixed_ ty_ok hs (tbl:=[[],[],[1],[1,2],[1,2,3],[1,2,3,4],[1,2,3,4,5],[1,2,3,4],[1,2,3,4,7],[1,2,3,4,5,6,7,8],[1,2,3,4,5,6,7,8,9],[0,1,2,3,4],[0,1,2,3,4,5,6,7,8,9,10,11]]) (nb:=[2,6]) (by kernel_rfl) fun K hK=>?_;simp only [go_sem,true_and]
      refine eK ?_;refine rE [.li 5 ((atL root apps a).map flA),.lit (.bool (atO root apps a f))] [] [.tmp 4,.tmp 5] ?_;simp only [go_sem,sbT,e1,e2,Tr_fls]
    ·
      refine up 1 ?_
      have h1:a = -1:=by simpa using h
      have e1:atL root apps a=root:=by
        unfold atL;rw [if_neg hb,if_pos h1]
      have e2:atO root apps a f=(bif decide (f ≥ -1) then decide (f<(root.length:Int)) else false):=by unfold atO;rw [decide_eq_false hb,e1];rfl
      refine WA.drawnK mixed_ ty_ok hs (tbl:=[[],[],[1],[1,2],[1,2,3],[1,2,3,4],[1,2,3,4,5],[1,2,3,4],[1,2,3,4,7],[1,2,3,4,5,6,7,8],[1,2,3,4,5,6,7,8,9],[0,1,2,3,4],[0,1,2,3,4,5,6,7,8,9,10,11]]) (nb:=[2,6]) (by kernel_rfl) fun K hK=>?_;simp only [go_sem,true_and]
      refine eK ?_;refine rE [.li 5 ((atL root apps a).map flA),.lit (.bool (atO root apps a f))] [] [.tmp 4,.tmp 5] ?_;simp only [go_sem,sbT,e1,e2,Tr_fls]
theorem atO_rng {root:List Fl} {apps:List Fap} {a f:Int} (h:atO root apps a f=true):¬ atB root apps a ∧ -1≤f∧f<((atL root apps a).length:Int):=by
  unfold atO at h;by_cases h1:atB root apps a
  · rw [decide_eq_true h1] at h;cases h
  · rw [decide_eq_false h1] at h;by_cases h2:f ≥ -1
    · rw [decide_eq_true h2] at h;exact ⟨h1,h2,of_decide_eq_true h⟩
    · rw [decide_eq_false h2] at h;cases h
def fndA (p:Fl→Bool) (root:List Fl) (apps:List Fap) (a f:Int):Int:=if atO root apps a f=true∧0≤fdx p (atL root apps a) then a else 0
def fndF (p:Fl→Bool) (root:List Fl) (apps:List Fap) (a f:Int):Int:=if atO root apps a f=true∧0≤fdx p (atL root apps a) then fdx p (atL root apps a) else 0
def fndE (p:Fl→Bool) (root:List Fl) (apps:List Fap) (a f:Int):Int:=if atO root apps a f=true then (if 0≤fdx p (atL root apps a) then 0 else 16) else 14
def sgB (g:FuncId) (y:AV) (p:Fl→Bool):Sg:=fun f args ls =>
  match f,args,ls with
  | 256,[.agg [.li 5 xs,.li 2 ys],.agg [.lit (.int .i64 a),.lit (.int .i64 b)]],[]=>some (.tup [.li 5 ((atL (xs.map unF) (ys.map unP) a).map flA),.lit (.bool (atO (xs.map unF) (ys.map unP) a b))],[],xs=(xs.map unF).map flA∧ys=(ys.map unP).map apA)
  | 214,[.li 5 xs,.clo g' [.ep y' 0]],[]=>some (.lit (.int .i64 (fdx p (xs.map unF))),[],(g'=g∧y'=y)∧xs=(xs.map unF).map flA)
  | _,_,_=>none
theorem sgB_ok {g:FuncId} {y:AV} {p:Fl→Bool} (hok:FnOK Tryz.prog g) (hT:Tr (.ep y 0)=True) (hp:∀ x,FnS Tryz.prog g [flA x,.ep y 0] [] (.lit (.bool (p x))) []):SgOK Tryz.prog (sgB g y p):=by
  intro f args ls r ls' vc h hvc;unfold sgB at h;split at h <;> cases h
  · rename_i xs ys a b;refine ⟨(fnOK Tryz.func256 (by decide) rfl),?_⟩;have:=at_s (xs.map unF) (ys.map unP) a b;rw [← hvc.1,← hvc.2] at this;exact this
  · rename_i xs g' y';obtain ⟨⟨rfl,rfl⟩,h⟩:=hvc;refine ⟨(fnOK Tryz.func214 (by decide) rfl),?_⟩;have:=idxF_s g' y' p (xs.map unF) hok hT hp;rw [← h] at this;exact this
theorem find_s (g:FuncId) (y:AV) (p:Fl→Bool) (root:List Fl) (apps:List Fap) (a f:Int) (hok:FnOK Tryz.prog g) (hT:Tr (.ep y 0)=True) (hp:∀ x,FnS Tryz.prog g [flA x,.ep y 0] [] (.lit (.bool (p x))) []) :
    FnS Tryz.prog 220 [.agg [.li 5 (root.map flA),.li 2 (apps.map apA)],.agg [.lit (.int .i64 a),.lit (.int .i64 f)],.clo g [.ep y 0]] [] (.tup [.agg [.lit (.int .i64 (fndA p root apps a f)),.lit (.int .i64 (fndF p root apps a f))],.lit (.int .i64 (fndE p root apps a f))]) []:=by
  have hs:=sgB_ok hok hT hp;have hcT:Tr (.clo g [.ep y 0])=True:=eq_true (Tr.clo fun x hx=>by
    simp only [List.mem_cons,List.not_mem_nil,or_false] at hx;subst hx;exact of_eq_true hT)
  refine fo Tryz.func220 30 fun X hX=>?_;refine up 1 ?_;refine rK hs fun K hK=>?_;simp only [go_sem,sgB,Tr_fls,Tr_aps,un_fls,un_aps]
  refine eK ?_;refine up 2 ?_;refine WA.cond rfl (fun h=>?_) (fun h=>?_)
  ·
    have h1:atO root apps a f=false:=by simpa using h
    have h2:¬ atO root apps a f=true:=by rw [h1];simp
    refine up 1 ?_;refine rE [.agg [.lit (.int .i64 (fndA p root apps a f)),.lit (.int .i64 (fndF p root apps a f))],.lit (.int .i64 (fndE p root apps a f))] [] [.cell 6 51,.tmp 7] ?_;simp only [go_sem,sbT,fndA,fndF,fndE,h1];all_goals simp
  ·
    refine up 1 ?_
    have h1:atO root apps a f=true:=by simpa using h
    refine rK hs fun K hK=>?_;simp only [go_sem,sgB,Tr_fls,un_fls,hcT,hT]
    refine eK ?_;refine up 2 ?_;refine WA.cond rfl (fun h=>?_) (fun h=>?_)
    ·
      have h2:¬ (0≤fdx p (atL root apps a)):=by have:=of_decide_eq_true h;omega
      refine up 1 ?_;refine rE [.agg [.lit (.int .i64 (fndA p root apps a f)),.lit (.int .i64 (fndF p root apps a f))],.lit (.int .i64 (fndE p root apps a f))] [] [.cell 6 51,.tmp 7] ?_;simp only [go_sem,sbT,fndA,fndF,fndE,h1,h2]
    ·
      refine up 1 ?_
      have h2:(0≤fdx p (atL root apps a)):=by have:=of_decide_eq_false h;omega
      refine up 1 ?_;refine rE [.agg [.lit (.int .i64 (fndA p root apps a f)),.lit (.int .i64 (fndF p root apps a f))],.lit (.int .i64 (fndE p root apps a f))] [] [.cell 6 51,.tmp 7] ?_;simp only [go_sem,sbT,fndA,fndF,fndE,h1,h2]
def sgH:Sg:=fun f args ls =>
  match f,args,ls with
  | 220,[.agg [.li 5 xs,.li 2 ys],.agg [.lit (.int .i64 a),.lit (.int .i64 b)],.clo 221 [.ep (.lit (.int .i64 z)) 0]],[]=>some (.tup [.agg [.lit (.int .i64 (fndA (idF z) (xs.map unF) (ys.map unP) a b)),.lit (.int .i64 (fndF (idF z) (xs.map unF) (ys.map unP) a b))],.lit (.int .i64 (fndE (idF z) (xs.map unF) (ys.map unP) a b))],[],xs=(xs.map unF).map flA∧ys=(ys.map unP).map apA)
  | 220,[.agg [.li 5 xs,.li 2 ys],.agg [.lit (.int .i64 a),.lit (.int .i64 b)],.clo 222 [.ep (.lit (.int .i64 z)) 0]],[]=>some (.tup [.agg [.lit (.int .i64 (fndA (shortF z) (xs.map unF) (ys.map unP) a b)),.lit (.int .i64 (fndF (shortF z) (xs.map unF) (ys.map unP) a b))],.lit (.int .i64 (fndE (shortF z) (xs.map unF) (ys.map unP) a b))],[],xs=(xs.map unF).map flA∧ys=(ys.map unP).map apA)
  | 72,[.agg [.li 5 xs,.li 2 ys]],[]=>some (.lit (.int .i64 (val (xs.map unF) (ys.map unP))),[],xs=(xs.map unF).map flA∧ys=(ys.map unP).map apA)
  | 166,[.li 2 ys,.clo 219 [.ep (.by_ n) 0]],[]=>some (.lit (.int .i64 (fdx (nameP n) (ys.map unP))),[],ys=(ys.map unP).map apA)
  | 256,[.agg [.li 5 xs,.li 2 ys],.agg [.lit (.int .i64 a),.lit (.int .i64 b)]],[]=>some (.tup [.li 5 ((atL (xs.map unF) (ys.map unP) a).map flA),.lit (.bool (atO (xs.map unF) (ys.map unP) a b))],[],xs=(xs.map unF).map flA∧ys=(ys.map unP).map apA)
  | _,_,_=>none
theorem sgH_ok:SgOK Tryz.prog sgH:=by
  intro f args ls r ls' vc h hvc;unfold sgH at h;split at h <;> cases h
  · rename_i xs ys a b z;refine ⟨(fnOK Tryz.func220 (by decide) rfl),?_⟩;have:=find_s _ (.lit (.int .i64 z)) (idF z) (xs.map unF) (ys.map unP) a b (fnOK Tryz.func221 (by decide) rfl) (Tr_epz z) (id1_s z);rw [← hvc.1,← hvc.2] at this;exact this
  · rename_i xs ys a b z;refine ⟨(fnOK Tryz.func220 (by decide) rfl),?_⟩;have:=find_s _ (.lit (.int .i64 z)) (shortF z) (xs.map unF) (ys.map unP) a b (fnOK Tryz.func222 (by decide) rfl) (Tr_epz z) (short1_s z);rw [← hvc.1,← hvc.2] at this;exact this
  · rename_i xs ys;refine ⟨(fnOK Tryz.func72 (by decide) rfl),?_⟩;have:=valid_s (xs.map unF) (ys.map unP);rw [← hvc.1,← hvc.2] at this;exact this
  · rename_i ys n;refine ⟨(fnOK Tryz.func166 (by decide) rfl),?_⟩;have:=idxP_s _ (.by_ n) (nameP n) (ys.map unP) (fnOK Tryz.func219 (by decide) rfl) (Tr_epn n) (name1_s n);rw [← hvc] at this;exact this
  · rename_i xs ys a b;refine ⟨(fnOK Tryz.func256 (by decide) rfl),?_⟩;have:=at_s (xs.map unF) (ys.map unP) a b;rw [← hvc.1,← hvc.2] at this;exact this
theorem short_s (root:List Fl) (apps:List Fap) (a f z:Int):FnS Tryz.prog 186 [.agg [.li 5 (root.map flA),.li 2 (apps.map apA)],.agg [.lit (.int .i64 a),.lit (.int .i64 f)],.lit (.int .i64 z)] [] (.tup [.agg [.lit (.int .i64 (fndA (shortF z) root apps a f)),.lit (.int .i64 (fndF (shortF z) root apps a f))],.lit (.int .i64 (fndE (shortF z) root apps a f))]) []:=by
  have hs:=sgH_ok;have t:=Tr_epz z;refine fo Tryz.func186 14 fun X hX=>?_;refine up 1 ?_;refine rK hs fun K hK=>?_;simp only [go_sem,sgH,Tr_fls,Tr_aps,un_fls,un_aps,t]
  refine eK ?_;refine rE [.agg [.lit (.int .i64 (fndA (shortF z) root apps a f)),.lit (.int .i64 (fndF (shortF z) root apps a f))],.lit (.int .i64 (fndE (shortF z) root apps a f))] [] [.cell 6 51,.tmp 7] ?_;simp only [go_sem,sbT]
def namA (n:List UInt8) (root:List Fl) (apps:List Fap):Int:=if val root apps=0∧0≤fdx (nameP n) apps then fdx (nameP n) apps else 0
def namF (n:List UInt8) (root:List Fl) (apps:List Fap):Int:=if val root apps=0∧0≤fdx (nameP n) apps then -1 else 0
def namE (n:List UInt8) (root:List Fl) (apps:List Fap):Int:=if val root apps=0 then (if 0≤fdx (nameP n) apps then 0 else 16) else 14
theorem name_s (root:List Fl) (apps:List Fap) (n:List UInt8):FnS Tryz.prog 183 [.agg [.li 5 (root.map flA),.li 2 (apps.map apA)],.by_ n] [] (.tup [.agg [.lit (.int .i64 (namA n root apps)),.lit (.int .i64 (namF n root apps))],.lit (.int .i64 (namE n root apps))]) []:=by
  have hs:=sgH_ok;have t:=Tr_epn n;refine fo Tryz.func183 20 fun X hX=>?_;refine up 2 ?_;refine rK hs fun K hK=>?_;simp only [go_sem,sgH,Tr_fls,Tr_aps,un_fls,un_aps]
  refine eK ?_;refine WA.cond rfl (fun h=>?_) (fun h=>?_)
  ·
    have h1:¬ val root apps=0:=by simpa using h
    refine up 1 ?_;refine rE [.agg [.lit (.int .i64 (namA n root apps)),.lit (.int .i64 (namF n root apps))],.lit (.int .i64 (namE n root apps))] [] [.cell 4 51,.tmp 5] ?_;simp only [go_sem,sbT,namA,namF,namE,h1];all_goals simp
  ·
    refine up 1 ?_
    have h1:val root apps=0:=by simpa using h
    refine rK hs fun K hK=>?_;simp only [go_sem,sgH,Tr_fls,Tr_aps,un_fls,un_aps,t]
    refine eK ?_;refine up 2 ?_;refine WA.cond rfl (fun h=>?_) (fun h=>?_)
    ·
      have h2:¬ (0≤fdx (nameP n) apps):=by have:=of_decide_eq_true h;omega
      refine up 1 ?_;refine rE [.agg [.lit (.int .i64 (namA n root apps)),.lit (.int .i64 (namF n root apps))],.lit (.int .i64 (namE n root apps))] [] [.cell 4 51,.tmp 5] ?_;simp only [go_sem,sbT,namA,namF,namE,h1,h2]
    ·
      refine up 1 ?_
      have h2:(0≤fdx (nameP n) apps):=by have:=of_decide_eq_false h;omega
      refine up 1 ?_;refine rE [.agg [.lit (.int .i64 (namA n root apps)),.lit (.int .i64 (namF n root apps))],.lit (.int .i64 (namE n root apps))] [] [.cell 4 51,.tmp 5] ?_;simp only [go_sem,sbT,namA,namF,namE,h1,h2]
structure Stt where
  pw:Int
  b1:Bool
  chip:Bool
  term:Bool
  rights:Int
def wordS (s:Stt):Bool:=bif (bif (s.pw == 1) then true else (s.pw == 2)) then true else (s.pw == 3)
def bitS (rights right:Int):Bool:=bits .and .i64 (rights.fdiv (2 ^ right.toNat)) 1 == 1
def alw (level right:Int) (s:Stt):Bool :=
  if level=0 then true else if level=1 then wordS s else if level=2 then wordS s && s.chip else if level=3 then (wordS s && s.chip) && s.term && decide (0≤right∧right≤15) && bitS s.rights right else false
theorem allowed_s (level right:Int) (s:Stt):FnS Tryz.prog 188 [.agg [.lit (.int .i64 level),.lit (.int .i64 right)],.agg [.lit (.int .i64 s.pw),.lit (.bool s.b1),.lit (.bool s.chip),.lit (.bool s.term),.lit (.int .i64 s.rights)]] [] (.lit (.bool (alw level right s))) []:=by
  have hs:=sg0_ok;refine fo Tryz.func188 61 fun X hX=>?_;refine up 7 ?_;have hw:(bif (bif (s.pw == 1) then true else (s.pw == 2)) then true else (s.pw == 3))=wordS s:=rfl;refine WA.cond rfl (fun h=>?_) (fun h=>?_)
  ·
    have e:alw level right s=true:=if_pos (by simpa using h);refine up 1 ?_;refine rE [.lit (.bool (alw level right s))] [] [.tmp 4] ?_;simp only [go_sem,sbT,e]
  have h0:¬ level=0:=by simpa using h
  clear h;refine up 1 ?_;refine WA.cond rfl (fun h=>?_) (fun h=>?_)
  ·
    have e:alw level right s=wordS s:=by unfold alw;rw [if_neg h0,if_pos (by simpa using h)]
    refine up 1 ?_;refine rE [.lit (.bool (alw level right s))] [] [.tmp 4] ?_;simp only [go_sem,sbT,e,hw]
  have h1:¬ level=1:=by simpa using h
  clear h;refine up 1 ?_;refine WA.cond rfl (fun h=>?_) (fun h=>?_)
  ·
    have e:alw level right s=(wordS s && s.chip):=by unfold alw;rw [if_neg h0,if_neg h1,if_pos (by simpa using h)]
    refine up 1 ?_;refine rE [.lit (.bool (alw level right s))] [] [.tmp 4] ?_;simp only [go_sem,sbT,e,hw];all_goals (cases wordS s <;> rfl)
  have h2:¬ level=2:=by simpa using h
  clear h;refine up 1 ?_;refine WA.cond rfl (fun h=>?_) (fun h=>?_)
  ·
    have e:alw level right s=((wordS s && s.chip) && s.term && decide (0≤right∧right≤15) && bitS s.rights right):=by unfold alw;rw [if_neg h0,if_neg h1,if_neg h2,if_pos (by simpa using h)]
    by_cases hr:0≤right∧right≤15
    ·
      have r1:(right ≥ 0)=True:=eq_true (by omega);have r2:(right≤15)=True:=eq_true (by omega);have r3:(right.toNat≤64)=True:=eq_true (by omega);have r4:(0≤right)=True:=eq_true (by omega);refine rK hs fun K hK=>?_;simp only [go_sem,hw,r1,r2,r3,r4]
      refine eK ?_;refine rE [.lit (.bool (alw level right s))] [] [.tmp 4] ?_;simp only [go_sem,sbT,e,bitS];all_goals (rw [decide_eq_true hr];cases wordS s <;> cases s.chip <;> cases s.term <;> simp)
    · have e2:decide (0≤right∧right≤15)=false:=decide_eq_false hr;rcases (show right<0∨15<right by omega) with hr | hr
      ·
        have r1:(right ≥ 0)=False:=eq_false (by omega);refine rK hs fun K hK=>?_;simp only [go_sem,hw,r1]
        refine eK ?_;refine rE [.lit (.bool (alw level right s))] [] [.tmp 4] ?_;simp only [go_sem,sbT,e,e2];all_goals (cases wordS s <;> cases s.chip <;> cases s.term <;> simp)
      ·
        have r1:(right ≥ 0)=True:=eq_true (by omega);have r2:(right≤15)=False:=eq_false (by omega);have r4:(0≤right)=True:=eq_true (by omega);refine rK hs fun K hK=>?_;simp only [go_sem,hw,r1,r2,r4]
        refine eK ?_;refine rE [.lit (.bool (alw level right s))] [] [.tmp 4] ?_;simp only [go_sem,sbT,e,e2];all_goals (cases wordS s <;> cases s.chip <;> cases s.term <;> simp)
  ·
    refine up 1 ?_
    have e:alw level right s=false:=by unfold alw;rw [if_neg h0,if_neg h1,if_neg h2,if_neg (by simpa using h)]
    refine up 1 ?_;refine rE [.lit (.bool (alw level right s))] [] [.tmp 4] ?_;simp only [go_sem,sbT,e]
def fz:Fl:=⟨0,0,[],0,0⟩
def selF (root:List Fl) (apps:List Fap) (a f:Int):Fl:=if atO root apps a f=true∧0≤f then (atL root apps a).getD f.toNat fz else fz
def selE (root:List Fl) (apps:List Fap) (a f:Int):Int:=if atO root apps a f=true then (if 0≤f then 0 else 16) else 14
theorem selected_s (root:List Fl) (apps:List Fap) (a f:Int):FnS Tryz.prog 223 [.agg [.li 5 (root.map flA),.li 2 (apps.map apA)],.agg [.lit (.int .i64 a),.lit (.int .i64 f)]] [] (.tup [flA (selF root apps a f),.lit (.int .i64 (selE root apps a f))]) []:=by
  have hs:=sgH_ok;refine fo Tryz.func223 28 fun X hX=>?_;refine up 1 ?_;refine rK hs fun K hK=>?_;simp only [go_sem,sgH,Tr_fls,Tr_aps,un_fls,un_aps]
  refine eK ?_;refine up 3 ?_;refine WA.cond rfl (fun h=>?_) (fun h=>?_)
  ·
    have h1:atO root apps a f=false:=by simpa using h
    have e1:selF root apps a f=fz:=if_neg (by rw [h1];simp);have e2:selE root apps a f=14:=if_neg (by rw [h1];simp);refine up 1 ?_;refine rE [flA (selF root apps a f),.lit (.int .i64 (selE root apps a f))] [] [.cell 4 80,.tmp 5] ?_;simp only [go_sem,sbT,e1,e2,flA,fz]
  have h1:atO root apps a f=true:=by simpa using h
  obtain ⟨_,h2,h3⟩:=atO_rng h1;clear h;refine up 1 ?_;refine WA.cond rfl (fun h=>?_) (fun h=>?_)
  ·
    have h4:f = -1:=by simpa using h
    have e1:selF root apps a f=fz:=if_neg (by omega);have e2:selE root apps a f=16:=by unfold selE;rw [if_pos h1,if_neg (by omega)]
    refine up 1 ?_;refine rE [flA (selF root apps a f),.lit (.int .i64 (selE root apps a f))] [] [.cell 4 80,.tmp 5] ?_;simp only [go_sem,sbT,e1,e2,flA,fz]
  ·
    refine up 1 ?_
    have h4:¬ f = -1:=by simpa using h
    have h5:f.toNat<(atL root apps a).length:=by omega
    have g1:=fl_at h5;have e1:selF root apps a f=(atL root apps a)[f.toNat]:=by
      unfold selF;rw [if_pos ⟨h1,by omega⟩];simp [List.getD,List.getElem?_eq_getElem h5]
    have e2:selE root apps a f=0:=by unfold selE;rw [if_pos h1,if_pos (by omega)]
    refine rK hs fun K hK=>?_;simp only [go_sem,g1]
    refine eK ?_;refine rE [flA (selF root apps a f),.lit (.int .i64 (selE root apps a f))] [] [.cell 4 80,.tmp 5] ?_;simp only [go_sem,sbT,e1,e2,flA]
def sgJ:Sg:=fun f args ls =>
  match f,args,ls with
  | 223,[.agg [.li 5 xs,.li 2 ys],.agg [.lit (.int .i64 a),.lit (.int .i64 b)]],[]=>some (.tup [flA (selF (xs.map unF) (ys.map unP) a b),.lit (.int .i64 (selE (xs.map unF) (ys.map unP) a b))],[],xs=(xs.map unF).map flA∧ys=(ys.map unP).map apA)
  | 188,[.agg [.lit (.int .i64 level),.lit (.int .i64 right)],.agg [.lit (.int .i64 w),.lit (.bool b1),.lit (.bool ch),.lit (.bool te),.lit (.int .i64 ri)]],[]=>some (.lit (.bool (alw level right ⟨w,b1,ch,te,ri⟩)),[],True)
  | 46,[.by_ bs],[]=>some (.fr (.by_ bs),[],bs.length≤140737488355328)
  | _,_,_=>none
theorem sgJ_ok:SgOK Tryz.prog sgJ:=by
  intro f args ls r ls' vc h hvc;unfold sgJ at h;split at h <;> cases h
  · rename_i xs ys a b;refine ⟨(fnOK Tryz.func223 (by decide) rfl),?_⟩;have:=selected_s (xs.map unF) (ys.map unP) a b;rw [← hvc.1,← hvc.2] at this;exact this
  · rename_i level right w b1 ch te ri;exact ⟨(fnOK Tryz.func188 (by decide) rfl),allowed_s level right ⟨w,b1,ch,te,ri⟩⟩
  · exact ⟨(fnOK Tryz.func46 (by decide) rfl),sclone_s _ hvc⟩
theorem access_s (root:List Fl) (apps:List Fap) (a f:Int):FnS Tryz.prog 187 [.agg [.li 5 (root.map flA),.li 2 (apps.map apA)],.agg [.lit (.int .i64 a),.lit (.int .i64 f)]] [] (.tup [.agg [.lit (.int .i64 (selF root apps a f).level),.lit (.int .i64 (selF root apps a f).right)],.lit (.int .i64 (selE root apps a f))]) []:=by
  have hs:=sgJ_ok;refine fo Tryz.func187 17 fun X hX=>?_;refine up 1 ?_;refine rK hs fun K hK=>?_;simp only [go_sem,sgJ,Tr_fls,Tr_aps,un_fls,un_aps,flA]
  refine eK ?_;refine up 1 ?_;refine rE [.agg [.lit (.int .i64 (selF root apps a f).level),.lit (.int .i64 (selF root apps a f).right)],.lit (.int .i64 (selE root apps a f))] [] [.cell 4 78,.tmp 5] ?_;simp only [go_sem,sbT]
def rdE (root:List Fl) (apps:List Fap) (a f:Int) (s:Stt) (o n:Int):Int :=
  if selE root apps a f ≠ 0 then selE root apps a f
  else if alw (selF root apps a f).level (selF root apps a f).right s=false then 19
  else if n<1∨n > 4096∨o<0∨o > (selF root apps a f).content.length then 3 else 0
def rdB (root:List Fl) (apps:List Fap) (a f:Int) (s:Stt) (o n:Int):List UInt8:=if rdE root apps a f s o n=0 then ((selF root apps a f).content.drop o.toNat).take n.toNat else []
def rdN (root:List Fl) (apps:List Fap) (a f:Int) (s:Stt) (o n:Int):Bool:=if rdE root apps a f s o n=0 then decide (n ≥ (((selF root apps a f).content.length:Nat):Int)-o) else false
theorem read_s (root:List Fl) (apps:List Fap) (a f:Int) (s:Stt) (o n:Int):FnS Tryz.prog 189 [.agg [.li 5 (root.map flA),.li 2 (apps.map apA)],.agg [.lit (.int .i64 a),.lit (.int .i64 f)],.agg [.lit (.int .i64 s.pw),.lit (.bool s.b1),.lit (.bool s.chip),.lit (.bool s.term),.lit (.int .i64 s.rights)],.lit (.int .i64 o),.lit (.int .i64 n)] []
    (.tup [.by_ (rdB root apps a f s o n),.lit (.bool (rdN root apps a f s o n)),.lit (.int .i64 (rdE root apps a f s o n))]) []:=by
  have hs:=sgJ_ok;refine fo Tryz.func189 64 fun X hX=>?_;refine up 1 ?_;refine rK hs fun K hK=>?_;simp only [go_sem,sgJ,Tr_fls,Tr_aps,un_fls,un_aps,flA]
  refine eK ?_;refine up 3 ?_;obtain ⟨x,hx⟩:∃ x,selF root apps a f=x:=⟨_,rfl⟩;rw [hx];refine WA.cond rfl (fun h=>?_) (fun h=>?_)
  ·
    have h1:selE root apps a f ≠ 0:=by simpa using h
    have e:rdE root apps a f s o n=selE root apps a f:=if_pos h1;refine up 1 ?_;refine rE [.by_ (rdB root apps a f s o n),.lit (.bool (rdN root apps a f s o n)),.lit (.int .i64 (rdE root apps a f s o n))] [] [.tmp 10,.tmp 11,.tmp 12] ?_;simp only [go_sem,sbT,rdB,rdN,e,h1]
  have h1:¬ selE root apps a f ≠ 0:=by simpa using h
  clear h;refine rK hs fun K hK=>?_;simp only [go_sem,sgJ]
  refine eK ?_;have hS:(⟨s.pw,s.b1,s.chip,s.term,s.rights⟩:Stt)=s:=rfl;rw [hS];refine WA.cond rfl (fun h=>?_) (fun h=>?_)
  ·
    have h2:alw x.level x.right s=false:=by simpa using h
    have e:rdE root apps a f s o n=19:=by unfold rdE;rw [if_neg h1,hx,if_pos h2]
    refine up 1 ?_;refine rE [.by_ (rdB root apps a f s o n),.lit (.bool (rdN root apps a f s o n)),.lit (.int .i64 (rdE root apps a f s o n))] [] [.tmp 10,.tmp 11,.tmp 12] ?_;simp only [go_sem,sbT,rdB,rdN,e]
  have h2:¬ alw x.level x.right s=false:=by simpa using h
  clear h;refine up 1 ?_;refine WA.cond rfl (fun h=>?_) (fun h=>?_)
  ·
    have h3:n<1∨n > 4096∨o<0∨o > x.content.length:=by
      revert h;by_cases q1:n<1 <;> by_cases q2:n > 4096 <;> by_cases q3:o<0 <;> simp [q1,q2,q3]
    have e:rdE root apps a f s o n=3:=by unfold rdE;rw [if_neg h1,hx,if_neg h2,if_pos h3]
    refine up 1 ?_;refine rE [.by_ (rdB root apps a f s o n),.lit (.bool (rdN root apps a f s o n)),.lit (.int .i64 (rdE root apps a f s o n))] [] [.tmp 10,.tmp 11,.tmp 12] ?_;simp only [go_sem,sbT,rdB,rdN,e]
  ·
    refine up 1 ?_
    have h3:¬(n<1∨n > 4096∨o<0∨o > x.content.length):=by
      revert h;by_cases q1:n<1 <;> by_cases q2:n > 4096 <;> by_cases q3:o<0 <;> simp [q1,q2,q3]
    clear h;have e:rdE root apps a f s o n=0:=by unfold rdE;rw [if_neg h1,hx,if_neg h2,if_neg h3]
    have hd:(x.content.drop o.toNat).length=x.content.length-o.toNat:=List.length_drop;have hl:((x.content.length-o.toNat:Nat):Int)=(x.content.length:Int)-o:=by omega
    refine up 1 ?_;by_cases hm:((x.content.length:Nat):Int)-o<n
    ·
      have m1:(((x.content.length:Nat):Int)-o<n)=True:=eq_true hm;have z1:((x.content.length:Nat):Int)-o=((x.content.length-o.toNat:Nat):Int):=hl.symm;have m2:(((x.content.length-o.toNat:Nat):Int)<n)=True:=eq_true (by omega);have z2:(((x.content.length-o.toNat:Nat):Int)).toNat=x.content.length-o.toNat:=by omega
      have z3:(x.content.drop o.toNat).take (x.content.length-o.toNat)=x.content.drop o.toNat:=List.take_of_length_le (by omega);have z4:(x.content.drop o.toNat).take n.toNat=x.content.drop o.toNat:=List.take_of_length_le (by omega);refine rK hs fun K hK=>?_;simp only [go_sem,sgJ,m1,m2,z1,z2,z3,Nat.le_refl]
      refine eK ?_;refine rE [.by_ (rdB root apps a f s o n),.lit (.bool (rdN root apps a f s o n)),.lit (.int .i64 (rdE root apps a f s o n))] [] [.tmp 10,.tmp 11,.tmp 12] ?_;simp only [go_sem,sbT,rdB,rdN,e,hx,z3,z4];exact ⟨Nat.le_refl _,by rw [hl]⟩
    ·
      have m1:(((x.content.length:Nat):Int)-o<n)=False:=eq_false hm;have z1:(n.toNat≤x.content.length-o.toNat)=True:=eq_true (by omega);refine rK hs fun K hK=>?_;simp only [go_sem,sgJ,hl,m1,z1]
      refine eK ?_;refine rE [.by_ (rdB root apps a f s o n),.lit (.bool (rdN root apps a f s o n)),.lit (.int .i64 (rdE root apps a f s o n))] [] [.tmp 10,.tmp 11,.tmp 12] ?_;simp only [go_sem,sbT,rdB,rdN,e,hx];have z5:n.toNat≤x.content.length-o.toNat:=by omega
      refine ⟨?_,?_⟩
      · rw [if_pos z5];exact Nat.le_refl _
      · rw [List.take_take,Nat.min_self]
end Go.Proofs.YtjjkfpbkmhfckaaGreatDoor.Fil
