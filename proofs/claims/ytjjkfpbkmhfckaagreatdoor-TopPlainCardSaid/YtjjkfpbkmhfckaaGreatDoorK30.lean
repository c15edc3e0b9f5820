import Derived.Test.YtjjkfpbkmhfckaaGreatDoorK24
set_option linter.unusedVariables false
set_option linter.unusedSimpArgs false
set_option maxHeartbeats 1000000
set_option maxRecDepth 10000
namespace Go.Proofs.YtjjkfpbkmhfckaaGreatDoor
open Go.RowKit Go.TravelBase Go.TravelAbs
section
attribute [local irreducible] digB keyB sealB chkB openB codeB enc1 padB
theorem cgO_K (e:List UInt8) (n:Int) (d:List UInt8):CgK (cgO e n d).2:=by
  obtain ⟨p1,p2,p3⟩:=padB_len d;have hl:=sealB_len e (vecB e n) _ p1;exact ⟨_,rfl,by omega,by omega⟩
theorem cgO_eq (e:List UInt8) (n:Int) (d:List UInt8):(135,(cgO e n d).2)=cgO e n d:=rfl
attribute [local irreducible] cgO codU hdB obW
def sgUw (W:List UInt8) (v0 v1 v2:AV) (lq:List Ob) (d:List UInt8):Sg:=fun f args ls =>
  match f,args,ls with
  | 33,[.agg [.by_ e',.by_ c',.lit (.int .i64 n')]],[]=>some (.lit (.bool true),[],e'.length=16∧c'.length=16∧0≤n'∧n'≤1099511627776)
  | 12,[.agg [.lit (.int .i64 a),.lit (.int .i64 b),.lit (.int .i64 x),.lit (.int .i64 y),.by_ d,.lit (.int .i64 z)]],[]=>some (.lit (.bool (valC ⟨a,b,x,y,d,z⟩)),[],True)
  | 34,[.agg [.by_ e',.by_ c',.lit (.int .i64 n')]],[]=>some (.agg [.by_ e',.by_ c',.lit (.int .i64 (n'+1)),.by_ (cntB (n'+1))],[],e'.length=16∧c'.length=16∧0≤n'∧n'≤1099511627775)
  | 87,[.by_ b,.li 1 [.lit (.int .i64 142)],.li 4 [.agg [.lit (.int .i64 135),.lit (.int .i64 2),.lit (.int .i64 4096),.lit (.bool false)],.agg [.lit (.int .i64 151),.lit (.int .i64 1),.lit (.int .i64 2),.lit (.bool false)],.agg [.lit (.int .i64 142),.lit (.int .i64 8),.lit (.int .i64 8),.lit (.bool true)]]],[] =>
    some (.tup [.fr (.li 1 [v0,v1,v2]),.li 3 (lq.map fnA),.lit (.int .i64 0)],[],b=W)
  | 38,[.agg [.lit (.int .i64 a),.lit (.int .i64 b),.lit (.int .i64 x),.lit (.int .i64 y),.by_ d,.lit (.int .i64 z)]],[]=>some (.fr (.by_ (hdB a b x y)),[],True)
  | 67,[.agg [.by_ e',.by_ c',.lit (.int .i64 n'),.by_ x],.by_ h,.li 3 xs],[]=>some (.tup [.by_ (codU c' n' h lq),.lit (.int .i64 0)],[],x=cntB n'∧xs=lq.map fnA∧c'.length=16∧0≤n'∧n'≤1099511627776∧h.length≤1000∧ObK lq)
  | 52,[.by_ a,.by_ b],[]=>some (.lit (.bool true),[],a=b)
  | 89,[.agg [.by_ e',.by_ c',.lit (.int .i64 n'),.by_ x],.by_ v],[]=>some (.tup [.fr (.by_ d),.lit (.int .i64 0)],[],x=cntB n'∧v=(cgO e' n' d).2∧e'.length=16∧0≤n'∧n'≤1099511627776∧0<d.length∧d.length≤1000)
  | 89,[.agg [.by_ e',.by_ c',.lit (.int .i64 n'),.by_ x],.lit (.slice none 0 0)],[]=>some (.tup [.lit (.slice none 0 0),.lit (.int .i64 0)],[],x=cntB n')
  | 101,[.by_ b],[]=>some (.tup [.lit (.int .i64 (numV b)),.lit (.int .i64 (numE b))],[],True)
  | _,_,_=>none
theorem sgUw_ok {W:List UInt8} {v0 v1 v2:AV} {lq:List Ob} {d:List UInt8} (hO:FnS Tryz.prog 87 [.by_ W,.li 1 ([142].map iA),.li 4 ([⟨135,2,4096,false⟩,⟨151,1,2,false⟩,⟨142,8,8,true⟩].map fdA)] [] (.tup [.fr (.li 1 [v0,v1,v2]),.li 3 (lq.map fnA),.lit (.int .i64 0)]) []):SgOK Tryz.prog (sgUw W v0 v1 v2 lq d):=by
  intro f args ls r ls' vc h hvc;unfold sgUw at h;split at h <;> cases h
  · exact ⟨(fnOK Tryz.func33 (by decide) rfl),mvalid_s _ _ _ hvc.1 hvc.2.1 hvc.2.2⟩
  · exact ⟨(fnOK Tryz.func12 (by decide) rfl),valid_s ⟨_,_,_,_,_,_⟩⟩
  · exact ⟨(fnOK Tryz.func34 (by decide) rfl),mnext_s _ _ _ hvc.1 hvc.2.1 (by omega)⟩
  · subst hvc;exact ⟨(fnOK Tryz.func87 (by decide) rfl),hO⟩
  · exact ⟨(fnOK Tryz.func38 (by decide) rfl),head_s _ _ _ _ _ _⟩
  · obtain ⟨rfl,rfl,h1,h2,h3,h4,h5⟩:=hvc;exact ⟨(fnOK Tryz.func67 (by decide) rfl),ucode_s _ _ _ _ _ h1 ⟨h2,h3⟩ h4 h5⟩
  · subst hvc;refine ⟨(fnOK Tryz.func52 (by decide) rfl),?_⟩;rename_i a;have:=bequal_s a a;simpa using this
  · obtain ⟨rfl,rfl,h1,h2,h3,h4,h5⟩:=hvc;exact ⟨(fnOK Tryz.func89 (by decide) rfl),uopen_s _ _ _ _ h1 ⟨h2,h3⟩ h4 h5⟩
  · subst hvc;exact ⟨(fnOK Tryz.func89 (by decide) rfl),uopen0_s _ _ _⟩
  · exact ⟨(fnOK Tryz.func101 (by decide) rfl),number_s _⟩
theorem unwrapD_s (e c:List UInt8) (n ins p1 p2:Int) (d:List UInt8) (h1:e.length=16) (h2:c.length=16) (h3:0≤n∧n≤1099511627775) (hv:valC ⟨12,ins,p1,p2,wrD e c n ins p1 p2 d,65536⟩=true) (hd:0<d.length) (hd2:d.length≤70) :
    FnS Tryz.prog 61 [ssA e c n,cmX 12 ins p1 p2 (wrD e c n ins p1 p2 d) 65536] [] (.tup [cmX 0 ins p1 p2 d (-1),ssA e c (n+1),.lit (.int .i64 0)]) []:=by
  have hs:=sgUw_ok (d:=d) (objUD (cgO e (n+1) d).2 (codU c (n+1) (hdB 12 ins p1 p2) [cgO e (n+1) d]) (cgO_K _ _ _) (cgO_len _ _ _ hd2) (codU_len _ _ _ _));rw [cgO_eq] at hs;have hw:obW [cgO e (n+1) d,(142,codU c (n+1) (hdB 12 ins p1 p2) [cgO e (n+1) d])]=wrD e c n ins p1 p2 d:=rfl;rw [hw] at hs;have ok1:ObK [cgO e (n+1) d]:=⟨by simp,fun x hx=>by
    rw [List.mem_singleton] at hx;subst hx;exact ⟨cgO_tag _ _ _,cgO_len _ _ _ hd2⟩⟩
  have hh1:=hdB_len 12 ins p1 p2;have ht:=List.take_of_length_le (Nat.le_refl (hdB 12 ins p1 p2).length);have n1:(n == 1099511627776)=false:=beq_eq_false_iff_ne.2 (by omega);have n2:n≤1099511627776:=by omega
  have a1:bits .and .i64 12 12=12:=by decide
  have a2:bits .andNot .i64 12 12=0:=by decide
  have hd3:d.length≤1000:=by omega
  generalize wrD e c n ins p1 p2 d=W at hs hv hw;generalize hlq:[cgO e (n+1) d]=lq at hs ok1;have hT:=Tr_fns lq;unfold ssA cmX;refine fo Tryz.func61 138 fun X hX=>?_;refine up 4 ?_;refine rK hs fun K hK=>?_;simp only [go_sem,sgUw,h1,h2,h3,n2,hv]
  refine eK ?_;refine up 1 ?_;refine rK hs fun K hK=>?_;simp only [go_sem,n1]
  refine eK ?_;refine up 1 ?_;refine rK hs fun K hK=>?_;simp only [go_sem,a1]
  refine eK ?_;refine up 3 ?_;refine rK hs fun K hK=>?_;simp only [go_sem,sgUw,hT]
  refine eK ?_;refine up 4 ?_
  refine rK hs fun K hK=>?_;simp only [go_sem,sgUw,h1,h2,h3]
  refine eK ?_;refine up 1 ?_;have n5:0≤n+1:=by omega
  have n6:n+1≤1099511627776:=by omega
  refine WA.drawnH mixed_ ty_ok hs (tbl:=[[],[],[1],[],[0,1,2,3],[0,1,2,3,4],[0,1,2,3,4,5],[0,1,2,3,4,5],[0,1,2,3,4,5,6],[0,1,2,3,4,5,6,7,8]]) (nb:=[0,1,2,4]) (hk:=[[],[],[],[],[],[],[],[],[],[]]) (by kernel_rfl) fun K hK=>?_;simp only [go_sem,sgUw,h1,h2,h3,ok1,hT,hh1,ht,n5,n6]
  refine eK ?_;refine rK hs fun K hK=>?_;simp only [go_sem,sgUw,hlq]
  refine eK ?_;refine up 3 ?_;refine rK hs fun K hK=>?_;simp only [go_sem,a2]
  refine eK ?_;refine up 1 ?_;refine WA.drawnK mixed_ ty_ok hs (tbl:=[[],[],[1],[1,2],[0,1,2,3],[0,1,2,3,4],[0,1,2,3,4,5],[0,1,2,3,4,5],[0,1,2,3,4,5,6],[0,1,2,3,4,5,6,8],[0,1,2,3,4,5,6,7,8,9]]) (nb:=[0,3,4,9]) (by kernel_rfl) fun K hK=>?_;simp only [go_sem,sgUw,h1,h3,hd,hd3,n5,n6]
  refine eK ?_;refine up 9 ?_
  have td:=List.take_of_length_le (Nat.le_refl d.length);refine WA.drawnH mixed_ ty_ok hs (tbl:=[[],[],[1],[0],[0,1,2,3],[0,1,2,3,4]]) (nb:=[0,2,3,4]) (hk:=[[],[2016],[2016],[],[],[]]) (by kernel_rfl) fun K hK=>?_;simp only [go_sem,true_and]
  refine eK ?_;refine rE [cmX 0 ins p1 p2 d (-1),ssA e c (n+1),.lit (.int .i64 0)] [] [.cell 4 25,.cell 5 55,.tmp 6] ?_;simp only [go_sem,sbT,td,cmX,ssA];all_goals exact agA
end
section
attribute [local irreducible] digB keyB sealB chkB openB codeB enc1 padB cgO codU hdB obW
theorem unwrapE_s (e c:List UInt8) (n ins p1 p2:Int) (h1:e.length=16) (h2:c.length=16) (h3:0≤n∧n≤1099511627775) (hv:valC ⟨12,ins,p1,p2,wrE c n ins p1 p2,65536⟩=true) :
    FnS Tryz.prog 61 [ssA e c n,cmX 12 ins p1 p2 (wrE c n ins p1 p2) 65536] [] (.tup [cmX 0 ins p1 p2 [] 256,ssA e c (n+1),.lit (.int .i64 0)]) []:=by
  have hs:=sgUw_ok (d:=[]) (objUE (octL 0 1) (codU c (n+1) (hdB 12 ins p1 p2) [exO]) oct01.2 (codU_len _ _ _ _));rw [show ((151:Int),octL 0 1)=exO from rfl] at hs
  have hw:obW [exO,(142,codU c (n+1) (hdB 12 ins p1 p2) [exO])]=wrE c n ins p1 p2:=rfl;rw [hw] at hs;have ok1:=ok_ex;have hh1:=hdB_len 12 ins p1 p2;have ht:=List.take_of_length_le (Nat.le_refl (hdB 12 ins p1 p2).length);have n1:(n == 1099511627776)=false:=beq_eq_false_iff_ne.2 (by omega);have n2:n≤1099511627776:=by omega
  have a1:bits .and .i64 12 12=12:=by decide
  have a2:bits .andNot .i64 12 12=0:=by decide
  generalize wrE c n ins p1 p2=W at hs hv hw;generalize hlq:[exO]=lq at hs ok1;have hT:=Tr_fns lq;unfold ssA cmX;refine fo Tryz.func61 138 fun X hX=>?_;refine up 4 ?_;refine rK hs fun K hK=>?_;simp only [go_sem,sgUw,h1,h2,h3,n2,hv]
  refine eK ?_;refine up 1 ?_;refine rK hs fun K hK=>?_;simp only [go_sem,n1]
  refine eK ?_;refine up 1 ?_;refine rK hs fun K hK=>?_;simp only [go_sem,a1]
  refine eK ?_;refine up 3 ?_;refine rK hs fun K hK=>?_;simp only [go_sem,sgUw,hT]
  refine eK ?_;refine up 4 ?_
  refine rK hs fun K hK=>?_;simp only [go_sem,sgUw,h1,h2,h3]
  refine eK ?_;refine up 1 ?_;have n5:0≤n+1:=by omega
  have n6:n+1≤1099511627776:=by omega
  refine WA.drawnH mixed_ ty_ok hs (tbl:=[[],[],[1],[],[0,1,2,3],[0,1,2,3,4],[0,1,2,3,4,5],[0,1,2,3,4,5],[0,1,2,3,4,5,6],[0,1,2,3,4,5,6,7,8]]) (nb:=[0,1,2,4]) (hk:=[[],[],[],[],[],[],[],[],[],[]]) (by kernel_rfl) fun K hK=>?_;simp only [go_sem,sgUw,h1,h2,h3,ok1,hT,hh1,ht,n5,n6]
  refine eK ?_;refine rK hs fun K hK=>?_;simp only [go_sem,sgUw,hlq]
  refine eK ?_;refine up 3 ?_;refine rK hs fun K hK=>?_;simp only [go_sem,a2]
  refine eK ?_;refine up 1 ?_;refine WA.drawnK mixed_ ty_ok hs (tbl:=[[],[],[1],[1,2],[0,1,2,3],[0,1,2,3,4],[0,1,2,3,4,5],[0,1,2,3,4,5],[0,1,2,3,4,5,6],[0,1,2,3,4,5,6,8],[0,1,2,3,4,5,6,7,8,9]]) (nb:=[0,3,4,9]) (by kernel_rfl) fun K hK=>?_;simp only [go_sem,sgUw,h1,h3,n5,n6]
  refine eK ?_;refine up 5 ?_;have nv:numV (octL 0 1)=0:=by decide
  have l1:(octL 0 1).length=1:=oct01.2;have w8:IntKind.i64.wrap (1*2 ^ (if ((8:Int)*1).toNat≤64 then ((8:Int)*1).toNat else 64))=256:=by decide
  refine up 1 ?_;refine rK hs fun K hK=>?_;simp only [go_sem,l1]
  refine eK ?_;refine up 1 ?_;refine rK hs fun K hK=>?_;simp only [go_sem,sgUw,nv]
  refine eK ?_;refine up 2 ?_;refine WA.regionE ty_ok hs fun K hK=>?_;simp only [go_sem,l1,w8]
  refine eN ?_
  refine WA.drawnH mixed_ ty_ok hs (tbl:=[[],[],[1],[0],[0,1,2,3],[0,1,2,3,4]]) (nb:=[0,2,3,4]) (hk:=[[],[2016],[2016],[],[],[]]) (by kernel_rfl) fun K hK=>?_;simp only [go_sem,true_and]
  refine eK ?_;refine rE [cmX 0 ins p1 p2 [] 256,ssA e c (n+1),.lit (.int .i64 0)] [] [.cell 4 25,.cell 5 55,.tmp 6] ?_;simp only [go_sem,sbT,cmX,ssA];all_goals exact agA
end
end Go.Proofs.YtjjkfpbkmhfckaaGreatDoor
