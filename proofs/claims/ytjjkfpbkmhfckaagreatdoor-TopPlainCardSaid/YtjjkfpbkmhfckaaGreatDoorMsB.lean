import Derived.Test.YtjjkfpbkmhfckaaGreatDoorK21
import Derived.Test.YtjjkfpbkmhfckaaGreatDoorK08
import Derived.Test.YtjjkfpbkmhfckaaGreatDoorK16
set_option linter.unusedVariables false
set_option linter.unusedSimpArgs false
set_option maxHeartbeats 1000000
set_option maxRecDepth 10000
namespace Go.Proofs.YtjjkfpbkmhfckaaGreatDoor
open Go.RowKit Go.TravelBase Go.TravelAbs
section
attribute [local irreducible] digB keyB sealB chkB openB codeB enc1 padB
def codU (c:List UInt8) (n:Int) (h:List UInt8) (l:List Ob):List UInt8:=chkB c (flatL [cntB n,h,obW l])
theorem codU_len (c:List UInt8) (n:Int) (h:List UInt8) (l:List Ob):(codU c n h l).length=8:=chkB_len _ _
def sgUc:Sg:=fun f args ls =>
  match f,args,ls with
  | 68,[.li 3 xs],[]=>some (.tup [.fr (.by_ (obW (xs.map unO))),.lit (.int .i64 0)],[],∃ l,ObK l∧xs=l.map fnA)
  | 77,[.li 1 [.by_ a,.by_ b,.by_ d]],[]=>some (.fr (.by_ (flatL [a,b,d])),[],a.length+b.length+d.length≤900000000)
  | 98,[.by_ k,.by_ b],[]=>some (.tup [.by_ (chkB k b),.lit (.int .i64 0)],[],k.length=16∧b.length≤900000000)
  | _,_,_=>none
theorem sgUc_ok:SgOK Tryz.prog sgUc:=by
  intro f args ls r ls' vc h hvc;unfold sgUc at h;split at h <;> cases h
  · obtain ⟨l,h1,rfl⟩:=hvc;rw [un_fns];exact ⟨(fnOK Tryz.func68 (by decide) rfl),tenc_s l h1⟩
  · rename_i a b d;have:=concat_s [a,b,d] (by simp [sumL];omega) (by simp);exact ⟨(fnOK Tryz.func77 (by decide) rfl),this⟩
  · exact ⟨(fnOK Tryz.func98 (by decide) rfl),check_s _ _ hvc.1 hvc.2⟩
theorem ucode_s (e c:List UInt8) (n:Int) (h:List UInt8) (l:List Ob) (h1:c.length=16) (h2:0≤n∧n≤1099511627776) (h3:h.length≤1000) (hl:ObK l) :
    FnS Tryz.prog 67 [unA e c n,.by_ h,.li 3 (l.map fnA)] [] (.tup [.by_ (codU c n h l),.lit (.int .i64 0)]) []:=by
  have hs:=sgUc_ok;have hn:=hl.1;have hT:=Tr_fns l;have hW:=obW_len l fun x hx=>(hl.2 x hx).2;have hex:(∃ m,ObK m∧l.map fnA=m.map fnA)=True:=eq_true ⟨l,hl,rfl⟩;have hu:=un_fns l;have tW:List.take (obW l).length (obW l)=obW l:=List.take_length;have cl:=cntB_len (n:=n) (by omega);have fl:(flatL [cntB n,h,obW l]).length=16+(h.length+(obW l).length):=by simp [flatL,cl]
  have tF:List.take (16+(h.length+(obW l).length)) (flatL [cntB n,h,obW l])=flatL [cntB n,h,obW l]:=List.take_of_length_le (by omega);have b1:16+h.length+(obW l).length≤900000000:=by omega
  have b2:16+(h.length+(obW l).length)≤900000000:=by omega
  unfold unA;refine fo Tryz.func67 30 fun X hX=>?_;refine up 1 ?_;refine rK hs fun K hK=>?_;simp only [go_sem,sgUc,hT,hex,hu,List.length_map]
  refine eK ?_;refine up 4 ?_
  refine WA.normT 8 fun K hK=>?_;simp only [go_sem,tW]
  refine eK ?_;refine WA.drawnH mixed_ ty_ok hs (tbl:=[[],[0],[0,1],[],[3],[],[],[3,4,5,6],[3,4,5,6,7],[0,1,2,3,4,5,6,7,8],[0,1,2,3,4,5,6,7,8,9],[0,1,2,3,4,5,6,7,8,9],[0,1,2,3,4,5,6,7,8,9,10,11],[0,1,2,3,4,5,6,7,8,9,10,11,12]]) (nb:=[2,4,8,9]) (hk:=[[2152],[2152],[2152],[],[],[],[],[],[],[],[],[],[],[]]) (by kernel_rfl) fun K hK=>?_;simp only [go_sem,sgUc,tW,cl,fl,tF,b1,b2,h1]
  refine eK ?_;refine rE [.by_ (codU c n h l),.lit (.int .i64 0)] [] [.tmp 6,.tmp 7] ?_;simp only [go_sem,sbT,codU];all_goals exact agA
theorem Tr_unA (e c:List UInt8) (n:Int):Tr (unA e c n)=True:=eq_true (Tr.agg fun x hx=>by
  simp only [List.mem_cons,List.not_mem_nil,or_false] at hx;rcases hx with rfl | rfl | rfl | rfl
  · exact Tr.by_ _
  · exact Tr.by_ _
  · exact Tr.lit _
  · exact Tr.by_ _)
theorem TrC_fns (l:List Ob):TrC (.li 3 (l.map fnA)):=TrC.li fun x hx y hy=>by
  obtain ⟨f,_,rfl⟩:=List.mem_map.1 hx;simp only [fnA,AV.cl,List.mem_cons,List.not_mem_nil,or_false] at hy;rcases hy with rfl | rfl | rfl
  · exact Tr.lit _
  · exact Tr.by_ _
  · exact Tr.lit _
def sgUs (c:List UInt8) (n:Int) (h:List UInt8) (l:List Ob):Sg:=fun f args ls =>
  match f,args,ls with
  | 67,[.agg [.by_ e,.by_ c',.lit (.int .i64 n'),.by_ x],.by_ h',.li 3 xs],[]=>some (.tup [.by_ (codU c n h l),.lit (.int .i64 0)],[],c'=c∧n'=n∧x=cntB n∧h'=h∧xs=l.map fnA∧c.length=16∧0≤n∧n≤1099511627776∧h.length≤1000∧ObK l)
  | 68,[.li 3 xs],[]=>some (.tup [.fr (.by_ (obW (l++[(142,codU c n h l)]))),.lit (.int .i64 0)],[],ObK (l++[(142,codU c n h l)])∧xs=(l++[(142,codU c n h l)]).map fnA)
  | _,_,_=>none
theorem sgUs_ok (c:List UInt8) (n:Int) (h:List UInt8) (l:List Ob):SgOK Tryz.prog (sgUs c n h l):=by
  intro f args ls r ls' vc h hvc;unfold sgUs at h;split at h <;> cases h
  · obtain ⟨rfl,rfl,rfl,rfl,rfl,h1,h2,h3,h4,h5⟩:=hvc;exact ⟨(fnOK Tryz.func67 (by decide) rfl),ucode_s _ _ _ _ _ h1 ⟨h2,h3⟩ h4 h5⟩
  · obtain ⟨h1,rfl⟩:=hvc;exact ⟨(fnOK Tryz.func68 (by decide) rfl),tenc_s _ h1⟩
theorem useal_s (e c:List UInt8) (n:Int) (h:List UInt8) (l:List Ob) (h1:c.length=16) (h2:0≤n∧n≤1099511627776) (h3:h.length≤1000) (hl:ObK l) (hn:l.length≤9) :
    FnS Tryz.prog 37 [unA e c n,.by_ h,.sl 0 3 0 l.length] [.li 3 (l.map fnA)] (.tup [.fr (.by_ (obW (l++[(142,codU c n h l)]))),.lit (.int .i64 0)]) []:=by
  have hs:=sgUs_ok c n h l;have hT:=eq_true (TrC_fns l);have ck:=codU_len c n h l;have hl2:ObK (l++[(142,codU c n h l)]):=⟨by simp;omega,fun x hx=>by
    rcases List.mem_append.1 hx with hx | hx
    · exact hl.2 x hx
    · rw [List.mem_singleton] at hx;subst hx;exact ⟨.inr (.inr (.inr rfl)),by show (codU c n h l).length≤100;omega⟩⟩
  have he:l.map fnA++[.agg [.lit (.int .i64 142),.by_ (codU c n h l),.lit (.slice none 0 0)]]=(l++[(142,codU c n h l)]).map fnA:=by rw [List.map_append];rfl
  have tl:List.take l.length (l.map fnA)=l.map fnA:=List.take_of_length_le (by simp);refine FnS.given (pre:=[unA e c n,.by_ h]) Tryz.func37 rfl (N:=28) rfl (by simp) (fun x hx=>?_) ?_ fun X hX=>?_
  · simp only [List.mem_cons,List.not_mem_nil,or_false] at hx;rcases hx with rfl | rfl
    · exact of_eq_true (Tr_unA _ _ _)
    · exact Tr.by_ _
  · exact TrC_fns l
  simp only [tmArgs,List.cons_append,List.nil_append,Nat.reduceAdd];unfold unA;refine up 1 ?_;refine rK hs fun K hK=>?_;simp only [go_sem,sgUs,hT,tl,List.length_map,h1,h2,h3,hl]
  refine eK ?_;refine up 4 ?_
  have hT2:=eq_true (TrC_fns (l++[(142,codU c n h l)]));have t2:List.take (l.length+1) ((l++[(142,codU c n h l)]).map fnA)=(l++[(142,codU c n h l)]).map fnA:=List.take_of_length_le (by simp);refine rK hs fun K hK=>?_;simp only [go_sem,sgUs,he,hT2,t2,hl2,List.length_map]
  refine eK ?_;refine WA.retG ty_ok (xs:=[.fr (.by_ (obW (l++[(142,codU c n h l)]))),.lit (.int .i64 0)]) (rv:=[.tmp 6,.tmp 7]) rfl hX (by decide) (fun _=>rfl) (fun _ _ h=>h) ?_;simp only [go_sem,sbT];all_goals exact agA
end
end Go.Proofs.YtjjkfpbkmhfckaaGreatDoor
