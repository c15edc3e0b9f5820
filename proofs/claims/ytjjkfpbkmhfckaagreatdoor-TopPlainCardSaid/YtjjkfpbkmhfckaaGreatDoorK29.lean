import Derived.Test.YtjjkfpbkmhfckaaGreatDoorK28
import Derived.Test.YtjjkfpbkmhfckaaGreatDoorAbsDf
set_option linter.unusedVariables false
set_option linter.unusedSimpArgs false
set_option maxHeartbeats 1000000
set_option maxRecDepth 10000
namespace Go.Proofs.YtjjkfpbkmhfckaaGreatDoor.T2
open Go.RowKit Go.TravelBase Go.TravelAbs
def ty:Ty:=⟨fun k=>if k=107 then some ⟨.one,1,8,[.pointer none]⟩ else Go.Proofs.YtjjkfpbkmhfckaaGreatDoor.ty k,Go.Proofs.YtjjkfpbkmhfckaaGreatDoor.ty.eq⟩
@[go_sem] theorem ty_two (k:Nat):ty k=if k=107 then some ⟨.one,1,8,[.pointer none]⟩ else Go.Proofs.YtjjkfpbkmhfckaaGreatDoor.ty k:=rfl
@[go_sem] theorem ty_eq2 (k:Nat):ty.eq k=Go.Proofs.YtjjkfpbkmhfckaaGreatDoor.ty.eq k:=rfl
theorem ty_ok:TysOK Tryz.prog ty:=⟨fun t ti ht=>by
  have h:(if t=107 then some ⟨.one,1,8,[.pointer none]⟩ else Go.Proofs.YtjjkfpbkmhfckaaGreatDoor.ty t)=some ti:=ht;split at h
  · rename_i e;subst e;injection h with h;subst h;exact tyB_ok (by kernel_rfl)
  · exact Go.Proofs.YtjjkfpbkmhfckaaGreatDoor.ty_ok.1 t ti h,fun t ks h=>Go.Proofs.YtjjkfpbkmhfckaaGreatDoor.ty_ok.2 t ks h⟩
def sgQan (m m2:Mc) (c:List AV) (r:List UInt8) (st:Int):Sg:=fun f args ls =>
  match f,args,ls with
  | 60,[.ptr 0 0 0,.agg c'],[.li 70 [y]]=>some (.agg [.by_ r,.lit (.int .i64 st)],[.li 70 [mcA m2]],c'=c∧y=mcA m)
  | 12,[.agg [.lit (.int .i64 a),.lit (.int .i64 b),.lit (.int .i64 p),.lit (.int .i64 q),.by_ d,.lit (.int .i64 x)]],[]=>some (.lit (.bool (valC ⟨a,b,p,q,d,x⟩)),[],True)
  | 59,[.lit (.int .i64 n)],[]=>some (.agg [.by_ [],.lit (.int .i64 n)],[],True)
  | 58,[.ptr 0 0 0,.lit (.int .i64 n)],[.li 70 [y]]=>some (.agg [.by_ [],.lit (.int .i64 n)],[.li 70 [mcA (forgot m)]],y=mcA m∧MOK m)
  | _,_,_=>none
theorem sgQan_ok {m m2:Mc} {c:List AV} {r:List UInt8} {st:Int} (hF:FnS Tryz.prog 60 [.ptr 0 0 0,.agg c] [.li 70 [mcA m]] (rsX r st) [.li 70 [mcA m2]]):SgOK Tryz.prog (sgQan m m2 c r st):=by
  intro f args ls r ls' vc h hvc;unfold sgQan at h;split at h <;> cases h
  · obtain ⟨rfl,rfl⟩:=hvc;exact ⟨(fnOK Tryz.func60 (by decide) rfl),hF⟩
  · exact ⟨(fnOK Tryz.func12 (by decide) rfl),valid_s ⟨_,_,_,_,_,_⟩⟩
  · exact ⟨(fnOK Tryz.func59 (by decide) rfl),status_c _⟩
  · obtain ⟨rfl,h⟩:=hvc;exact ⟨(fnOK Tryz.func58 (by decide) rfl),refuse_c m _ h⟩
def sgQav (m:Mc):Sg:=fun f args ls =>
  match f,args,ls with
  | 12,[.agg [.lit (.int .i64 a),.lit (.int .i64 b),.lit (.int .i64 p),.lit (.int .i64 q),.by_ d,.lit (.int .i64 x)]],[]=>some (.lit (.bool (valC ⟨a,b,p,q,d,x⟩)),[],True)
  | 59,[.lit (.int .i64 n)],[]=>some (.agg [.by_ [],.lit (.int .i64 n)],[],True)
  | 58,[.ptr 0 0 0,.lit (.int .i64 n)],[.li 70 [y]]=>some (.agg [.by_ [],.lit (.int .i64 n)],[.li 70 [mcA (forgot m)]],y=mcA m∧MOK m)
  | _,_,_=>none
theorem sgQav_ok (m:Mc):SgOK Tryz.prog (sgQav m):=by
  intro f args ls r ls' vc h hvc;unfold sgQav at h;split at h <;> cases h
  · exact ⟨(fnOK Tryz.func12 (by decide) rfl),valid_s ⟨_,_,_,_,_,_⟩⟩
  · exact ⟨(fnOK Tryz.func59 (by decide) rfl),status_c _⟩
  · obtain ⟨rfl,h⟩:=hvc;exact ⟨(fnOK Tryz.func58 (by decide) rfl),refuse_c m _ h⟩
theorem answer_inv (m:Mc) (k ins p1 p2 x:Int) (d:List UInt8) (h:MOK m) (hv:valC ⟨k,ins,p1,p2,d,x⟩=false) :
    FnS Tryz.prog 31 [.ptr 0 0 0,cmX k ins p1 p2 d x] [.li 70 [mcA m]] (rsX [] 26368) [.li 70 [mcA (forgot m)]]:=by
  have hs:=sgQav_ok m;have hm:=eq_true (TrC_mc h);have h3:MOK (forgot m):=h;have hm3:=eq_true (TrC_mc h3);unfold cmX;refine fo Tryz.func31 62 fun X hX=>?_;refine WA.regionK ty_ok hs fun K hK=>?_;simp only [go_sem,true_and]
  refine eK ?_;refine up 1 ?_;refine WA.regionK ty_ok hs fun K hK=>?_;simp only [go_sem,sgQav,hv]
  refine eK ?_;refine up 1 ?_;refine WA.regionK ty_ok hs fun K hK=>?_;simp only [go_sem,sgQav,hm,hm3,h]
  refine eK ?_;refine rE [rsX [] 26368] [.li 70 [mcA (forgot m)]] [.cell 4 65] ?_;simp only [go_sem,sbT,rsX,hm3]
theorem answer_cls (m:Mc) (k ins p1 p2 x:Int) (d:List UInt8) (h:MOK m) (hv:valC ⟨k,ins,p1,p2,d,x⟩=true) (hsec:m.x.sec=false) (hk:(bits .and .i64 k 12 != 0)=true) :
    FnS Tryz.prog 31 [.ptr 0 0 0,cmX k ins p1 p2 d x] [.li 70 [mcA m]] (rsX [] 28160) [.li 70 [mcA m]]:=by
  have hs:=sgQav_ok m;have hm:=eq_true (TrC_mc h);unfold cmX;refine fo Tryz.func31 62 fun X hX=>?_;refine WA.regionK ty_ok hs fun K hK=>?_;simp only [go_sem,true_and]
  refine eK ?_;refine up 1 ?_;refine WA.regionK ty_ok hs fun K hK=>?_;simp only [go_sem,sgQav,hv]
  refine eK ?_;refine up 3 ?_;refine WA.regionK ty_ok hs fun K hK=>?_;simp only [go_sem,mcA,chpL,perL,i0,List.cons_append,List.nil_append,hsec]
  refine eK ?_;refine WA.sb 0 (xs':=[mcA m]) rfl ?hw ?_
  case hw =>
    refine ⟨?_,rfl⟩;simp only [mcA,chpL,perL,i0,AV.cl,List.cons_append,List.nil_append,hsec];repeat first | exact rfl | refine ⟨Wk.by_,?_⟩ | refine ⟨Wk.rfl_ _,?_⟩
  refine up 2 ?_;refine WA.regionK ty_ok hs fun K hK=>?_;simp only [go_sem,hk]
  refine eK ?_;refine up 1 ?_;refine WA.regionK ty_ok hs fun K hK=>?_;simp only [go_sem,sgQav]
  refine eK ?_;refine rE [rsX [] 28160] [.li 70 [mcA m]] [.cell 4 65] ?_;simp only [go_sem,sbT,rsX,hm]
theorem answer_mis (m:Mc) (k ins p1 p2 x:Int) (d:List UInt8) (h:MOK m) (hv:valC ⟨k,ins,p1,p2,d,x⟩=true) (hsec:m.x.sec=true) (hk:(bits .and .i64 k 12 != 12)=true) :
    FnS Tryz.prog 31 [.ptr 0 0 0,cmX k ins p1 p2 d x] [.li 70 [mcA m]] (rsX [] 27015) [.li 70 [mcA (forgot m)]]:=by
  have hs:=sgQav_ok m;have hm:=eq_true (TrC_mc h);have h3:MOK (forgot m):=h;have hm3:=eq_true (TrC_mc h3);unfold cmX;refine fo Tryz.func31 62 fun X hX=>?_;refine WA.regionK ty_ok hs fun K hK=>?_;simp only [go_sem,true_and]
  refine eK ?_;refine up 1 ?_;refine WA.regionK ty_ok hs fun K hK=>?_;simp only [go_sem,sgQav,hv]
  refine eK ?_;refine up 3 ?_;refine WA.regionK ty_ok hs fun K hK=>?_;simp only [go_sem,mcA,chpL,perL,i0,List.cons_append,List.nil_append,hsec]
  refine eK ?_;refine WA.sb 0 (xs':=[mcA m]) rfl ?hw ?_
  case hw =>
    refine ⟨?_,rfl⟩;simp only [mcA,chpL,perL,i0,AV.cl,List.cons_append,List.nil_append,hsec];repeat first | exact rfl | refine ⟨Wk.by_,?_⟩ | refine ⟨Wk.rfl_ _,?_⟩
  refine up 3 ?_;refine WA.regionK ty_ok hs fun K hK=>?_;simp only [go_sem,hk]
  refine eK ?_;refine up 1 ?_;refine WA.regionK ty_ok hs fun K hK=>?_;simp only [go_sem,sgQav,hm,hm3,h]
  refine eK ?_;refine rE [rsX [] 27015] [.li 70 [mcA (forgot m)]] [.cell 4 65] ?_;simp only [go_sem,sbT,rsX,hm3]
theorem answer_pln (m m2:Mc) (ins p1 p2 x:Int) (d r:List UInt8) (st:Int) (h:MOK m) (h2:MOK m2) (hv:valC ⟨0,ins,p1,p2,d,x⟩=true) (hsec:m.x.sec=false)
    (hF:FnS Tryz.prog 60 [.ptr 0 0 0,cmX 0 ins p1 p2 d x] [.li 70 [mcA m]] (rsX r st) [.li 70 [mcA m2]]) :
    FnS Tryz.prog 31 [.ptr 0 0 0,cmX 0 ins p1 p2 d x] [.li 70 [mcA m]] (rsX r st) [.li 70 [mcA m2]]:=by
  unfold cmX at hF ⊢;have hs:=sgQan_ok hF;have hm:=eq_true (TrC_mc h);have hm2:=eq_true (TrC_mc h2);have hk:(bits .and .i64 0 12 != 0)=false:=by decide
  refine fo Tryz.func31 62 fun X hX=>?_;refine WA.regionK ty_ok hs fun K hK=>?_;simp only [go_sem,true_and]
  refine eK ?_;refine up 1 ?_;refine WA.regionK ty_ok hs fun K hK=>?_;simp only [go_sem,sgQan,hv]
  refine eK ?_;refine up 3 ?_;refine WA.regionK ty_ok hs fun K hK=>?_;simp only [go_sem,mcA,chpL,perL,i0,List.cons_append,List.nil_append,hsec]
  refine eK ?_;refine WA.sb 0 (xs':=[mcA m]) rfl ?hw ?_
  case hw =>
    refine ⟨?_,rfl⟩;simp only [mcA,chpL,perL,i0,AV.cl,List.cons_append,List.nil_append,hsec];repeat first | exact rfl | refine ⟨Wk.by_,?_⟩ | refine ⟨Wk.rfl_ _,?_⟩
  refine up 2 ?_;refine WA.regionK ty_ok hs fun K hK=>?_;simp only [go_sem,hk]
  refine eK ?_;refine up 2 ?_
  refine WA.regionK ty_ok hs fun K hK=>?_;simp only [go_sem,sgQan,hm,hm2]
  refine eK ?_;refine rE [rsX r st] [.li 70 [mcA m2]] [.cell 4 65] ?_;simp only [go_sem,sbT,rsX,hm2]
def sgQuw (e c:List UInt8) (n:Int) (k:List AV) (k2:List AV) (n2:Int):Sg:=fun f args ls =>
  match f,args,ls with
  | 12,[.agg [.lit (.int .i64 a),.lit (.int .i64 b),.lit (.int .i64 p),.lit (.int .i64 q),.by_ d,.lit (.int .i64 x)]],[]=>some (.lit (.bool (valC ⟨a,b,p,q,d,x⟩)),[],True)
  | 61,[.agg [.by_ e',.by_ c',.lit (.int .i64 n')],.agg k'],[]=>some (.tup [.agg k2,.agg [.by_ e,.by_ c,.lit (.int .i64 n2)],.lit (.int .i64 0)],[],(e'=e∧c'=c∧n'=n)∧k'=k)
  | _,_,_=>none
theorem sgQuw_ok {e c:List UInt8} {n:Int} {k k2:List AV} {n2:Int} (hF:FnS Tryz.prog 61 [ssA e c n,.agg k] [] (.tup [.agg k2,ssA e c n2,.lit (.int .i64 0)]) []):SgOK Tryz.prog (sgQuw e c n k k2 n2):=by
  intro f args ls r ls' vc h hvc;unfold sgQuw at h;split at h <;> cases h
  · exact ⟨(fnOK Tryz.func12 (by decide) rfl),valid_s ⟨_,_,_,_,_,_⟩⟩
  · obtain ⟨⟨rfl,rfl,rfl⟩,rfl⟩:=hvc;exact ⟨(fnOK Tryz.func61 (by decide) rfl),hF⟩
def sgQdf (m m2:Mc) (e c:List UInt8) (n:Int) (r:List UInt8) (st:Int) (w:List UInt8) (st2:Int):Sg:=fun f args ls =>
  match f,args,ls with
  | 63,[.ptr 0 0 0,.agg [.by_ e',.by_ c',.lit (.int .i64 n')],.agg [.by_ r',.lit (.int .i64 st')]],[.li 70 [y]]=>some (.agg [.by_ w,.lit (.int .i64 st2)],[.li 70 [mcA m2]],(e'=e∧c'=c∧n'=n)∧(r'=r∧st'=st)∧y=mcA m)
  | _,_,_=>none
theorem sgQdf_ok {m m2:Mc} {e c:List UInt8} {n:Int} {r:List UInt8} {st:Int} {w:List UInt8} {st2:Int} (hF:FnS Tryz.prog 63 [.ptr 0 0 0,ssA e c n,rsX r st] [.li 70 [mcA m]] (rsX w st2) [.li 70 [mcA m2]]):SgOK Tryz.prog (sgQdf m m2 e c n r st w st2):=by
  intro f args ls r ls' vc h hvc;unfold sgQdf at h;split at h <;> cases h
  obtain ⟨⟨rfl,rfl,rfl⟩,⟨rfl,rfl⟩,rfl⟩:=hvc;exact ⟨(fnOK Tryz.func63 (by decide) rfl),hF⟩
theorem answer_sec (m m2 m3:Mc) (ins p1 p2 p1' p2' x x':Int) (d d':List UInt8) (n2:Int) (r:List UInt8) (st:Int) (w:List UInt8) (st2:Int) (h:MOK m) (h2:MOK m2) (h3:MOK m3)
    (hv:valC ⟨12,ins,p1,p2,d,x⟩=true) (hsec:m.x.sec=true)
    (hU:FnS Tryz.prog 61 [ssA m.x.e m.x.c m.x.n,cmX 12 ins p1 p2 d x] [] (.tup [cmX 0 ins p1' p2' d' x',ssA m.x.e m.x.c n2,.lit (.int .i64 0)]) [])
    (hC:FnS Tryz.prog 60 [.ptr 0 0 0,cmX 0 ins p1' p2' d' x'] [.li 70 [mcA (sessd m m.x.e m.x.c n2)]] (rsX r st) [.li 70 [mcA m2]])
    (hS:FnS Tryz.prog 63 [.ptr 0 0 0,ssA m.x.e m.x.c n2,rsX r st] [.li 70 [mcA m2]] (rsX w st2) [.li 70 [mcA m3]]) :
    FnS Tryz.prog 31 [.ptr 0 0 0,cmX 12 ins p1 p2 d x] [.li 70 [mcA m]] (rsX w st2) [.li 70 [mcA m3]]:=by
  unfold cmX at hU hC ⊢;have hs:=sgQuw_ok hU;have hm:=eq_true (TrC_mc h);have hm2:=eq_true (TrC_mc h2);have hm3:=eq_true (TrC_mc h3);have hh2:MOK (sessd m m.x.e m.x.c n2):=h;have hmm:=eq_true (TrC_mc hh2);have hk:(bits .and .i64 12 12 != 12)=false:=by decide
  refine FnS.ofD Tryz.func31 rfl (N:=62) rfl (by simp) (by simp) fun X hX hE=>?_;simp only [tmArgs,lentH,Nat.reduceAdd];refine WA.regionK ty_ok hs fun K hK=>?_;simp only [go_sem,true_and]
  refine eK ?_;refine up 1 ?_;refine WA.regionK ty_ok hs fun K hK=>?_;simp only [go_sem,sgQuw,hv]
  refine eK ?_;refine up 3 ?_;refine WA.regionK ty_ok hs fun K hK=>?_;simp only [go_sem,mcA,chpL,perL,i0,List.cons_append,List.nil_append,hsec]
  refine eK ?_;refine WA.sb 0 (xs':=[mcA m]) rfl ?hw ?_
  case hw =>
    refine ⟨?_,rfl⟩;simp only [mcA,chpL,perL,i0,AV.cl,List.cons_append,List.nil_append,hsec];repeat first | exact rfl | refine ⟨Wk.by_,?_⟩ | refine ⟨Wk.rfl_ _,?_⟩
  refine up 3 ?_;refine WA.regionK ty_ok hs fun K hK=>?_;simp only [go_sem,hk]
  refine eK ?_;refine up 2 ?_
  refine WA.drawnK mixed_ ty_ok hs (tbl:=[[],[0],[0,1],[0,1,2],[0,1,2,3],[],[0,1,2,3,4,5],[0,1,2,3,4,5,6],[0,1,2,3,4,5,6,7],[0,1,2,3,4,5,6,7],[0,1,2,3,4,5,6,7],[],[],[0,1,2,3,4,5,6,7,8,11,12],[0,1,2,3,4,5,6,7,8,9,11,12,13],[0,1,2,3,4,5,6,7,8,9,10,11,12,13,14]]) (nb:=[0,4,5,6,13,14]) (by kernel_rfl) fun K hK=>?_;simp only [go_sem,sgQuw,mcA,chpL,perL,i0,List.cons_append,List.nil_append]
  refine eK ?_;refine WA.sb 0 (xs':=[mcA m]) rfl ?hw ?_
  case hw =>
    refine ⟨?_,rfl⟩;simp only [mcA,chpL,perL,i0,AV.cl,List.cons_append,List.nil_append,true_and];repeat first | exact rfl | refine ⟨Wk.by_,?_⟩ | refine ⟨Wk.rfl_ _,?_⟩
  refine up 1 ?_;refine WA.regionK ty_ok hs fun K hK=>?_;simp only [go_sem,true_and]
  refine eK ?_;refine up 1 ?_;refine WA.regionK ty_ok hs fun K hK=>?_;simp only [go_sem,true_and]
  refine eK ?_;refine up 2 ?_
  refine WA.regionK ty_ok hs fun K hK=>?_;simp only [go_sem,mcA,chpL,perL,i0,List.cons_append,List.nil_append]
  refine eK ?_;refine WA.sb 0 (xs':=[mcA (sessd m m.x.e m.x.c n2)]) rfl ?hw ?_
  case hw =>
    refine ⟨?_,rfl⟩;simp only [mcA,chpL,perL,i0,AV.cl,List.cons_append,List.nil_append,sessd];repeat first | exact rfl | refine ⟨Wk.by_,?_⟩ | refine ⟨Wk.rfl_ _,?_⟩
  clear hs;have hs:=sgQan_ok hC;have hs2:=sgQdf_ok hS;refine WA.deferRet ty_ok hs hs2 hE (fg:=Tryz.f62) (N:=7) (xs:=[rsX w st2]) (ls':=[.li 70 [mcA m3]]) (rv:=[.cell 4 65]) rfl hX (by simp) (fun _=>rfl) rfl rfl rfl (show (58:Nat)<62 by decide) rfl rfl rfl rfl rfl Tryz.func62 rfl rfl (by decide) rfl (by decide) fun K hK=>?_;simp only [go_sem,sgQan,hmm,hm2]
  refine eK ?_;intro K2 hK2;simp only [go_sem,sgQdf,hm2,hm3]
  (repeat refine sdA ?_);refine hK2 _ ?_;simp only [go_sem,sbT,rsX,hm3]
end Go.Proofs.YtjjkfpbkmhfckaaGreatDoor.T2
