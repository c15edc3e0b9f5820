import Derived.Test.YtjjkfpbkmhfckaaGreatDoorK24
import Derived.Test.YtjjkfpbkmhfckaaGreatDoorK07
import Derived.Test.YtjjkfpbkmhfckaaGreatDoorK11
import Derived.Test.YtjjkfpbkmhfckaaGreatDoorDiceB
import Derived.Test.YtjjkfpbkmhfckaaGreatDoorK09
import Derived.Test.YtjjkfpbkmhfckaaGreatDoorK10
import Derived.Test.YtjjkfpbkmhfckaaGreatDoorK06
import Derived.Test.YtjjkfpbkmhfckaaGreatDoorChN
set_option linter.unusedVariables false
set_option linter.unusedSimpArgs false
set_option maxHeartbeats 1000000
set_option maxRecDepth 10000
namespace Go.Proofs.YtjjkfpbkmhfckaaGreatDoor
open Go.RowKit Go.TravelBase Go.TravelAbs
structure Per where
  root:List Fil.Fl
  apps:List Fil.Fap
  zone:ByteArray
  number:List UInt8
  pin:List UInt8
  puk:List UInt8
  pr:Int
  ur:Int
  basic:Bool
  infos:List AV
  ck:Int
  ak:Int
  pts:List AV
  date:Int
  ident:List UInt8
  seed:List UInt8
def perL (p:Per):List AV:=[.li 5 (p.root.map Fil.flA),.li 2 (p.apps.map Fil.apA),.lit (.string p.zone),.by_ p.number,.by_ p.pin,.by_ p.puk,.lit (.int .i64 p.pr),.lit (.int .i64 p.ur),.lit (.bool p.basic),.li 5 p.infos,.lit (.int .i64 p.ck),.lit (.int .i64 p.ak),.li 5 p.pts,.lit (.int .i64 p.date),.by_ p.ident,.by_ p.seed]
structure Chp where
  p:Per
  m0:List UInt8
  m1:List UInt8
  seed:List UInt8
  on:Bool
  app:Int
  file:Int
  st:Fil.Stt
  sec:Bool
  e:List UInt8
  c:List UInt8
  n:Int
  nonce:List UInt8
def i0:AV:=.lit (.int .i64 0)
def chpL (x:Chp):List AV:=perL x.p++[.by_ x.m0,.by_ x.m1,.by_ x.seed,.lit (.bool x.on),.lit (.int .i64 x.app),.lit (.int .i64 x.file),.lit (.int .i64 x.st.pw),.lit (.bool x.st.b1),.lit (.bool x.st.chip),.lit (.bool x.st.term),.lit (.int .i64 x.st.rights),.lit (.bool x.sec),.by_ x.e,.by_ x.c,.lit (.int .i64 x.n),i0,i0,i0,.by_ [],i0,i0,.by_ [],i0,i0,i0,i0,.by_ [],.by_ [],i0,.by_ x.nonce,.lit (.string ⟨#[]⟩),i0,i0,i0,i0,i0,.by_ [],.lit (.bool false),i0,i0,i0,i0,.by_ [],i0]
def chpA (x:Chp):AV:=.agg (chpL x)
structure Mc where
  x:Chp
  pr:Int
  ur:Int
  pin:List UInt8
  pts:List AV
  date:Int
  wr:Int
  fresh:Bool
  nonce:List UInt8
def mcA (m:Mc):AV:=.agg (chpL m.x++[.lit (.int .i64 m.pr),.lit (.int .i64 m.ur),.by_ m.pin,.li 5 m.pts,.lit (.int .i64 m.date),.lit (.int .i64 (-1)),.lit (.int .i64 m.wr),.lit (.bool false),.lit (.bool m.fresh),.by_ m.nonce])
def PerOK (p:Per):Prop:=Tr (.li 5 p.infos)∧Tr (.li 5 p.pts)
def MOK (m:Mc):Prop:=PerOK m.x.p∧Tr (.li 5 m.pts)
theorem perL_tr {p:Per} (h:PerOK p):∀ y∈perL p,Tr y:=fun y hy=>by
  simp only [perL,List.mem_cons,List.not_mem_nil,or_false] at hy;rcases hy with rfl | rfl | rfl | rfl | rfl | rfl | rfl | rfl | rfl | rfl | rfl | rfl | rfl | rfl | rfl | rfl;all_goals first | exact Tr.lit _ | exact Tr.by_ _ | exact h.1 | exact h.2 | exact of_eq_true (Fil.Tr_fls _) | exact of_eq_true (Fil.Tr_aps _)
theorem chpL_tr {x:Chp} (h:PerOK x.p):∀ y∈chpL x,Tr y:=fun y hy=>by
  rcases List.mem_append.1 hy with hy | hy
  · exact perL_tr h y hy
  · simp only [i0,List.mem_cons,List.not_mem_nil,or_false] at hy;rcases hy with rfl | rfl | rfl | rfl | rfl | rfl | rfl | rfl | rfl | rfl | rfl | rfl | rfl | rfl | rfl | rfl | rfl | rfl | rfl | rfl | rfl | rfl | rfl | rfl | rfl | rfl | rfl | rfl | rfl | rfl | rfl | rfl | rfl | rfl | rfl | rfl | rfl | rfl | rfl | rfl | rfl | rfl | rfl | rfl;all_goals first | exact Tr.lit _ | exact Tr.by_ _
theorem TrC_mc {m:Mc} (h:MOK m):TrC (.li 70 [mcA m]):=TrC.li fun x hx y hy=>by
  rw [List.mem_singleton] at hx;subst hx;rcases List.mem_append.1 hy with hy | hy
  · exact chpL_tr h.1 y hy
  · simp only [List.mem_cons,List.not_mem_nil,or_false] at hy;rcases hy with rfl | rfl | rfl | rfl | rfl | rfl | rfl | rfl | rfl | rfl;all_goals first | exact Tr.lit _ | exact Tr.by_ _ | exact h.2
def forgotX (x:Chp):Chp:={ x with st:=⟨0,false,false,false,0⟩,sec:=false,e:=[],c:=[],n:=0 }
def forgot (m:Mc):Mc:={ m with x:=forgotX m.x,fresh:=true }
theorem forget_c (m:Mc) (h:MOK m):FnS Tryz.prog 105 [.ptr 0 0 0] [.li 70 [mcA m]] (.tup []) [.li 70 [mcA (forgot m)]]:=by
  have hs:=sg0_ok;unfold mcA chpL perL;simp only [List.cons_append,List.nil_append];refine fo Tryz.func105 28 fun X hX=>?_;refine up 1 ?_;refine WA.regionE ty_ok hs fun K hK=>?_;simp only [go_sem,true_and];refine hK _ (WN.mk ?_);clear hK K;repeat with_reducible refine WN.b ?_
  refine WN.sb 0 (xs':=[mcA (forgot m)]) rfl ?hw ?_
  case hw =>
    refine ⟨?_,rfl⟩;simp only [mcA,chpL,perL,i0,AV.cl,List.cons_append,List.nil_append,forgot,forgotX];repeat first | exact rfl | refine ⟨Wk.by_,?_⟩ | refine ⟨Wk.rfl_ _,?_⟩
  refine WN.retE ty_ok (xs:=[]) (ls':=[.li 70 [mcA (forgot m)]]) (rv:=[]) rfl hX (by simp) (fun _=>rfl) (fun _ _ h=>h) ?_;simp only [go_sem,forgot,forgotX];exact TrC_mc (m:=forgot m) h
section
attribute [local irreducible] digB keyB sealB chkB openB codeB enc1 padB drwB nxtB
def sgRf (m:Mc):Sg:=fun f args ls =>
  match f,args,ls with
  | 105,[.ptr 0 0 0],[.li 70 [x]]=>some (.tup [],[.li 70 [mcA (forgot m)]],x=mcA m∧MOK m)
  | 59,[.lit (.int .i64 n)],[]=>some (.agg [.by_ [],.lit (.int .i64 n)],[],True)
  | 224,[.by_ s,.lit (.int .i64 n)],[]=>some (.tup [.by_ ((drwB s).take n.toNat),.fr (.by_ (nxtB s)),.lit (.int .i64 0)],[],s.length≤10000000∧1≤n∧n≤32)
  | _,_,_=>none
theorem sgRf_ok (m:Mc):SgOK Tryz.prog (sgRf m):=by
  intro f args ls r ls' vc h hvc;unfold sgRf at h;split at h <;> cases h
  · obtain ⟨rfl,h⟩:=hvc;exact ⟨(fnOK Tryz.func105 (by decide) rfl),forget_c m h⟩
  · exact ⟨(fnOK Tryz.func59 (by decide) rfl),status_c _⟩
  · rename_i s n;obtain ⟨h1,h2,h3⟩:=hvc;obtain ⟨k,rfl⟩:=Int.eq_ofNat_of_zero_le (show 0≤n by omega);exact ⟨(fnOK Tryz.func224 (by decide) rfl),draw_s s k h1 (by omega)⟩
theorem refuse_c (m:Mc) (n:Int) (h:MOK m):FnS Tryz.prog 58 [.ptr 0 0 0,.lit (.int .i64 n)] [.li 70 [mcA m]] (rsX [] n) [.li 70 [mcA (forgot m)]]:=by
  have hs:=sgRf_ok m;have hm:=eq_true (TrC_mc h);have h':MOK (forgot m):=h;have hm':=eq_true (TrC_mc h');refine fo Tryz.func58 13 fun X hX=>?_;refine up 1 ?_;refine rK hs fun K hK=>?_;simp only [go_sem,sgRf,hm,hm',h]
  refine eK ?_;refine rK hs fun K hK=>?_;simp only [go_sem,mcA,chpL,perL,i0,List.cons_append,List.nil_append]
  refine eK ?_;refine WA.sb 0 (xs':=[mcA (forgot m)]) rfl ?hw ?_
  case hw =>
    refine ⟨?_,rfl⟩;simp only [mcA,chpL,perL,i0,AV.cl,List.cons_append,List.nil_append,forgot,forgotX];repeat first | exact rfl | refine ⟨Wk.by_,?_⟩ | refine ⟨Wk.rfl_ _,?_⟩
  refine rK hs fun K hK=>?_;simp only [go_sem,sgRf]
  refine eK ?_;refine rE [rsX [] n] [.li 70 [mcA (forgot m)]] [.cell 4 65] ?_;simp only [go_sem,sbT,rsX,hm']
def drawn (m:Mc):Mc:={ m with x:={ m.x with seed:=nxtB m.x.seed } }
theorem draw_c (m:Mc) (n:Int) (h:MOK m) (h1:m.x.seed.length≤10000000) (hn:1≤n∧n≤32):FnS Tryz.prog 191 [.ptr 0 0 0,.lit (.int .i64 n)] [.li 70 [mcA m]] (.by_ ((drwB m.x.seed).take n.toNat)) [.li 70 [mcA (drawn m)]]:=by
  have hs:=sgRf_ok m;have h':MOK (drawn m):=h;have hm':=eq_true (TrC_mc h');have t1:=List.take_of_length_le (Nat.le_refl (nxtB m.x.seed).length);refine fo Tryz.func191 25 fun X hX=>?_;refine up 1 ?_;refine rK hs fun K hK=>?_;simp only [go_sem,mcA,chpL,perL,i0,List.cons_append,List.nil_append,sgRf,h1,hn.1,hn.2]
  refine eK ?_;refine up 2 ?_;have i1:=eq_true h.1.1;have i2:=eq_true h.1.2;have i3:=eq_true h.2;refine WA.norm 0 fun K hK=>?_;simp only [go_sem,t1,Fil.Tr_fls,Fil.Tr_aps,i1,i2,i3]
  refine eK ?_;refine WA.sb 0 (xs':=[mcA (drawn m)]) rfl ?hw ?_
  case hw =>
    refine ⟨?_,rfl⟩;simp only [mcA,chpL,perL,i0,AV.cl,List.cons_append,List.nil_append,drawn];repeat first | exact rfl | refine ⟨Wk.by_,?_⟩ | refine ⟨Wk.rfl_ _,?_⟩
  refine rE [.by_ ((drwB m.x.seed).take n.toNat)] [.li 70 [mcA (drawn m)]] [.tmp 4] ?_;simp only [go_sem,sbT,hm']
def begunX (x:Chp) (st:Fil.Stt) (e c:List UInt8) (n:Int):Chp:={ x with st:=st,sec:=true,e:=e,c:=c,n:=n }
def begun (m:Mc) (st:Fil.Stt) (e c:List UInt8) (n:Int):Mc:={ m with x:=begunX m.x st e c n,fresh:=true }
theorem begin_c (m:Mc) (st:Fil.Stt) (e c:List UInt8) (n:Int) (h:MOK m):FnS Tryz.prog 194 [.ptr 0 0 0,.agg [.lit (.int .i64 st.pw),.lit (.bool st.b1),.lit (.bool st.chip),.lit (.bool st.term),.lit (.int .i64 st.rights)],ssA e c n] [.li 70 [mcA m]] (.tup []) [.li 70 [mcA (begun m st e c n)]]:=by
  have hs:=sg0_ok;unfold mcA chpL perL ssA;simp only [List.cons_append,List.nil_append];refine fo Tryz.func194 23 fun X hX=>?_;refine up 1 ?_;refine WA.drawn2 mixed_ ty_ok hs (tbl:=[[],[],[],[],[],[],[0,4],[0,4,6],[0,4,6,7],[0,4,6,7,8],[0,1,4,5,6,7,8,9],[0,1,4,5,6,7,8,9,10],[0,1,4,5,6,7,8,9,10,11],[0,1,4,5,6,7,8,9,10,11,12],[0,1,2,4,5,6,7,8,9,10,11,12,13],[0,1,2,4,5,6,7,8,9,10,11,12,13,14],[0,1,2,4,5,6,7,8,9,10,11,12,13,14,15],[0,1,2,4,5,6,7,8,9,10,11,12,13,14,15,16],[0,1,2,3,4,5,6,7,8,9,10,11,12,13,14,15,16,17],[0,1,2,3,4,5,6,7,8,9,10,11,12,13,14,15,16,17,18],[0,1,2,3,4,5,6,7,8,9,10,11,12,13,14,15,16,17,18,19]]) (nb:=[4,5,9,13,17,20]) (hk:=[[],[0],[0],[0],[],[0],[],[],[],[],[],[],[],[],[],[],[],[],[],[],[]]) (by kernel_rfl) fun K hK=>?_;simp only [go_sem,i0]
  (repeat refine sdA ?_);refine hK _ (WN.mk ?_);clear hK K;repeat with_reducible refine WN.b ?_
  refine WN.sb 0 (xs':=[mcA (begun m st e c n)]) rfl ?hw ?_
  case hw =>
    refine ⟨?_,rfl⟩;simp only [mcA,chpL,perL,i0,AV.cl,List.cons_append,List.nil_append,begun,begunX];repeat first | exact rfl | refine ⟨Wk.by_,?_⟩ | refine ⟨Wk.rfl_ _,?_⟩
  refine WN.retE ty_ok (xs:=[]) (ls':=[.li 70 [mcA (begun m st e c n)]]) (rv:=[]) rfl hX (by simp) (fun _=>rfl) (fun _ _ h=>h) ?_;simp only [go_sem,begun,begunX];exact TrC_mc (m:=begun m st e c n) h
end
section
attribute [local irreducible] digB keyB sealB chkB openB codeB enc1 padB drwB nxtB
def rndB (m:Mc):List UInt8:=(drwB m.x.seed).take 8
def challenged (m:Mc):Mc:={ m with x:={ m.x with seed:=nxtB m.x.seed,nonce:=rndB m } }
def sgCh (m:Mc):Sg:=fun f args ls =>
  match f,args,ls with
  | 190,[.agg [.lit (.int .i64 a),.lit (.int .i64 b),.lit (.int .i64 c),.lit (.int .i64 d),.by_ l,.lit (.int .i64 x)]],[]=>some (.lit (.bool (bif c == 0 then d == 0 else false)),[],True)
  | 191,[.ptr 0 0 0,.lit (.int .i64 n)],[.li 70 [x]]=>some (.by_ ((drwB m.x.seed).take n.toNat),[.li 70 [mcA (drawn m)]],x=mcA m∧MOK m∧m.x.seed.length≤10000000∧1≤n∧n≤32)
  | 46,[.by_ bs],[]=>some (.fr (.by_ bs),[],bs.length≤140737488355328)
  | _,_,_=>none
theorem sgCh_ok (m:Mc):SgOK Tryz.prog (sgCh m):=by
  intro f args ls r ls' vc h hvc;unfold sgCh at h;split at h <;> cases h
  · exact ⟨(fnOK Tryz.func190 (by decide) rfl),both_c _ _ _ _ _ _⟩
  · obtain ⟨rfl,h,h1,h2,h3⟩:=hvc;exact ⟨(fnOK Tryz.func191 (by decide) rfl),draw_c m _ h h1 ⟨h2,h3⟩⟩
  · exact ⟨(fnOK Tryz.func46 (by decide) rfl),sclone_s _ hvc⟩
theorem challenge_c (m:Mc) (a b:Int) (h:MOK m) (h1:m.x.seed.length≤10000000):FnS Tryz.prog 148 [.ptr 0 0 0,cmX a b 0 0 [] 8] [.li 70 [mcA m]] (rsX (rndB m) 36864) [.li 70 [mcA (challenged m)]]:=by
  have hs:=sgCh_ok m;have hm:=eq_true (TrC_mc h);have h':MOK (challenged m):=h;have hd:MOK (drawn m):=h;have hm':=eq_true (TrC_mc h');have hmd:=eq_true (TrC_mc hd);have hr:List.take 8 (drwB m.x.seed)=rndB m:=rfl;have hl:(rndB m).length≤140737488355328:=by unfold rndB;rw [List.length_take];omega
  have ht:=List.take_of_length_le (Nat.le_refl (rndB m).length);unfold cmX;refine fo Tryz.func148 34 fun X hX=>?_;refine up 3 ?_;refine rK hs fun K hK=>?_;simp only [go_sem,sgCh]
  refine eK ?_;refine up 4 ?_
  refine rK hs fun K hK=>?_;simp only [go_sem,sgCh,hm,hmd,h,h1,hr]
  refine eK ?_;simp only [mcA,drawn,chpL,perL,i0,List.cons_append,List.nil_append,go_sem];refine WA.sb 0 (xs':=[mcA (challenged m)]) rfl ?hw ?_
  case hw =>
    refine ⟨?_,rfl⟩;simp only [mcA,chpL,perL,i0,AV.cl,List.cons_append,List.nil_append,challenged];repeat first | exact rfl | refine ⟨Wk.by_,?_⟩ | refine ⟨Wk.rfl_ _,?_⟩
  refine rK hs fun K hK=>?_;simp only [go_sem,sgCh,hl,mcA,chpL,perL,i0,challenged,List.cons_append,List.nil_append]
  refine eK ?_;refine WA.sb 0 (xs':=[mcA (challenged m)]) rfl ?hw ?_
  case hw =>
    refine ⟨?_,rfl⟩;simp only [mcA,chpL,perL,i0,AV.cl,List.cons_append,List.nil_append,challenged];repeat first | exact rfl | refine ⟨Wk.by_,?_⟩ | refine ⟨Wk.rfl_ _,?_⟩
  refine rE [rsX (rndB m) 36864] [.li 70 [mcA (challenged m)]] [.cell 4 65] ?_;simp only [go_sem,sbT,rsX,hm',ht]
end
section
attribute [local irreducible] digB keyB sealB chkB openB codeB enc1 padB drwB nxtB seedB msB ctrN seX
def halfB (m:Mc):List UInt8:=(drwB m.x.seed).take 16
def sgXt (m:Mc) (ft hf:List UInt8):Sg:=fun f args ls =>
  match f,args,ls with
  | 190,[.agg [.lit (.int .i64 a),.lit (.int .i64 b),.lit (.int .i64 c),.lit (.int .i64 d),.by_ l,.lit (.int .i64 x)]],[]=>some (.lit (.bool (bif c == 0 then d == 0 else false)),[],True)
  | 191,[.ptr 0 0 0,.lit (.int .i64 n)],[.li 70 [x]]=>some (.by_ ((drwB m.x.seed).take n.toNat),[.li 70 [mcA (drawn m)]],x=mcA m∧MOK m∧m.x.seed.length≤10000000∧1≤n∧n≤32)
  | 26,[.lit (.string s)],[]=>some (.by_ (seedB s.data.toList),[],s.data.toList.length≤1000000)
  | 193,[.by_ sd,.by_ ch,.by_ h,.by_ d],[]=>some (.tup [.by_ (msB sd ch ft h),.agg [.by_ (keyB (seX h hf) 1),.by_ (keyB (seX h hf) 2),.lit (.int .i64 (ctrN ch ft))],.lit (.int .i64 0)],[],d=msB sd ft ch hf∧sd.length=16∧ch.length=8∧h.length=16∧ft.length=8∧hf.length=16)
  | _,_,_=>none
theorem sgXt_ok (m:Mc) (ft hf:List UInt8):SgOK Tryz.prog (sgXt m ft hf):=by
  intro f args ls r ls' vc h hvc;unfold sgXt at h;split at h <;> cases h
  · exact ⟨(fnOK Tryz.func190 (by decide) rfl),both_c _ _ _ _ _ _⟩
  · obtain ⟨rfl,h,h1,h2,h3⟩:=hvc;exact ⟨(fnOK Tryz.func191 (by decide) rfl),draw_c m _ h h1 ⟨h2,h3⟩⟩
  · exact ⟨(fnOK Tryz.func26 (by decide) rfl),seed_s _ hvc⟩
  · obtain ⟨rfl,h1,h2,h3,h4,h5⟩:=hvc;exact ⟨(fnOK Tryz.func193 (by decide) rfl),answer_s h1 h2 h3 h4 h5⟩
def sgXu (m:Mc):Sg:=fun f args ls =>
  match f,args,ls with
  | 105,[.ptr 0 0 0],[.li 70 [x]]=>some (.tup [],[.li 70 [mcA (forgot m)]],x=mcA m∧MOK m)
  | 194,[.ptr 0 0 0,.agg [.lit (.int .i64 p),.lit (.bool b1),.lit (.bool b2),.lit (.bool b3),.lit (.int .i64 r)],.agg [.by_ e,.by_ c,.lit (.int .i64 n)]],[.li 70 [x]]=>some (.tup [],[.li 70 [mcA (begun (forgot m) ⟨p,b1,b2,b3,r⟩ e c n)]],x=mcA (forgot m)∧MOK (forgot m))
  | _,_,_=>none
theorem sgXu_ok (m:Mc):SgOK Tryz.prog (sgXu m):=by
  intro f args ls r ls' vc h hvc;unfold sgXu at h;split at h <;> cases h
  · obtain ⟨rfl,h⟩:=hvc;exact ⟨(fnOK Tryz.func105 (by decide) rfl),forget_c m h⟩
  · obtain ⟨rfl,h⟩:=hvc;exact ⟨(fnOK Tryz.func194 (by decide) rfl),begin_c (forgot m) ⟨_,_,_,_,_⟩ _ _ _ h⟩
theorem external_c (m:Mc) (a b:Int) (ft hf:List UInt8) (h:MOK m) (h1:m.x.seed.length≤10000000) (hft:ft.length=8) (hhf:hf.length=16) (hsec:m.x.sec=false) (hbas:m.x.p.basic=true) (hz:(m.x.p.zone.toList == (ByteArray.mk #[]).toList)=false) (hzl:m.x.p.zone.data.toList.length≤1000) (hn:m.nonce.length=8) :
    FnS Tryz.prog 149 [.ptr 0 0 0,cmX a b 0 0 (msB (seedB m.x.p.zone.data.toList) ft m.nonce hf) 40] [.li 70 [mcA m]] (rsX (msB (seedB m.x.p.zone.data.toList) m.nonce ft (halfB m)) 36864)
      [.li 70 [mcA (begun (forgot (drawn m)) ⟨1,true,false,false,0⟩ (keyB (seX (halfB m) hf) 1) (keyB (seX (halfB m) hf) 2) (ctrN m.nonce ft))]]:=by
  have hs:=sgXt_ok m ft hf;have hm:=eq_true (TrC_mc h);have hd:MOK (drawn m):=h;have hmd:=eq_true (TrC_mc hd);have hr:List.take 16 (drwB m.x.seed)=halfB m:=rfl;have hl:(halfB m).length=16:=by unfold halfB;rw [List.length_take,drwB_len];rfl
  have hsl:=seedB_len m.x.p.zone.data.toList;have hml:(msB (seedB m.x.p.zone.data.toList) ft m.nonce hf).length=40:=msB_len hft hn hhf;unfold cmX;refine fo Tryz.func149 85 fun X hX=>?_;refine up 3 ?_;refine rK hs fun K hK=>?_;simp only [go_sem,sgXt]
  refine eK ?_;refine up 1 ?_;refine rK hs fun K hK=>?_;simp only [go_sem,mcA,chpL,perL,i0,List.cons_append,List.nil_append,hsec]
  refine eK ?_;refine up 1 ?_;refine rK hs fun K hK=>?_;simp only [go_sem,mcA,chpL,perL,i0,List.cons_append,List.nil_append,hbas,hz,hn]
  refine eK ?_;refine up 1 ?_;refine rK hs fun K hK=>?_;simp only [go_sem,hml]
  refine eK ?_;refine up 2 ?_
  refine WA.sb 0 (xs':=[mcA m]) rfl ?hw ?_
  case hw =>
    refine ⟨?_,rfl⟩;simp only [mcA,chpL,perL,i0,AV.cl,List.cons_append,List.nil_append,hbas,hsec];repeat first | exact rfl | refine ⟨Wk.by_,?_⟩ | refine ⟨Wk.rfl_ _,?_⟩
  have hm2:=hm;have hmd2:=hmd;simp only [mcA,chpL,perL,i0,List.cons_append,List.nil_append] at hm2 hmd2;have hdn:(drawn m).nonce=m.nonce:=rfl;have hsl2:m.x.p.zone.data.toList.length≤1000000:=by omega
  refine WA.drawnA mixed_ ty_ok hs (tbl:=[[],[0],[0,1],[0,1,2],[0,1,2,3],[0,1,2,3,4],[0,1,2,3,4,5],[],[7],[7,8],[7,8,9],[],[0,1,2,3,4,5,6,11],[],[13],[0,1,2,3,4,5,6,7,8,9,10,11,12,13,14],[0,1,2,3,4,5,6,7,8,9,10,11,12,13,14,15],[0,1,2,3,4,5,6,7,8,9,10,11,12,13,14,15,16],[0,1,2,3,4,5,6,7,8,9,10,11,12,13,14,15,16],[0,1,2,3,4,5,6,7,8,9,10,11,12,13,14,15,16],[],[0,1,2,3,4,5,6,7,8,9,10,11,12,13,14,15,16,17,20],[0,1,2,3,4,5,6,7,8,9,10,11,12,13,14,15,16,17,18,20,21],[0,1,2,3,4,5,6,7,8,9,10,11,12,13,14,15,16,17,18,19,20,21,22]]) (nb:=[5,6,10,12,14,15,22]) (hk:=[[],[],[],[],[],[],[],[],[],[],[0],[],[],[],[0],[],[],[],[],[],[],[],[],[]]) (al:=[⟨10,12,0,⟨.li 70 [mcA m],0,true⟩,⟨.li 70 [mcA (drawn m)],0,true⟩⟩]) (by kernel_rfl) fun K hK=>?_;simp only [go_sem,mcA,chpL,perL,i0,List.cons_append,List.nil_append,sgXt,hm2,hmd2,h,h1,hl,hr,hsl,hsl2,hn,hdn,hft,hhf,hml]
  refine eK ?_;refine WA.sb 0 (xs':=[mcA (drawn m)]) rfl ?hw ?_
  case hw =>
    refine ⟨?_,rfl⟩;simp only [mcA,chpL,perL,i0,AV.cl,List.cons_append,List.nil_append,drawn];repeat first | exact rfl | refine ⟨Wk.by_,?_⟩ | refine ⟨Wk.rfl_ _,?_⟩
  clear hs;have hs:=sgXu_ok (drawn m);have hf2:MOK (forgot (drawn m)):=h;have hmf:=eq_true (TrC_mc hf2);refine rK hs fun K hK=>?_;simp only [go_sem,sgXu,hmd,hmf,hd,hf2]
  refine eK ?_;refine up 4 ?_
  have hb2:MOK (begun (forgot (drawn m)) ⟨1,true,false,false,0⟩ (keyB (seX (halfB m) hf) 1) (keyB (seX (halfB m) hf) 2) (ctrN m.nonce ft)):=h;have hmb:=eq_true (TrC_mc hb2);refine rK hs fun K hK=>?_;simp only [go_sem,sgXu,hmd,hmf,hmb,hd,hf2]
  refine eK ?_;refine up 1 ?_;refine rE [rsX (msB (seedB m.x.p.zone.data.toList) m.nonce ft (halfB m)) 36864] [.li 70 [mcA (begun (forgot (drawn m)) ⟨1,true,false,false,0⟩ (keyB (seX (halfB m) hf) 1) (keyB (seX (halfB m) hf) 2) (ctrN m.nonce ft))]] [.cell 4 65] ?_;simp only [go_sem,sbT,rsX,hmb]
end
def sgFl:Sg:=fun f args ls =>
  match f,args,ls with
  | 183,[.agg [.li e1 xs,.li e2 ys],.by_ n],[]=>some (.tup [.agg [.lit (.int .i64 (Fil.namA n (xs.map Fil.unF) (ys.map Fil.unP))),.lit (.int .i64 (Fil.namF n (xs.map Fil.unF) (ys.map Fil.unP)))],.lit (.int .i64 (Fil.namE n (xs.map Fil.unF) (ys.map Fil.unP)))],[],e1=5∧e2=2∧xs=(xs.map Fil.unF).map Fil.flA∧ys=(ys.map Fil.unP).map Fil.apA)
  | 186,[.agg [.li e1 xs,.li e2 ys],.agg [.lit (.int .i64 a),.lit (.int .i64 f)],.lit (.int .i64 z)],[]=>some (.tup [.agg [.lit (.int .i64 (Fil.fndA (Fil.shortF z) (xs.map Fil.unF) (ys.map Fil.unP) a f)),.lit (.int .i64 (Fil.fndF (Fil.shortF z) (xs.map Fil.unF) (ys.map Fil.unP) a f))],.lit (.int .i64 (Fil.fndE (Fil.shortF z) (xs.map Fil.unF) (ys.map Fil.unP) a f))],[],e1=5∧e2=2∧xs=(xs.map Fil.unF).map Fil.flA∧ys=(ys.map Fil.unP).map Fil.apA)
  | 187,[.agg [.li e1 xs,.li e2 ys],.agg [.lit (.int .i64 a),.lit (.int .i64 f)]],[]=>some (.tup [.agg [.lit (.int .i64 (Fil.selF (xs.map Fil.unF) (ys.map Fil.unP) a f).level),.lit (.int .i64 (Fil.selF (xs.map Fil.unF) (ys.map Fil.unP) a f).right)],.lit (.int .i64 (Fil.selE (xs.map Fil.unF) (ys.map Fil.unP) a f))],[],e1=5∧e2=2∧xs=(xs.map Fil.unF).map Fil.flA∧ys=(ys.map Fil.unP).map Fil.apA)
  | 188,[.agg [.lit (.int .i64 l),.lit (.int .i64 r)],.agg [.lit (.int .i64 p),.lit (.bool b1),.lit (.bool b2),.lit (.bool b3),.lit (.int .i64 q)]],[]=>some (.lit (.bool (Fil.alw l r ⟨p,b1,b2,b3,q⟩)),[],True)
  | 189,[.agg [.li e1 xs,.li e2 ys],.agg [.lit (.int .i64 a),.lit (.int .i64 f)],.agg [.lit (.int .i64 p),.lit (.bool b1),.lit (.bool b2),.lit (.bool b3),.lit (.int .i64 q)],.lit (.int .i64 o),.lit (.int .i64 n)],[]=>some (.tup [.by_ (Fil.rdB (xs.map Fil.unF) (ys.map Fil.unP) a f ⟨p,b1,b2,b3,q⟩ o n),.lit (.bool (Fil.rdN (xs.map Fil.unF) (ys.map Fil.unP) a f ⟨p,b1,b2,b3,q⟩ o n)),.lit (.int .i64 (Fil.rdE (xs.map Fil.unF) (ys.map Fil.unP) a f ⟨p,b1,b2,b3,q⟩ o n))],[],e1=5∧e2=2∧xs=(xs.map Fil.unF).map Fil.flA∧ys=(ys.map Fil.unP).map Fil.apA)
  | 59,[.lit (.int .i64 n)],[]=>some (.agg [.by_ [],.lit (.int .i64 n)],[],True)
  | _,_,_=>none
theorem sgFl_ok:SgOK Tryz.prog sgFl:=by
  intro f args ls r ls' vc h hvc;unfold sgFl at h;split at h <;> cases h
  · rename_i e1 xs e2 ys n;obtain ⟨rfl,rfl,h1,h2⟩:=hvc;refine ⟨(fnOK Tryz.func183 (by decide) rfl),?_⟩;have:=Fil.name_s (xs.map Fil.unF) (ys.map Fil.unP) n;rw [← h1,← h2] at this;exact this
  · rename_i e1 xs e2 ys a f z;obtain ⟨rfl,rfl,h1,h2⟩:=hvc;refine ⟨(fnOK Tryz.func186 (by decide) rfl),?_⟩;have:=Fil.short_s (xs.map Fil.unF) (ys.map Fil.unP) a f z;rw [← h1,← h2] at this;exact this
  · rename_i e1 xs e2 ys a f;obtain ⟨rfl,rfl,h1,h2⟩:=hvc;refine ⟨(fnOK Tryz.func187 (by decide) rfl),?_⟩;have:=Fil.access_s (xs.map Fil.unF) (ys.map Fil.unP) a f;rw [← h1,← h2] at this;exact this
  · exact ⟨(fnOK Tryz.func188 (by decide) rfl),Fil.allowed_s _ _ ⟨_,_,_,_,_⟩⟩
  · rename_i e1 xs e2 ys a f p b1 b2 b3 q o n;obtain ⟨rfl,rfl,h1,h2⟩:=hvc;refine ⟨(fnOK Tryz.func189 (by decide) rfl),?_⟩;have:=Fil.read_s (xs.map Fil.unF) (ys.map Fil.unP) a f ⟨p,b1,b2,b3,q⟩ o n;rw [← h1,← h2] at this;exact this
  · exact ⟨(fnOK Tryz.func59 (by decide) rfl),status_c _⟩
def placed (m:Mc) (a f:Int):Mc:={ m with x:={ m.x with app:=a,file:=f } }
def namS (m:Mc) (d:List UInt8):Mc:=placed m (Fil.namA d m.x.p.root m.x.p.apps) (Fil.namF d m.x.p.root m.x.p.apps)
theorem selects_c (m:Mc) (a b x:Int) (d:List UInt8) (h:MOK m) (hE:Fil.namE d m.x.p.root m.x.p.apps=0):FnS Tryz.prog 146 [.ptr 0 0 0,cmX a b 4 12 d x] [.li 70 [mcA m]] (rsX [] 36864) [.li 70 [mcA (namS m d)]]:=by
  have hs:=sgFl_ok;have hm:=eq_true (TrC_mc h);have h':MOK (namS m d):=h;have hm':=eq_true (TrC_mc h');unfold cmX;refine fo Tryz.func146 84 fun X hX=>?_;refine up 11 ?_;refine WA.drawn2 mixed_ ty_ok hs (tbl:=[[],[0],[0,1],[0,1,2],[0,1,2,3],[0,1,2,3,4],[],[6],[0,1,2,3,4,5,6,7],[0,1,2,3,4,5,6,7,8],[0,1,2,3,4,5,6,7,8,9],[0,1,2,3,4,5,6,7,8,9],[0,1,2,3,4,5,6,7,8,9,10],[0,1,2,3,4,5,6,7,8,9,10,11,12]]) (nb:=[5,7,8,12]) (hk:=[[],[],[],[],[],[],[],[],[],[],[],[],[],[]]) (by kernel_rfl) fun K hK=>?_;simp only [go_sem,sgFl,mcA,chpL,perL,i0,List.cons_append,List.nil_append,hE,Fil.un_fls,Fil.un_aps,Fil.Tr_fls,Fil.Tr_aps];with_reducible refine hK _ (WN.mk ?_)
  clear hK K;with_reducible repeat first | refine WN.t ?_ | refine WN.b ?_
  refine up 5 ?_;refine WA.sb 0 (xs':=[mcA (namS m d)]) rfl ?hw ?_
  case hw =>
    refine ⟨?_,rfl⟩;simp only [mcA,chpL,perL,i0,AV.cl,List.cons_append,List.nil_append,namS,placed];repeat first | exact rfl | refine ⟨Wk.by_,?_⟩ | refine ⟨Wk.rfl_ _,?_⟩
  refine rK hs fun K hK=>?_;simp only [go_sem,sgFl]
  refine eK ?_;refine rE [rsX [] 36864] [.li 70 [mcA (namS m d)]] [.cell 4 65] ?_;simp only [go_sem,sbT,rsX,hm']
theorem allowed_c (m:Mc) (a f:Int) (h:MOK m) (hE:Fil.selE m.x.p.root m.x.p.apps a f=0) (hA:Fil.alw (Fil.selF m.x.p.root m.x.p.apps a f).level (Fil.selF m.x.p.root m.x.p.apps a f).right ⟨m.x.st.pw,m.x.st.b1,m.x.st.chip,m.x.st.term,m.x.st.rights⟩=true) :
    FnS Tryz.prog 185 [.ptr 0 0 0,.agg [.lit (.int .i64 a),.lit (.int .i64 f)]] [.li 70 [mcA m]] (.lit (.bool true)) [.li 70 [mcA m]]:=by
  have hs:=sgFl_ok;have hm:=eq_true (TrC_mc h);refine fo Tryz.func185 29 fun X hX=>?_;refine up 1 ?_;refine WA.drawnH mixed_ ty_ok hs (tbl:=[[],[0],[0,1],[0,1,2],[0,1,2,3],[0,1,2,3,4],[],[0,1,2,3,4,5,6],[0,1,2,3,4,5,6,7],[0,1,2,3,4,5,6,7,8],[0,1,2,3,4,5,6,7,8],[],[0,1,2,3,4,5,6,7,8,9,11],[0,1,2,3,4,5,6,7,8,9,10,11,12]]) (nb:=[5,6,7,12]) (hk:=[[],[],[],[],[],[],[],[],[],[],[],[],[],[]]) (by kernel_rfl) fun K hK=>?_;simp only [go_sem,sgFl,mcA,chpL,perL,i0,List.cons_append,List.nil_append,hE,Fil.un_fls,Fil.un_aps,Fil.Tr_fls,Fil.Tr_aps]
  refine eK ?_;refine WA.drawnH mixed_ ty_ok hs (tbl:=[[],[0],[0,1],[0,1,2],[0,1,2],[0,1,2,4],[0,1,2,4,5],[0,1,2,4,5,6],[0,1,2,4,5,6,7],[0,1,2,3,4,5,6,7,8],[0,1,2,3,4,5,6,7,8,9],[0,1,2,3,4,5,6,7,8,9,10]]) (nb:=[3,8,9]) (hk:=[[],[],[],[],[],[],[],[],[],[],[],[]]) (by kernel_rfl) fun K hK=>?_;simp only [go_sem,sgFl,hA]
  refine eK ?_;refine WA.sb 0 (xs':=[mcA m]) rfl ?hw ?_
  case hw =>
    refine ⟨?_,rfl⟩;simp only [mcA,chpL,perL,i0,AV.cl,List.cons_append,List.nil_append,true_and];repeat first | exact rfl | refine ⟨Wk.by_,?_⟩ | refine ⟨Wk.rfl_ _,?_⟩
  refine rE [.lit (.bool true)] [.li 70 [mcA m]] [.tmp 4] ?_;simp only [go_sem,sbT,hm]
def shA (m:Mc) (z:Int):Int:=Fil.fndA (Fil.shortF z) m.x.p.root m.x.p.apps m.x.app m.x.file
def shF (m:Mc) (z:Int):Int:=Fil.fndF (Fil.shortF z) m.x.p.root m.x.p.apps m.x.app m.x.file
def shS (m:Mc) (z:Int):Mc:=placed m (shA m z) (shF m z)
def shD (m:Mc) (z n:Int):List UInt8:=Fil.rdB m.x.p.root m.x.p.apps (shA m z) (shF m z) ⟨m.x.st.pw,m.x.st.b1,m.x.st.chip,m.x.st.term,m.x.st.rights⟩ 0 n
def sgRb (m:Mc):Sg:=fun f args ls =>
  match f,args,ls with
  | 185,[.ptr 0 0 0,.agg [.lit (.int .i64 a),.lit (.int .i64 f)]],[.li 70 [x]]=>some (.lit (.bool true),[.li 70 [mcA m]],x=mcA m∧MOK m∧Fil.selE m.x.p.root m.x.p.apps a f=0∧Fil.alw (Fil.selF m.x.p.root m.x.p.apps a f).level (Fil.selF m.x.p.root m.x.p.apps a f).right ⟨m.x.st.pw,m.x.st.b1,m.x.st.chip,m.x.st.term,m.x.st.rights⟩=true)
  | _,_,_=>none
theorem sgRb_ok (m:Mc):SgOK Tryz.prog (sgRb m):=by
  intro f args ls r ls' vc h hvc;unfold sgRb at h;split at h <;> cases h
  obtain ⟨rfl,h1,h2,h3⟩:=hvc;exact ⟨(fnOK Tryz.func185 (by decide) rfl),allowed_c m _ _ h1 h2 h3⟩
theorem read_c (m:Mc) (a b:Int) (h:MOK m) (hE:Fil.fndE (Fil.shortF 1) m.x.p.root m.x.p.apps m.x.app m.x.file=0) (hS:Fil.selE m.x.p.root m.x.p.apps (shA m 1) (shF m 1)=0) (hA:Fil.alw (Fil.selF m.x.p.root m.x.p.apps (shA m 1) (shF m 1)).level (Fil.selF m.x.p.root m.x.p.apps (shA m 1) (shF m 1)).right ⟨m.x.st.pw,m.x.st.b1,m.x.st.chip,m.x.st.term,m.x.st.rights⟩=true)
    (hR:Fil.rdE m.x.p.root m.x.p.apps (shA m 1) (shF m 1) ⟨m.x.st.pw,m.x.st.b1,m.x.st.chip,m.x.st.term,m.x.st.rights⟩ 0 256=0) (hl:(shD m 1 256).length<256) :
    FnS Tryz.prog 147 [.ptr 0 0 0,cmX a b 129 0 [] 256] [.li 70 [mcA m]] (rsX (shD m 1 256) 25218) [.li 70 [mcA (shS m 1)]]:=by
  have hs:=sgFl_ok;have hm:=eq_true (TrC_mc h);have h':MOK (shS m 1):=h;have hm':=eq_true (TrC_mc h');have g1:bits .and .i64 129 224=128:=by decide
  have g2:bits .and .i64 129 31=1:=by decide
  have hfa:Fil.fndA (Fil.shortF 1) m.x.p.root m.x.p.apps m.x.app m.x.file=shA m 1:=rfl;have hff:Fil.fndF (Fil.shortF 1) m.x.p.root m.x.p.apps m.x.app m.x.file=shF m 1:=rfl;have hrd:Fil.rdB m.x.p.root m.x.p.apps (shA m 1) (shF m 1) ⟨m.x.st.pw,m.x.st.b1,m.x.st.chip,m.x.st.term,m.x.st.rights⟩ 0 256=shD m 1 256:=rfl;unfold cmX;refine fo Tryz.func147 142 fun X hX=>?_;refine up 8 ?_;refine rK hs fun K hK=>?_;simp only [go_sem,g1]
  refine eK ?_;refine up 1 ?_;refine WA.drawnH mixed_ ty_ok hs (tbl:=[[],[0],[0,1],[0,1,2],[0,1,2,3],[0,1,2,3,4],[],[6],[6,7],[6,7,8],[6,7,8,9],[],[11],[11,12],[0,1,2,3,4,5,6,7,8,9,10,11,12,13],[0,1,2,3,4,5,6,7,8,9,10,11,12,13,14],[0,1,2,3,4,5,6,7,8,9,10,11,12,13,14,15],[0,1,2,3,4,5,6,7,8,9,10,11,12,13,14,15],[],[0,1,2,3,4,5,6,7,8,9,10,11,12,13,14,15,16,18],[0,1,2,3,4,5,6,7,8,9,10,11,12,13,14,15,16,17,18,19]]) (nb:=[5,10,12,14,19]) (hk:=[[],[],[],[],[],[],[],[],[],[],[],[],[],[],[],[],[],[],[],[],[]]) (by kernel_rfl) fun K hK=>?_;simp only [go_sem,sgFl,mcA,chpL,perL,i0,List.cons_append,List.nil_append,hE,g2,hfa,hff,Fil.un_fls,Fil.un_aps,Fil.Tr_fls,Fil.Tr_aps]
  refine eK ?_;refine WA.sb 0 (xs':=[mcA m]) rfl ?hw ?_
  case hw =>
    refine ⟨?_,rfl⟩;simp only [mcA,chpL,perL,i0,AV.cl,List.cons_append,List.nil_append,true_and];repeat first | exact rfl | refine ⟨Wk.by_,?_⟩ | refine ⟨Wk.rfl_ _,?_⟩
  refine up 1 ?_;refine (fun (hs:SgOK Tryz.prog (sgRb m))=>?_) (sgRb_ok m);have z0:((0:Int) != 0)=false:=by decide
  refine rK hs fun K hK=>?_;simp only [go_sem,sgRb,hm,h,hS,hA,z0,Bool.not_false]
  refine eK ?_;refine up 1 ?_;clear hs;have hs:=sgFl_ok;refine up 1 ?_
  refine WA.regionE ty_ok hs fun K hK=>?_;simp only [go_sem,mcA,chpL,perL,i0,List.cons_append,List.nil_append]
  refine eN ?_
  refine WA.sb 0 (xs':=[mcA (shS m 1)]) rfl ?hw ?_
  case hw =>
    refine ⟨?_,rfl⟩;simp only [mcA,chpL,perL,i0,AV.cl,List.cons_append,List.nil_append,shS,placed];repeat first | exact rfl | refine ⟨Wk.by_,?_⟩ | refine ⟨Wk.rfl_ _,?_⟩
  refine up 1 ?_;refine WA.drawnH mixed_ ty_ok hs (tbl:=[[],[0],[0,1],[0,1,2],[0,1,2,3],[0,1,2,3,4],[],[6],[6,7],[6,7,8],[6,7,8,9],[],[11],[11,12],[11,12,13],[11,12,13,14],[],[],[0,1,2,3,4,5,6,7,8,9,10,11,12,13,14,15,16,17],[0,1,2,3,4,5,6,7,8,9,10,11,12,13,14,15,16,17,18],[0,1,2,3,4,5,6,7,8,9,10,11,12,13,14,15,16,17,18,19],[0,1,2,3,4,5,6,7,8,9,10,11,12,13,14,15,16,17,18,19],[0,1,2,3,4,5,6,7,8,9,10,11,12,13,14,15,16,17,18,19],[0,1,2,3,4,5,6,7,8,9,10,11,12,13,14,15,16,17,18,19,20],[0,1,2,3,4,5,6,7,8,9,10,11,12,13,14,15,16,17,18,19,20,21,23],[0,1,2,3,4,5,6,7,8,9,10,11,12,13,14,15,16,17,18,19,20,21,22,23,24]]) (nb:=[5,10,15,18]) (hk:=[[],[],[],[],[],[],[],[],[],[],[],[],[],[],[],[],[],[],[],[],[],[],[],[],[],[]]) (by kernel_rfl) fun K hK=>?_;simp only [go_sem,sgFl,mcA,chpL,perL,i0,List.cons_append,List.nil_append,shS,placed,hR,hrd,Fil.un_fls,Fil.un_aps,Fil.Tr_fls,Fil.Tr_aps]
  refine eK ?_;refine WA.sb 0 (xs':=[mcA (shS m 1)]) rfl ?hw ?_
  case hw =>
    refine ⟨?_,rfl⟩;simp only [mcA,chpL,perL,i0,AV.cl,List.cons_append,List.nil_append,shS,placed];repeat first | exact rfl | refine ⟨Wk.by_,?_⟩ | refine ⟨Wk.rfl_ _,?_⟩
  refine up 5 ?_;refine WA.cond rfl (fun hh=>?_) (fun hh=>absurd (of_decide_eq_false hh) (by omega));refine up 1 ?_;refine rE [rsX (shD m 1 256) 25218] [.li 70 [mcA (shS m 1)]] [.cell 4 65] ?_;simp only [go_sem,sbT,rsX,hm']
end Go.Proofs.YtjjkfpbkmhfckaaGreatDoor
namespace Go.Proofs.YtjjkfpbkmhfckaaGreatDoor.Fil
open Go.RowKit Go.TravelBase Go.TravelAbs
def sgN:Sg:=fun f args ls =>
  match f,args,ls with
  | 19,[.ptr 0 0 0,.lit (.int .i64 n)],[.li 2 [.agg [L,.lit (.int .i64 z)]]]=>some (.lit (.int .i64 (nxI L z n)),[.li 2 [.agg [L,.lit (.int .i64 (nxZ L z))]]],DcOK L z∧1≤n∧n≤4611686018427387904)
  | 20,[.ptr 0 0 0,.lit (.int .i64 n)],[.li 2 [.agg [L,.lit (.int .i64 z)]]]=>some (.lit (.bool (nxI L z n == n-1)),[.li 2 [.agg [L,.lit (.int .i64 (nxZ L z))]]],DcOK L z∧1≤n∧n≤4611686018427387904)
  | _,_,_=>none
theorem sgN_ok:SgOK Tryz.prog sgN:=by
  intro f args ls r ls' vc h hvc;unfold sgN at h;split at h <;> cases h
  · exact ⟨(fnOK Tryz.func19 (by decide) rfl),next_s _ _ _ hvc.1 hvc.2.1 hvc.2.2⟩
  · exact ⟨(fnOK Tryz.func20 (by decide) rfl),one_s _ _ _ hvc.1 hvc.2.1 hvc.2.2⟩
def dAr (L:AV) (z:Int):Int:=if nxI L z 5=3 then nxI L (nxZ L z) 16 else 0
def dAz (L:AV) (z:Int):Int:=if nxI L z 5=3 then nxZ L (nxZ L z) else nxZ L z
theorem dc_Az {L:AV} {z:Int} (h:DcOK L z):DcOK L (dAz L z):=by
  unfold dAz;split
  · exact dc_nx (dc_nx h)
  · exact dc_nx h
theorem daccess_s (L:AV) (z:Int) (hd:DcOK L z):FnS Tryz.prog 69 [.ptr 0 0 0] [.li 2 [.agg [L,.lit (.int .i64 z)]]] (.agg [.lit (.int .i64 (nxI L z 5)),.lit (.int .i64 (dAr L z))]) [.li 2 [.agg [L,.lit (.int .i64 (dAz L z))]]]:=by
  have hs:=sgN_ok;have hT:=hd.tr;have hd1:=dc_nx hd;refine fo Tryz.func69 14 fun X hX=>?_;refine up 1 ?_;refine rK hs fun K hK=>?_;simp only [go_sem,sgN,hd,hT]
  refine eK ?_;refine up 2 ?_;refine WA.cond rfl (fun h=>?_) (fun h=>?_)
  ·
    have h1:nxI L z 5=3:=by simpa using h
    have e1:dAr L z=nxI L (nxZ L z) 16:=if_pos h1;have e2:dAz L z=nxZ L (nxZ L z):=if_pos h1;refine WA.regionE ty_ok hs fun K hK=>?_;simp only [go_sem,sgN,hd1,hT];with_reducible refine hK _ (WN.mk ?_)
    clear hK K;with_reducible repeat first | refine WN.t ?_ | refine WN.b ?_
    refine up 1 ?_;refine rE [.agg [.lit (.int .i64 (nxI L z 5)),.lit (.int .i64 (dAr L z))]] [.li 2 [.agg [L,.lit (.int .i64 (dAz L z))]]] [.cell 2 78] ?_;simp only [go_sem,sbT,hT,e1,e2]
  ·
    refine up 1 ?_
    have h1:¬ nxI L z 5=3:=by simpa using h
    have e1:dAr L z=0:=if_neg h1;have e2:dAz L z=nxZ L z:=if_neg h1;refine up 1 ?_;refine rE [.agg [.lit (.int .i64 (nxI L z 5)),.lit (.int .i64 (dAr L z))]] [.li 2 [.agg [L,.lit (.int .i64 (dAz L z))]]] [.cell 2 78] ?_;simp only [go_sem,sbT,hT,e1,e2]
def sgDF:Sg:=fun f args ls =>
  match f,args,ls with
  | 19,[.ptr 0 0 0,.lit (.int .i64 n)],[.li 2 [.agg [L,.lit (.int .i64 z)]]]=>some (.lit (.int .i64 (nxI L z n)),[.li 2 [.agg [L,.lit (.int .i64 (nxZ L z))]]],DcOK L z∧1≤n∧n≤4611686018427387904)
  | 20,[.ptr 0 0 0,.lit (.int .i64 n)],[.li 2 [.agg [L,.lit (.int .i64 z)]]]=>some (.lit (.bool (nxI L z n == n-1)),[.li 2 [.agg [L,.lit (.int .i64 (nxZ L z))]]],DcOK L z∧1≤n∧n≤4611686018427387904)
  | 18,[.ptr 0 0 0,.lit (.int .i64 most)],[.li 2 [.agg [L,.lit (.int .i64 z)]]]=>some (.fr (.by_ (dyB L z most)),[.li 2 [.agg [L,.lit (.int .i64 (dyZ L z most))]]],DcOK L z∧0≤most∧most≤1000000)
  | 69,[.ptr 0 0 0],[.li 2 [.agg [L,.lit (.int .i64 z)]]]=>some (.agg [.lit (.int .i64 (nxI L z 5)),.lit (.int .i64 (dAr L z))],[.li 2 [.agg [L,.lit (.int .i64 (dAz L z))]]],DcOK L z)
  | _,_,_=>none
theorem sgDF_ok:SgOK Tryz.prog sgDF:=by
  intro f args ls r ls' vc h hvc;unfold sgDF at h;split at h <;> cases h
  · exact ⟨(fnOK Tryz.func19 (by decide) rfl),next_s _ _ _ hvc.1 hvc.2.1 hvc.2.2⟩
  · exact ⟨(fnOK Tryz.func20 (by decide) rfl),one_s _ _ _ hvc.1 hvc.2.1 hvc.2.2⟩
  · exact ⟨(fnOK Tryz.func18 (by decide) rfl),bytes_s _ _ _ hvc.1 hvc.2.1 hvc.2.2⟩
  · exact ⟨(fnOK Tryz.func69 (by decide) rfl),daccess_s _ _ hvc⟩
theorem TrC_fls (l:List Fl):TrC (.li 5 (l.map flA))=True:=eq_true (TrC.li fun x hx y hy=>by
  obtain ⟨f,_,rfl⟩:=List.mem_map.1 hx;simp only [flA,AV.cl,List.mem_cons,List.not_mem_nil,or_false] at hy;rcases hy with rfl | rfl | rfl | rfl | rfl <;> first | exact Tr.lit _ | exact Tr.by_ _)
def fl1 (L:AV) (k:Nat) (z:Int):Fl:=⟨256+k,bif nxI L (dAz L (dyZ L z 60)) 2 == 2-1 then 1+k else 0,dyB L z 60,nxI L (dyZ L z 60) 5,dAr L (dyZ L z 60)⟩
def fl1Z (L:AV) (z:Int):Int:=nxZ L (dAz L (dyZ L z 60))
def flsD (L:AV):Nat→Nat→Int→List Fl
  | 0,_,_=>[]
  | n+1,k,z=>fl1 L k z::flsD L n (k+1) (fl1Z L z)
def flsZ (L:AV):Nat→Int→Int
  | 0,z=>z
  | n+1,z=>flsZ L n (fl1Z L z)
def dfl (L:AV) (z:Int):List Fl:=flsD L (nxI L z 5).toNat 0 (nxZ L z)
def dflZ (L:AV) (z:Int):Int:=flsZ L (nxI L z 5).toNat (nxZ L z)
theorem flsD_len (L:AV):∀ (n k:Nat) (z:Int),(flsD L n k z).length=n
  | 0,_,_=>rfl
  | n+1,k,z=>by rw [flsD,List.length_cons,flsD_len L n]
theorem dfl_len (L:AV) (z:Int):(dfl L z).length≤4:=by
  have:=nx_rng L z 5 (by omega);rw [dfl,flsD_len];omega
theorem dc_fls {L:AV}:∀ (n:Nat) {z:Int},DcOK L z→DcOK L (flsZ L n z)
  | 0,_,h=>h
  | n+1,_,h=>dc_fls n (dc_nx (dc_Az (dc_dy h)))
theorem dc_dfl {L:AV} {z:Int} (h:DcOK L z):DcOK L (dflZ L z):=dc_fls _ (dc_nx h)
theorem dfiles_s (L:AV) (z:Int) (hd:DcOK L z):FnS Tryz.prog 39 [.ptr 0 0 0] [.li 2 [.agg [L,.lit (.int .i64 z)]]] (.fr (.li 5 ((dfl L z).map flA))) [.li 2 [.agg [L,.lit (.int .i64 (dflZ L z))]]]:=by
  have hs:=sgDF_ok;have hT:=hd.tr;have hr:=nx_rng L z 5 (by omega);obtain ⟨a,ha⟩:=Int.eq_ofNat_of_zero_le hr.1;rw [ha] at hr;have hd0:=dc_nx hd;have eB:dfl L z=flsD L a 0 (nxZ L z):=by rw [dfl,ha];rfl
  have eZ:dflZ L z=flsZ L a (nxZ L z):=by rw [dflZ,ha];rfl
  rw [eB,eZ];obtain ⟨b,hb⟩:∃ b,nxZ L z=b:=⟨_,rfl⟩;rw [hb] at hd0 ⊢;refine fo Tryz.func39 32 fun X hX=>?_;refine up 2 ?_;refine WA.own0 3 (.li 5 []) rfl rfl ?_;refine up 1 ?_;refine rK hs fun K hK=>?_;simp only [go_sem,sgDF,hd,hT,ha,hb]
  refine eK ?_;refine up 1 ?_;refine WA.loopW hX (fun k=>if k=3000 then 2016 else k) ((fun (i:List Fl × Nat × Int)=>⟨[(0,.ptr 0 0 0),(3,.sl 3000 5 0 i.1.length),(4,.lit (.int .i64 (i.2.1:Nat)))],[(3000,⟨.li 5 (i.1.map flA),0,false⟩),(0,⟨.li 2 [.agg [L,.lit (.int .i64 i.2.2)]],0,true⟩)],4000,32⟩:_→St)) (fun i=>i.2.1) (fun i=>(i.1++flsD L i.2.1 i.1.length i.2.2=flsD L a 0 b∧flsZ L i.2.1 i.2.2=flsZ L a b)∧i.1.length+i.2.1=a∧DcOK L i.2.2) (i0:=([],a,b)) (⟨⟨rfl,rfl⟩,by simp,hd0⟩) (by simp only [go_sem,Int.natCast_add,hT] <;> (try and_intros) <;> (try omega)) fun ⟨l,n,z⟩ hi=>?_
  simp only at hi
  obtain ⟨⟨hi1,hi2⟩,hi,hd2⟩:=hi;refine up 2 ?_;refine WA.cond rfl (fun h=>?_) (fun h=>?_)
  ·
    refine up 1 ?_
    have h6:0<n:=by have:=of_decide_eq_true h;omega
    clear h;have u1:flsD L n l.length z=fl1 L l.length z::flsD L (n-1) (l.length+1) (fl1Z L z):=by
      obtain ⟨m,rfl⟩:∃ m,n=m+1:=⟨n-1,by omega⟩;rfl
    have u2:flsZ L n z=flsZ L (n-1) (fl1Z L z):=by
      obtain ⟨m,rfl⟩:∃ m,n=m+1:=⟨n-1,by omega⟩;rfl
    have hd3:DcOK L (dyZ L z 60):=dc_dy hd2;have hd4:=dc_Az hd3;have hd5:=dc_nx hd4;have hl60:=dyB_len L z 60 (by omega);have hc:((l++[fl1 L l.length z])++flsD L (n-1) (l++[fl1 L l.length z]).length (fl1Z L z)=flsD L a 0 b∧flsZ L (n-1) (fl1Z L z)=flsZ L a b)∧(l++[fl1 L l.length z]).length+(n-1)=a∧DcOK L (fl1Z L z):=by
      refine ⟨⟨by rw [← hi1,u1];simp,by rw [← hi2,u2]⟩,by simp;omega,hd5⟩
    have t9:=TrC_fls (l++[fl1 L l.length z]);refine up 3 ?_;refine rK hs fun K hK=>?_;simp only [go_sem,sgDF,hd2,hd3,hT]
    refine eK ?_;refine WA.norm 4096 fun K hK=>?_;simp only [go_sem,true_and]
    refine eK ?_;refine up 1 ?_;refine rK hs fun K hK=>?_;simp only [go_sem,sgDF,hd4,hT]
    refine eK ?_;refine WA.cond rfl (fun h=>?_) (fun h=>?_)
    ·
      have e1:fl1 L l.length z=⟨256+l.length,1+l.length,dyB L z 60,nxI L (dyZ L z 60) 5,dAr L (dyZ L z 60)⟩:=by
        have h:(nxI L (dAz L (dyZ L z 60)) 2 == 2-1)=true:=h;unfold fl1;rw [h];rfl
      refine up 2 ?_
      refine WA.regionE ty_ok hs fun K hK=>?_;simp only [go_sem,true_and]
      (repeat refine sdA ?_);simp only [List.map_append,List.map_cons,List.map_nil,flA,e1] at t9;refine hK _ (roundE hX (fun k=>if k=3000 then 4184 else k) (j:=(l++[fl1 L l.length z],n-1,fl1Z L z)) (hc) (by first | omega | (dsimp only;omega) | (simp;omega)) (by simp only [go_sem,Int.natCast_add,hT,List.map_append,List.map_cons,List.map_nil,List.length_append,List.length_cons,List.length_nil,flA,t9,e1,fl1Z] <;> (try and_intros) <;> (try omega)))
    ·
      have e1:fl1 L l.length z=⟨256+l.length,0,dyB L z 60,nxI L (dyZ L z 60) 5,dAr L (dyZ L z 60)⟩:=by
        have h:(nxI L (dAz L (dyZ L z 60)) 2 == 2-1)=false:=h;unfold fl1;rw [h];rfl
      refine up 2 ?_
      refine WA.regionE ty_ok hs fun K hK=>?_;simp only [go_sem,true_and]
      (repeat refine sdA ?_);simp only [List.map_append,List.map_cons,List.map_nil,flA,e1] at t9;refine hK _ (roundE hX (fun k=>if k=3000 then 4152 else k) (j:=(l++[fl1 L l.length z],n-1,fl1Z L z)) (hc) (by first | omega | (dsimp only;omega) | (simp;omega)) (by simp only [go_sem,Int.natCast_add,hT,List.map_append,List.map_cons,List.map_nil,List.length_append,List.length_cons,List.length_nil,flA,t9,e1,fl1Z] <;> (try and_intros) <;> (try omega)))
  ·
    refine up 1 ?_
    have h6:n=0:=by have:=of_decide_eq_false h;omega
    subst h6;simp only [flsD,flsZ,List.append_nil] at hi1 hi2;rw [← hi1,← hi2];refine up 1 ?_;refine rE [.fr (.li 5 (l.map flA))] [.li 2 [.agg [L,.lit (.int .i64 z)]]] [.tmp 2] ?_;simp only [go_sem,hT,TrC_fls]
private theorem ownC {P:Program} {X:Cx} {c:Code} {Q:Exit→Act→World→Prop} {s:St} (k es off:Nat) (x c':AV) (hb:lk s.H k=some ⟨.li es [x],0,false⟩) (hx:x.cl[off]? = some (.lit (.slice none 0 0))) (hc:cN c'=0) {x':AV} (hx':x'.cl=x.cl.set off (.sl s.ctr (cE c') 0 0)) (h:WA P X c Q ⟨s.tm,(k,⟨.li es [x'],0,false⟩)::(s.ctr,⟨c',0,false⟩)::s.H,s.ctr+8,s.sz⟩):WA P X c Q s:=fun a w hR =>
  h a w (hR.own0c k es off x c' 0 false hb rfl hx hc hx')
def sgFs:Sg:=fun f args ls =>
  match f,args,ls with
  | 19,[.ptr 0 0 0,.lit (.int .i64 n)],[.li 2 [.agg [L,.lit (.int .i64 z)]]]=>some (.lit (.int .i64 (nxI L z n)),[.li 2 [.agg [L,.lit (.int .i64 (nxZ L z))]]],DcOK L z∧1≤n∧n≤4611686018427387904)
  | 39,[.ptr 0 0 0],[.li 2 [.agg [L,.lit (.int .i64 z)]]]=>some (.fr (.li 5 ((dfl L z).map flA)),[.li 2 [.agg [L,.lit (.int .i64 (dflZ L z))]]],DcOK L z)
  | _,_,_=>none
theorem sgFs_ok:SgOK Tryz.prog sgFs:=by
  intro f args ls r ls' vc h hvc;unfold sgFs at h;split at h <;> cases h
  · exact ⟨(fnOK Tryz.func19 (by decide) rfl),next_s _ _ _ hvc.1 hvc.2.1 hvc.2.2⟩
  · exact ⟨(fnOK Tryz.func39 (by decide) rfl),dfiles_s _ _ hvc⟩
theorem TrC_aps (l:List Fap):TrC (.li 2 (l.map apA))=True:=eq_true (TrC.li fun x hx y hy=>by
  obtain ⟨f,_,rfl⟩:=List.mem_map.1 hx;simp only [apA,AV.cl,List.mem_cons,List.not_mem_nil,or_false] at hy;rcases hy with rfl | rfl
  · exact Tr.by_ _
  · exact of_eq_true (Tr_fls _))
theorem cvM_aps (l:List Fap) (post:List AV) (H:List (Nat × Blk)):cvM H (l.map apA++post)=(cvM H post).map fun t=>(l.map apA++t.1,t.2.1,t.2.2):=cvM_app (fun x hx H=>by
  obtain ⟨a,_,rfl⟩:=List.mem_map.1 hx;exact cvX_tr (fun H=>by simp only [cvL,cv1,Tr_by,Tr_fls,List.nil_append,and_true]) H) H
def apsD (L:AV):Nat→Int→List Fap
  | 0,_=>[]
  | n+1,z=>⟨[160,byt ((n+1:Nat):Int)],dfl L z⟩::apsD L n (dflZ L z)
def apsZ (L:AV):Nat→Int→Int
  | 0,z=>z
  | n+1,z=>apsZ L n (dflZ L z)
theorem dc_aps {L:AV}:∀ (n:Nat) {z:Int},DcOK L z→DcOK L (apsZ L n z)
  | 0,_,h=>h
  | n+1,_,h=>dc_aps n (dc_dfl h)
def dApp (L:AV) (z:Int):List Fap:=apsD L (nxI L (dflZ L z) 3).toNat (nxZ L (dflZ L z))
def dFz (L:AV) (z:Int):Int:=apsZ L (nxI L (dflZ L z) 3).toNat (nxZ L (dflZ L z))
theorem dc_Fz {L:AV} {z:Int} (h:DcOK L z):DcOK L (dFz L z):=dc_aps _ (dc_nx (dc_dfl h))
theorem dFiles_s (L:AV) (z:Int) (hd:DcOK L z):FnA Tryz.prog 17 [.ptr 0 0 0] [.li 2 [.agg [L,.lit (.int .i64 z)]]] [.fr (.li 5 ((dfl L z).map flA)),.li 2 ((dApp L z).map apA)] [.li 2 [.agg [L,.lit (.int .i64 (dFz L z))]]]:=by
  have hs:=sgFs_ok;have hT:=hd.tr;have hd1:=dc_dfl hd;have hr:=nx_rng L (dflZ L z) 3 (by omega);obtain ⟨a,ha⟩:=Int.eq_ofNat_of_zero_le hr.1;rw [ha] at hr;have hd0:=dc_nx hd1;have hl:=dfl_len L z;have eB:dApp L z=apsD L a (nxZ L (dflZ L z)):=by rw [dApp,ha];rfl
  have eZ:dFz L z=apsZ L a (nxZ L (dflZ L z)):=by rw [dFz,ha];rfl
  rw [eB,eZ];obtain ⟨b,hb⟩:∃ b,nxZ L (dflZ L z)=b:=⟨_,rfl⟩;rw [hb] at hd0 ⊢;obtain ⟨rt,hrt⟩:∃ b,dfl L z=b:=⟨_,rfl⟩;rw [hrt] at hl ⊢;refine FnA.of Tryz.func17 rfl (N:=26) rfl (by simp) (by simp) fun X hX hXE=>?_;simp only [tmArgs,lentH,Nat.reduceAdd];refine up 1 ?_;refine rK hs fun K hK=>?_;simp only [go_sem,sgFs,hd,hT,hrt,TrC_fls]
  refine eK ?_;refine ownC 2032 2 1 (.agg [.sl 2016 5 0 rt.length,.lit (.slice none 0 0)]) (.li 2 []) rfl rfl rfl (x':=.agg [.sl 2016 5 0 rt.length,.sl 2048 2 0 0]) rfl ?_;refine up 1 ?_;refine rK hs fun K hK=>?_;simp only [go_sem,sgFs,hd1,hT,ha,hb]
  refine eK ?_;refine up 1 ?_;refine WA.loopW hX (fun k=>if k=3000 then 2048 else if k=3008 then 2016 else if k=3016 then 2032 else if k=3024 then 2000 else k) ((fun (i:List Fap × Nat × Int)=>⟨[(0,.ptr 0 0 0),(2,.ptr 3024 0 0),(3,.ptr 3016 0 0),(4,.lit (.int .i64 (i.2.1:Nat)))],[(3024,⟨.li 2 [.agg [.lit (.slice none 0 0),.lit (.slice none 0 0)]],0,false⟩),(3016,⟨.li 2 [.agg [.sl 3008 5 0 rt.length,.sl 3000 2 0 i.1.length]],0,false⟩),(3008,⟨.li 5 (rt.map flA),0,false⟩),(3000,⟨.li 2 (i.1.map apA),0,false⟩),(0,⟨.li 2 [.agg [L,.lit (.int .i64 i.2.2)]],0,true⟩)],4000,26⟩:_→St)) (fun i=>i.2.1) (fun i=>(i.1++apsD L i.2.1 i.2.2=apsD L a b∧apsZ L i.2.1 i.2.2=apsZ L a b)∧i.1.length+i.2.1≤2∧DcOK L i.2.2) (i0:=([],a,b)) (⟨⟨rfl,rfl⟩,by show 0+a≤2;omega,hd0⟩) (by simp only [go_sem,Int.natCast_add,hT,TrC_fls] <;> (try and_intros) <;> (try omega)) fun ⟨l,n,z⟩ hi=>?_
  simp only at hi
  obtain ⟨⟨hi1,hi2⟩,hi,hd2⟩:=hi;refine up 2 ?_;refine WA.cond rfl (fun h=>?_) (fun h=>?_)
  ·
    refine up 1 ?_
    have h6:0<n:=by have:=of_decide_eq_true h;omega
    clear h;have u1:apsD L n z=⟨[160,byt (n:Int)],dfl L z⟩::apsD L (n-1) (dflZ L z):=by
      obtain ⟨m,rfl⟩:∃ m,n=m+1:=⟨n-1,by omega⟩;rfl
    have u2:apsZ L n z=apsZ L (n-1) (dflZ L z):=by
      obtain ⟨m,rfl⟩:∃ m,n=m+1:=⟨n-1,by omega⟩;rfl
    have hd3:DcOK L (dflZ L z):=dc_dfl hd2;have hl3:=dfl_len L z;have hc:((l++[(⟨[160,byt (n:Int)],dfl L z⟩:Fap)])++apsD L (n-1) (dflZ L z)=apsD L a b∧apsZ L (n-1) (dflZ L z)=apsZ L a b)∧(l++[(⟨[160,byt (n:Int)],dfl L z⟩:Fap)]).length+(n-1)≤2∧DcOK L (dflZ L z):=⟨⟨by rw [← hi1,u1];simp,by rw [← hi2,u2]⟩,by simp;omega,hd3⟩;have t9:=TrC_aps (l++[(⟨[160,byt n],dfl L z⟩:Fap)]);simp only [byt,List.map_append,List.map_cons,List.map_nil,apA] at t9;refine up 2 ?_;refine WA.drawn2 mixed_ ty_ok hs (tbl:=[[],[0],[],[2],[2,3],[],[5],[2,3,4,5,6],[2,3,4,5,6,7],[0,1,2,3,4,5,6,7,8],[0,1,2,3,4,5,6,7,8,9],[0,1,2,3,4,5,6,7,8,9,10]]) (nb:=[1,6,9,11]) (hk:=[[],[0],[],[],[],[],[],[],[],[],[],[]]) (by kernel_rfl) fun K hK=>?_;simp only [go_sem,sgFs,hd2,hT,TrC_fls]
    refine eN ?_
    refine WA.norm 4088 fun K hK=>?_;simp only [go_sem,cvM_aps,TrC_fls,Tr_fls]
    refine eK ?_;refine WA.regionE ty_ok hs fun K hK=>?_;simp only [go_sem,true_and]
    (repeat refine sdA ?_);refine hK _ (roundE hX (fun k=>if k=3000 then 4088 else k) (j:=(l++[⟨[160,byt n],dfl L z⟩],n-1,dflZ L z)) (hc) (by first | omega | (dsimp only;omega) | (simp;omega)) (by simp only [go_sem,Int.natCast_add,hT,List.map_append,List.map_cons,List.map_nil,List.length_append,List.length_cons,List.length_nil,apA,t9,TrC_fls,byt] <;> (try and_intros) <;> (try omega)))
  ·
    refine up 1 ?_
    have h6:n=0:=by have:=of_decide_eq_false h;omega
    subst h6;simp only [apsD,apsZ,List.append_nil] at hi1 hi2;rw [← hi1,← hi2];refine up 1 ?_;refine WA.retA ty_ok (xs:=[.fr (.li 5 (rt.map flA)),.li 2 (l.map apA)]) (ls':=[.li 2 [.agg [L,.lit (.int .i64 z)]]]) (rv:=[.cell 2 33]) hXE rfl hX (by simp) ?_;trace_state
    simp only [go_sem,hT,Tr_fls,Tr_aps,TrC_fls,TrC_aps]
end Go.Proofs.YtjjkfpbkmhfckaaGreatDoor.Fil
namespace Go.Proofs.YtjjkfpbkmhfckaaGreatDoor
open Go.RowKit Go.TravelBase Go.TravelAbs
theorem clonefile_c (f:Fil.Fl) (h:f.content.length≤100000):FnS Tryz.prog 80 [Fil.flA f] [] (Fil.flA f) []:=by
  have hs:=sgCl1_ok;have t1:=List.take_of_length_le (Nat.le_refl f.content.length);have b1:f.content.length≤140737488355328:=by omega
  unfold Fil.flA;refine fo Tryz.func80 8 fun X hX=>?_;refine up 1 ?_;refine rK hs fun K hK=>?_;simp only [go_sem,sgCl1,b1]
  refine eK ?_;refine up 1 ?_;refine rE [Fil.flA f] [] [.cell 2 80] ?_;simp only [go_sem,sbT,t1,Fil.flA];all_goals exact agA
def sgEf:Sg:=fun f args ls =>
  match f,args,ls with
  | 80,[.agg [.lit (.int .i64 a),.lit (.int .i64 b),.by_ c,.lit (.int .i64 d),.lit (.int .i64 e)]],[]=>some (.agg [.lit (.int .i64 a),.lit (.int .i64 b),.by_ c,.lit (.int .i64 d),.lit (.int .i64 e)],[],c.length≤100000)
  | _,_,_=>none
theorem sgEf_ok:SgOK Tryz.prog sgEf:=by
  intro f args ls r ls' vc h hvc;unfold sgEf at h;split at h <;> cases h
  exact ⟨(fnOK Tryz.func80 (by decide) rfl),clonefile_c ⟨_,_,_,_,_⟩ hvc⟩
theorem TrC_flsF (l:List Fil.Fl):TrC (.li 5 (l.map Fil.flA))=True:=eq_true (TrC.li fun x hx y hy=>by
  obtain ⟨f,_,rfl⟩:=List.mem_map.1 hx;simp only [Fil.flA,AV.cl,List.mem_cons,List.not_mem_nil,or_false] at hy;rcases hy with rfl | rfl | rfl | rfl | rfl <;> first | exact Tr.lit _ | exact Tr.by_ _)
theorem take_fls (l:List Fil.Fl):List.take l.length (l.map Fil.flA)=l.map Fil.flA:=List.take_of_length_le (by simp)
theorem Tr_clo0 (f:FuncId):Tr (.clo f [])=True:=eq_true (Tr.clo fun x hx=>by cases hx)
theorem eachf_c (l:List Fil.Fl) (hl:l.length≤1000) (hc:∀ x∈l,x.content.length≤100000):FnS Tryz.prog 79 [.li 5 (l.map Fil.flA),.clo 80 []] [] (.li 5 (l.map Fil.flA)) []:=by
  have hs:=sgEf_ok;refine fo Tryz.func79 22 fun X hX=>?_;refine up 2 ?_;refine WA.own0 5 (.li 5 []) rfl rfl ?_;refine up 1 ?_;refine rK hs fun K hK=>?_;simp only [go_sem,List.length_map]
  refine eK ?_;refine up 1 ?_;refine WA.loopW hX (fun k=>if k=3000 then 2016 else k) ((fun (i:Nat)=>⟨[(1,.clo 80 []),(5,.sl 3000 5 0 i),(8,.li 5 (l.map Fil.flA)),(9,.lit (.int .i64 (l.length:Nat))),(10,.lit (.int .i64 (i:Nat)))],[(3000,⟨.li 5 ((l.take i).map Fil.flA),0,false⟩)],4000,22⟩:_→St)) (fun i=>l.length-i) (fun i=>i≤l.length) (i0:=0) (by simp) (by simp only [go_sem,Int.natCast_add,TrC_flsF,Fil.Tr_fls,List.take_zero,List.map_nil] <;> (try and_intros) <;> (try omega)) fun i hi=>?_
  refine up 2 ?_;refine WA.cond rfl (fun h=>?_) (fun h=>?_)
  ·
    refine up 1 ?_
    have h6:i<l.length:=by have:=of_decide_eq_true h;omega
    clear h;have hci:=hc l[i] (List.getElem_mem h6);refine up 2 ?_;refine rK hs fun K hK=>?_;simp only [go_sem,List.length_map,Fil.fl_at h6]
    refine eK ?_;have hq:(if i≤l.length then i else l.length)=i:=if_pos hi;have t9:=TrC_flsF (l.take (i+1));have e9:List.map Fil.flA (List.take (i+1) l)=List.map Fil.flA (List.take i l)++[.agg [.lit (.int .i64 l[i].id),.lit (.int .i64 l[i].short),.by_ l[i].content,.lit (.int .i64 l[i].level),.lit (.int .i64 l[i].right)]]:=by
      rw [List.take_succ_eq_append_getElem h6,List.map_append];rfl
    rw [e9] at t9;refine WA.regionE ty_ok hs fun K hK=>?_;simp only [go_sem,sgEf,hci,hq]
    refine eN ?_
    refine WA.regionE ty_ok hs fun K hK=>?_;simp only [go_sem,true_and]
    (repeat refine sdA ?_);refine hK _ (roundE hX (fun k=>if k=3000 then 4080 else k) (j:=i+1) (by omega) (by first | omega | (dsimp only;omega) | (simp;omega)) (by simp only [go_sem,Int.natCast_add,t9,e9,Fil.Tr_fls,Tr_clo0] <;> (try and_intros) <;> (try omega)))
  ·
    refine up 1 ?_
    have h6:i=l.length:=by have:=of_decide_eq_false h;omega
    subst h6;rw [List.take_length];refine up 1 ?_;refine rE [.li 5 (l.map Fil.flA)] [] [.tmp 4] ?_;simp only [go_sem,sbT,take_fls,Fil.Tr_fls,TrC_flsF]
def FlsK (l:List Fil.Fl):Prop:=l.length≤1000 ∧ ∀ x∈l,x.content.length≤100000
def ApsK (l:List Fil.Fap):Prop:=l.length≤1000 ∧ ∀ a∈l,a.name.length≤100000∧FlsK a.files
def sgCa:Sg:=fun f args ls =>
  match f,args,ls with
  | 46,[.by_ bs],[]=>some (.fr (.by_ bs),[],bs.length≤140737488355328)
  | 79,[.li es xs,.clo g []],[]=>some (.li 5 xs,[],es=5∧g=80 ∧ ∃ l,xs=l.map Fil.flA∧FlsK l)
  | _,_,_=>none
theorem sgCa_ok:SgOK Tryz.prog sgCa:=by
  intro f args ls r ls' vc h hvc;unfold sgCa at h;split at h <;> cases h
  · exact ⟨(fnOK Tryz.func46 (by decide) rfl),sclone_s _ hvc⟩
  · obtain ⟨rfl,rfl,l,rfl,h1,h2⟩:=hvc;exact ⟨(fnOK Tryz.func79 (by decide) rfl),eachf_c l h1 h2⟩
theorem cloneapp_c (a:Fil.Fap) (h:a.name.length≤100000) (hf:FlsK a.files):FnS Tryz.prog 82 [Fil.apA a] [] (Fil.apA a) []:=by
  have hs:=sgCa_ok;have t1:=List.take_of_length_le (Nat.le_refl a.name.length);have b1:a.name.length≤140737488355328:=by omega
  have b2:(∃ l,a.files.map Fil.flA=l.map Fil.flA∧FlsK l)=True:=eq_true ⟨_,rfl,hf⟩;unfold Fil.apA;refine fo Tryz.func82 10 fun X hX=>?_;refine up 1 ?_;refine WA.drawnK mixed_ ty_ok hs (tbl:=[[],[0],[0,1],[],[3],[0,1,2,3,4],[0,1,2,3,4,5],[0,1,2,3,4,5,6]]) (nb:=[1,2,4,5,7]) (by kernel_rfl) fun K hK=>?_;simp only [go_sem,sgCa,b1,b2,Fil.Tr_fls]
  refine eK ?_;refine rE [Fil.apA a] [] [.cell 2 82] ?_;simp only [go_sem,sbT,t1,Fil.apA,Fil.Tr_fls];all_goals exact agA
def sgEa:Sg:=fun f args ls =>
  match f,args,ls with
  | 82,[.agg [.by_ n,.li es xs]],[]=>some (.agg [.by_ n,.li 5 xs],[],es=5∧n.length≤100000 ∧ ∃ l,xs=l.map Fil.flA∧FlsK l)
  | _,_,_=>none
theorem sgEa_ok:SgOK Tryz.prog sgEa:=by
  intro f args ls r ls' vc h hvc;unfold sgEa at h;split at h <;> cases h
  obtain ⟨rfl,h1,l,rfl,h2⟩:=hvc;exact ⟨(fnOK Tryz.func82 (by decide) rfl),cloneapp_c ⟨_,l⟩ h1 h2⟩
theorem TrC_apsF (l:List Fil.Fap):TrC (.li 2 (l.map Fil.apA))=True:=eq_true (TrC.li fun x hx y hy=>by
  obtain ⟨f,_,rfl⟩:=List.mem_map.1 hx;simp only [Fil.apA,AV.cl,List.mem_cons,List.not_mem_nil,or_false] at hy;rcases hy with rfl | rfl
  · exact Tr.by_ _
  · exact of_eq_true (Fil.Tr_fls _))
theorem take_aps (l:List Fil.Fap):List.take l.length (l.map Fil.apA)=l.map Fil.apA:=List.take_of_length_le (by simp)
theorem ap_atF {l:List Fil.Fap} {i:Nat} (h:i<l.length):(l.map Fil.apA).getD i .any = .agg [.by_ l[i].name,.li 5 (l[i].files.map Fil.flA)]:=by
  simp [List.getD,List.getElem?_eq_getElem h,Fil.apA]
theorem eacha_c (l:List Fil.Fap) (hk:ApsK l):FnS Tryz.prog 81 [.li 2 (l.map Fil.apA),.clo 82 []] [] (.li 2 (l.map Fil.apA)) []:=by
  obtain ⟨hl,hc⟩:=hk;have hs:=sgEa_ok;refine fo Tryz.func81 22 fun X hX=>?_;refine up 2 ?_;refine WA.own0 5 (.li 2 []) rfl rfl ?_;refine up 1 ?_;refine rK hs fun K hK=>?_;simp only [go_sem,List.length_map]
  refine eK ?_;refine up 1 ?_;refine WA.loopW hX (fun k=>if k=3000 then 2016 else k) ((fun (i:Nat)=>⟨[(1,.clo 82 []),(5,.sl 3000 2 0 i),(8,.li 2 (l.map Fil.apA)),(9,.lit (.int .i64 (l.length:Nat))),(10,.lit (.int .i64 (i:Nat)))],[(3000,⟨.li 2 ((l.take i).map Fil.apA),0,false⟩)],4000,22⟩:_→St)) (fun i=>l.length-i) (fun i=>i≤l.length) (i0:=0) (by simp) (by simp only [go_sem,Int.natCast_add,TrC_apsF,Fil.Tr_aps,List.take_zero,List.map_nil] <;> (try and_intros) <;> (try omega)) fun i hi=>?_
  refine up 2 ?_;refine WA.cond rfl (fun h=>?_) (fun h=>?_)
  ·
    refine up 1 ?_
    have h6:i<l.length:=by have:=of_decide_eq_true h;omega
    clear h;obtain ⟨hci,hcf⟩:=hc l[i] (List.getElem_mem h6);have b2:(∃ m,l[i].files.map Fil.flA=m.map Fil.flA∧FlsK m)=True:=eq_true ⟨_,rfl,hcf⟩;refine up 2 ?_;refine rK hs fun K hK=>?_;simp only [go_sem,List.length_map,ap_atF h6]
    refine eK ?_;have hq:(if i≤l.length then i else l.length)=i:=if_pos hi;have t9:=TrC_apsF (l.take (i+1));have e9:List.map Fil.apA (List.take (i+1) l)=List.map Fil.apA (List.take i l)++[.agg [.by_ l[i].name,.li 5 (l[i].files.map Fil.flA)]]:=by
      rw [List.take_succ_eq_append_getElem h6,List.map_append];rfl
    rw [e9] at t9;refine WA.regionE ty_ok hs fun K hK=>?_;simp only [go_sem,sgEa,hci,hq,b2,Fil.Tr_fls]
    refine eN ?_
    refine WA.regionE ty_ok hs fun K hK=>?_;simp only [go_sem,true_and]
    (repeat refine sdA ?_);refine hK _ (roundE hX (fun k=>if k=3000 then 4080 else k) (j:=i+1) (by omega) (by first | omega | (dsimp only;omega) | (simp;omega)) (by simp only [go_sem,Int.natCast_add,t9,e9,Fil.Tr_aps,Tr_clo0] <;> (try and_intros) <;> (try omega)))
  ·
    refine up 1 ?_
    have h6:i=l.length:=by have:=of_decide_eq_false h;omega
    subst h6;rw [List.take_length];refine up 1 ?_;refine rE [.li 2 (l.map Fil.apA)] [] [.tmp 4] ?_;simp only [go_sem,sbT,take_aps,Fil.Tr_aps,TrC_apsF]
structure Inf where
  pr:Int
  ver:Int
  par:Int
  key:Int
  kid:Int
def inA (x:Inf):AV:=.agg [.lit (.int .i64 x.pr),.lit (.int .i64 x.ver),.lit (.int .i64 x.par),.lit (.int .i64 x.key),.lit (.int .i64 x.kid)]
theorem Tr_ins (l:List Inf):Tr (.li 5 (l.map inA))=True:=eq_true (Tr.li fun x hx y hy=>by
  obtain ⟨f,_,rfl⟩:=List.mem_map.1 hx;simp only [inA,AV.cl,List.mem_cons,List.not_mem_nil,or_false] at hy;rcases hy with rfl | rfl | rfl | rfl | rfl <;> exact Tr.lit _)
theorem TrC_ins (l:List Inf):TrC (.li 5 (l.map inA))=True:=eq_true (TrC.li fun x hx y hy=>by
  obtain ⟨f,_,rfl⟩:=List.mem_map.1 hx;simp only [inA,AV.cl,List.mem_cons,List.not_mem_nil,or_false] at hy;rcases hy with rfl | rfl | rfl | rfl | rfl <;> exact Tr.lit _)
theorem take_ins (l:List Inf):List.take l.length (l.map inA)=l.map inA:=List.take_of_length_le (by simp)
theorem iclone_c (l:List Inf) (hl:l.length≤1000000000):FnS Tryz.prog 83 [.li 5 (l.map inA)] [] (.fr (.li 5 (l.map inA))) []:=by
  have hs:=sg0_ok;refine fo Tryz.func83 8 fun X hX=>?_;refine up 2 ?_;refine WA.nilTest (a:=0) ty_ok (Tryz.underlying34) rfl rfl rfl rfl rfl rfl (x:=.li 5 (l.map inA)) rfl rfl (show 3<8 by decide) (show 4<8 by decide) fun b hb=>?_;refine WA.cond rfl (fun h=>?_) (fun h=>?_)
  ·
    have h0:l=[]:=by
      have:(l.map inA).length=0:=hb h;exact List.length_eq_zero_iff.1 (by simpa using this)
    subst h0;refine up 1 ?_;refine WA.own0 2 (.li 5 []) rfl rfl ?_;refine rE [.fr (.li 5 [])] [] [.tmp 2] ?_;simp only [go_sem,sbT];all_goals exact agA
  ·
    refine up 1 ?_
    refine rK hs fun K hK=>?_;simp only [go_sem,TrC_ins,take_ins,List.length_map,List.nil_append];refine And.intro ⟨fun x hx=>by obtain ⟨p,_,rfl⟩:=List.mem_map.1 hx;rfl,by omega,by omega⟩ ?_;refine hK _ ?_;clear hK K;refine rE [.fr (.li 5 (l.map inA))] [] [.tmp 2] ?_;simp only [go_sem,sbT,TrC_ins,take_ins];all_goals exact agA
theorem TrC_ptsC (l:List Ch.Pt):TrC (.li 5 (l.map Ch.ptA))=True:=eq_true (TrC.li fun x hx y hy=>by
  obtain ⟨f,_,rfl⟩:=List.mem_map.1 hx;simp only [Ch.ptA,AV.cl,List.mem_cons,List.not_mem_nil,or_false] at hy;rcases hy with rfl | rfl | rfl | rfl | rfl <;> exact Tr.lit _)
theorem take_ptsC (l:List Ch.Pt):List.take l.length (l.map Ch.ptA)=l.map Ch.ptA:=List.take_of_length_le (by simp)
theorem pclone_c (l:List Ch.Pt) (hl:l.length≤1000000000):FnS Tryz.prog 84 [.li 5 (l.map Ch.ptA)] [] (.fr (.li 5 (l.map Ch.ptA))) []:=by
  have hs:=sg0_ok;refine fo Tryz.func84 8 fun X hX=>?_;refine up 2 ?_;refine WA.nilTest (a:=0) ty_ok (Tryz.underlying35) rfl rfl rfl rfl rfl rfl (x:=.li 5 (l.map Ch.ptA)) rfl rfl (show 3<8 by decide) (show 4<8 by decide) fun b hb=>?_;refine WA.cond rfl (fun h=>?_) (fun h=>?_)
  ·
    have h0:l=[]:=by
      have:(l.map Ch.ptA).length=0:=hb h;exact List.length_eq_zero_iff.1 (by simpa using this)
    subst h0;refine up 1 ?_;refine WA.own0 2 (.li 5 []) rfl rfl ?_;refine rE [.fr (.li 5 [])] [] [.tmp 2] ?_;simp only [go_sem,sbT];all_goals exact agA
  ·
    refine up 1 ?_
    refine rK hs fun K hK=>?_;simp only [go_sem,TrC_ptsC,take_ptsC,List.length_map,List.nil_append];refine And.intro ⟨fun x hx=>by obtain ⟨p,_,rfl⟩:=List.mem_map.1 hx;rfl,by omega,by omega⟩ ?_;refine hK _ ?_;clear hK K;refine rE [.fr (.li 5 (l.map Ch.ptA))] [] [.tmp 2] ?_;simp only [go_sem,sbT,TrC_ptsC,take_ptsC];all_goals exact agA
end Go.Proofs.YtjjkfpbkmhfckaaGreatDoor
