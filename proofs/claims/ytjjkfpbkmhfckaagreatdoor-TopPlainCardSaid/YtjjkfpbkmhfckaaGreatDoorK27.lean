import Derived.Test.YtjjkfpbkmhfckaaGreatDoorK25
import Derived.Test.YtjjkfpbkmhfckaaGreatDoorK26
import Derived.Test.YtjjkfpbkmhfckaaGreatDoorK10
set_option linter.unusedVariables false
set_option linter.unusedSimpArgs false
set_option maxHeartbeats 1000000
set_option maxRecDepth 10000
namespace Go.TravelAbs
open Go.RowKit Go.TravelBase
theorem WL.convB {P:Program} {X:Cx} {Q:Exit→Act→World→Prop} {ops:Array Oper} {s:St} {o:Oper} {r:List Oper} {t e a0 d:Nat} (k:Nat) (bs:List UInt8) (h1:o.op = .convert t t (.tmp a0)) (g1:o.guard=none) (e1:o.dst=some d) (hd:d<s.sz) (hT:P.underlying t=some (.slice e)) (hE:P.underlying e=some (.int .u8))
    (x1:gt s.tm a0 = .sl k 1 0 bs.length) (hb:lk s.H k=some ⟨.by_ bs,0,false⟩) (hn:0<bs.length)
    (h:WL P X ops Q r ⟨(d,.by_ bs)::s.tm,(k,⟨.by_ bs,2,false⟩)::s.H,s.ctr+8,s.sz⟩):WL P X ops Q (o::r) s:=by
  refine WL.conv (c:=.by_ bs) (vc:=isL (.by_ bs)=true∧(((0:Nat)=0∧false=false)∨(0:Nat)=1)∧0<1∧cE (.by_ bs)=1∧0+bs.length≤cN (.by_ bs)∧TrC (.by_ bs)) h1 g1 e1 hd hT hE x1 ?_ ⟨rfl,.inl ⟨rfl,rfl⟩,by decide,rfl,by show 0+bs.length≤bs.length;omega,TrC.by_ bs⟩ hn h;show cv1 s.H (.sl k 1 0 bs.length)=_;simp only [cv1,hb];show some (AV.by_ ((bs.drop 0).take bs.length),_,_)=_;rw [List.drop_zero,List.take_length];rfl
end Go.TravelAbs
namespace Go.Proofs.YtjjkfpbkmhfckaaGreatDoor
open Go.RowKit Go.TravelBase Go.TravelAbs
theorem cvM_fls (l:List Fil.Fl) (post:List AV) (H:List (Nat × Blk)):cvM H (l.map Fil.flA++post)=(cvM H post).map fun t=>(l.map Fil.flA++t.1,t.2.1,t.2.2):=cvM_app (fun x hx H=>by
  obtain ⟨a,_,rfl⟩:=List.mem_map.1 hx;exact cvX_tr (fun H=>by simp only [cvL,cv1,Fil.flA,Tr_lit,Tr_by,List.nil_append,and_true]) H) H
def sgPb:Sg:=fun f args ls =>
  match f,args,ls with
  | 41,[.lit (.int .i64 x)],[]=>some (.tup [.lit (.int .i64 (Ch.pubV x)),.lit (.int .i64 (Ch.pubE x))],[],True)
  | _,_,_=>none
theorem sgPb_ok:SgOK Tryz.prog sgPb:=by
  intro f args ls r ls' vc h hvc;unfold sgPb at h;split at h <;> cases h
  · exact ⟨(fnOK Tryz.func41 (by decide) rfl),Ch.rpub_s _⟩
theorem public_d (x:Int):FnS Tryz.prog 21 [.lit (.int .i64 x)] [] (.lit (.int .i64 (Ch.pubV x))) []:=by
  have hs:=sgPb_ok;refine fo Tryz.func21 11 fun X hX=>?_;refine up 1 ?_;refine rK hs fun K hK=>?_;simp only [go_sem,sgPb]
  refine eK ?_;refine up 1 ?_;refine rE [.lit (.int .i64 (Ch.pubV x))] [] [.tmp 2] ?_;simp only [go_sem,sbT]
def sgMk:Sg:=fun f args ls =>
  match f,args,ls with
  | 19,[.ptr 0 0 0,.lit (.int .i64 n)],[.li 2 [.agg [L,.lit (.int .i64 z)]]]=>some (.lit (.int .i64 (nxI L z n)),[.li 2 [.agg [L,.lit (.int .i64 (nxZ L z))]]],DcOK L z∧1≤n∧n≤4611686018427387904)
  | 20,[.ptr 0 0 0,.lit (.int .i64 n)],[.li 2 [.agg [L,.lit (.int .i64 z)]]]=>some (.lit (.bool (nxI L z n == n-1)),[.li 2 [.agg [L,.lit (.int .i64 (nxZ L z))]]],DcOK L z∧1≤n∧n≤4611686018427387904)
  | 18,[.ptr 0 0 0,.lit (.int .i64 most)],[.li 2 [.agg [L,.lit (.int .i64 z)]]]=>some (.fr (.by_ (dyB L z most)),[.li 2 [.agg [L,.lit (.int .i64 (dyZ L z most))]]],DcOK L z∧0≤most∧most≤1000000)
  | 21,[.lit (.int .i64 x)],[]=>some (.lit (.int .i64 (Ch.pubV x)),[],True)
  | _,_,_=>none
theorem sgMk_ok:SgOK Tryz.prog sgMk:=by
  intro f args ls r ls' vc h hvc;unfold sgMk at h;split at h <;> cases h
  · exact ⟨(fnOK Tryz.func19 (by decide) rfl),next_s _ _ _ hvc.1 hvc.2.1 hvc.2.2⟩
  · exact ⟨(fnOK Tryz.func20 (by decide) rfl),one_s _ _ _ hvc.1 hvc.2.1 hvc.2.2⟩
  · exact ⟨(fnOK Tryz.func18 (by decide) rfl),bytes_s _ _ _ hvc.1 hvc.2.1 hvc.2.2⟩
  · exact ⟨(fnOK Tryz.func21 (by decide) rfl),public_d _⟩
theorem cvM_aps0 (l:List Fil.Fap) (H:List (Nat × Blk)):cvM H (l.map Fil.apA)=(cvM H []).map fun t=>(l.map Fil.apA++t.1,t.2.1,t.2.2):=by
  have:=Fil.cvM_aps l [] H;rwa [List.append_nil] at this
theorem apsD_len (L:AV):∀ (n:Nat) (z:Int),(Fil.apsD L n z).length=n
  | 0,_=>rfl
  | n+1,z=>by rw [Fil.apsD,List.length_cons,apsD_len L n]
theorem dApp_len (L:AV) (z:Int):(Fil.dApp L z).length≤2:=by
  have:=nx_rng L (Fil.dflZ L z) 3 (by omega);rw [Fil.dApp,apsD_len];omega
def zoD (n:Int):ByteArray:=if n=1 then ⟨#[]⟩ else ⟨#[76,56,57,56,57,48,50,67,60,51,54,57,48,56,48,54,49,57,52,48,54,50,51,54]⟩
def piD (n:Int):List UInt8:=if n=2 then [] else [49,50,51,52,53]
def puD (n:Int):List UInt8:=if n=2 then [] else [57,57,57,57]
def ckD (n:Int):Int:=if n=3 then 0 else 505
def akD (n:Int):Int:=if n=3 then 0 else 606
def inD (n g:Int):List Inf:=if n=4 then l3 g else l4 g
def mkP (rt:List Fil.Fl) (ap:List Fil.Fap) (b0 b1 b2 b3 b4 b5:List UInt8) (n4 n3:Int) (bs:Bool) (sw n7 n2 n300:Int) (sd:List UInt8):Per :=
  ⟨rt++[⟨284,28,b0,0,0⟩],⟨[160,0,0],[⟨257,1,b1++[1],1,0⟩,⟨259,3,b2++[3],3,0⟩,⟨260,4,b3++[4],3,1⟩,⟨270,14,b4++[14],2,0⟩,⟨286,30,b5,0,0⟩]⟩::ap,zoD sw,[49,50,51,52,53,54],piD sw,puD sw,1+n4,1+n3,bs,(inD sw (Ch.pubV 505)).map inA,ckD sw,akD sw,[Ch.ptA ⟨[82,79,79,84,49],Ch.pubV 1001,1+n7,100,20000+n2*20000⟩],n300,[76,56,57,56,57,48,50,67,60],sd⟩
set_option maxHeartbeats 4000000 in
theorem make_d (L:AV) (z za zb z1 z2 z3 z4 z5 z6 z7 z8 z9 z10 z11 z12 z13:Int) (hd:DcOK L z) (ea:Fil.dFz L z=za) (eb:dyZ L za 20=zb) (e1:dyZ L zb 30=z1) (e2:dyZ L z1 30=z2) (e3:dyZ L z2 30=z3) (e4:dyZ L z3 30=z4) (e5:dyZ L z4 9=z5) (e6:nxZ L z5=z6) (e7:nxZ L z6=z7) (e8:nxZ L z7=z8) (e9:nxZ L z8=z9) (e10:nxZ L z9=z10) (e11:nxZ L z10=z11) (e12:nxZ L z11=z12) (e13:dyZ L z12 8=z13):FnS Tryz.prog 7 [.ptr 0 0 0] [.li 2 [.agg [L,.lit (.int .i64 z)]]] (.agg (perL (mkP (Fil.dfl L z) (Fil.dApp L z) (dyB L za 20) (dyB L zb 30) (dyB L z1 30) (dyB L z2 30) (dyB L z3 30) (dyB L z4 9) (nxI L z5 4) (nxI L z6 3) (!(nxI L z7 4 == 4-1)) (nxI L z8 8) (nxI L z9 7) (nxI L z10 2) (nxI L z11 300) (dyB L z12 8)))) [.li 2 [.agg [L,.lit (.int .i64 z13)]]]:=by
  have hs:=sgMk_ok;have hT:=hd.tr;have hTC:∀ x:Int,TrC (.li 2 [.agg [L,.lit (.int .i64 x)]]):=fun x=>TrC.li fun y hy u hu=>by
    simp only [List.mem_singleton] at hy;subst hy;simp only [AV.cl,List.mem_cons,List.not_mem_nil,or_false] at hu;rcases hu with rfl | rfl
    · exact of_eq_true hT
    · exact Tr.lit _
  have hda:DcOK L za:=ea ▸ Fil.dc_Fz hd;have hdb:DcOK L zb:=eb ▸ dc_dy hda;have hd1:DcOK L z1:=e1 ▸ dc_dy hdb;have hd2:DcOK L z2:=e2 ▸ dc_dy hd1;have hd3:DcOK L z3:=e3 ▸ dc_dy hd2;have hd4:DcOK L z4:=e4 ▸ dc_dy hd3;have hd5:DcOK L z5:=e5 ▸ dc_dy hd4;have hd6:DcOK L z6:=e6 ▸ dc_nx hd5;have hd7:DcOK L z7:=e7 ▸ dc_nx hd6;have hd8:DcOK L z8:=e8 ▸ dc_nx hd7;have hd9:DcOK L z9:=e9 ▸ dc_nx hd8;have hd10:DcOK L z10:=e10 ▸ dc_nx hd9;have hd11:DcOK L z11:=e11 ▸ dc_nx hd10;have hd12:DcOK L z12:=e12 ▸ dc_nx hd11;have l1:=dyB_len L zb 30 (by omega);have l2:=dyB_len L z1 30 (by omega);have l3:=dyB_len L z2 30 (by omega);have l4:=dyB_len L z3 30 (by omega);obtain ⟨rt,hrt⟩:∃ b,Fil.dfl L z=b:=⟨_,rfl⟩;obtain ⟨ap,hap⟩:∃ b,Fil.dApp L z=b:=⟨_,rfl⟩;have hF:=Fil.dFiles_s L z hd;rw [ea,hrt,hap] at hF;have hl:rt.length≤4:=hrt ▸ Fil.dfl_len L z;have hl2:ap.length≤2:=hap ▸ dApp_len L z;rw [hrt,hap];have w1:=Fil.TrC_fls (rt++[(⟨284,28,dyB L za 20,0,0⟩:Fil.Fl)]);simp only [List.map_append,List.map_cons,List.map_nil,Fil.flA] at w1;have w2:=Fil.TrC_aps ((⟨[160,0,0],[⟨257,1,dyB L zb 30++[1],1,0⟩,⟨259,3,dyB L z1 30++[3],3,0⟩,⟨260,4,dyB L z2 30++[4],3,1⟩,⟨270,14,dyB L z3 30++[14],2,0⟩,⟨286,30,dyB L z4 9,0,0⟩]⟩:Fil.Fap)::ap);simp only [List.map_cons,List.map_nil,Fil.flA,Fil.apA] at w2;have v1:=Fil.Tr_fls (rt++[(⟨284,28,dyB L za 20,0,0⟩:Fil.Fl)]);simp only [List.map_append,List.map_cons,List.map_nil,Fil.flA] at v1;have v2:=Fil.Tr_aps ((⟨[160,0,0],[⟨257,1,dyB L zb 30++[1],1,0⟩,⟨259,3,dyB L z1 30++[3],3,0⟩,⟨260,4,dyB L z2 30++[4],3,1⟩,⟨270,14,dyB L z3 30++[14],2,0⟩,⟨286,30,dyB L z4 9,0,0⟩]⟩:Fil.Fap)::ap);simp only [List.map_cons,List.map_nil,Fil.flA,Fil.apA] at v2;have u1:List.take (rt.length+1) (rt.map Fil.flA++[AV.agg [.lit (.int .i64 284),.lit (.int .i64 28),.by_ (dyB L za 20),.lit (.int .i64 0),.lit (.int .i64 0)]])=rt.map Fil.flA++[AV.agg [.lit (.int .i64 284),.lit (.int .i64 28),.by_ (dyB L za 20),.lit (.int .i64 0),.lit (.int .i64 0)]]:=List.take_of_length_le (by simp);have u2:∀ x:AV,List.take (1+ap.length) (x::ap.map Fil.apA)=x::ap.map Fil.apA:=fun x=>List.take_of_length_le (by simp;omega);have q4:=nx_rng L z5 4 (by omega);have q3:=nx_rng L z6 3 (by omega);have q7:=nx_rng L z9 7 (by omega);have q2:=nx_rng L z10 2 (by omega);refine fo Tryz.func7 121 fun X hX=>?_;refine up 1 ?_;refine WL.region ?_;refine WL.ev1 ty_ok hs fun K hK=>?_;simp only [go_sem,true_and]
  refine eK ?_;refine WL.callA rfl rfl rfl (show (5:Nat)<121 by decide) (fnOK Tryz.func17 (by decide) rfl) rfl rfl rfl Nat.one_pos (hTC _) (hTC _) hF (of_eq_true (Fil.TrC_fls _)) (of_eq_true (Fil.Tr_aps _)) (fun _ h=>by cases h) ?_;refine WL.ev1 ty_ok hs fun K hK=>?_;simp only [go_sem,true_and]
  refine eK ?_;refine WL.convB 2024 [49,50,51,52,53,54] rfl rfl rfl (show (7:Nat)<121 by decide) Tryz.underlying23 Tryz.underlying5 rfl rfl (by decide) ?_;refine WL.ev1 ty_ok hs fun K hK=>?_;simp only [go_sem,true_and]
  refine eK ?_;refine WL.convB 2040 [49,50,51,52,53] rfl rfl rfl (show (9:Nat)<121 by decide) Tryz.underlying23 Tryz.underlying5 rfl rfl (by decide) ?_;refine WL.ev1 ty_ok hs fun K hK=>?_;simp only [go_sem,true_and]
  refine eK ?_;refine WL.convB 2056 [57,57,57,57] rfl rfl rfl (show (11:Nat)<121 by decide) Tryz.underlying23 Tryz.underlying5 rfl rfl (by decide) ?_;refine WL.ev3 ty_ok hs fun K hK=>?_;simp only [go_sem,true_and]
  refine eK ?_;refine WL.nil ?_;refine WA.drawnH mixed_ ty_ok hs (tbl:=[[],[0],[0,1],[],[3],[3,4],[3,4,5],[0,1,2,3,4,5,6],[0,1,2,3,4,5,6,7],[0,1,2,3,4,5,6,7,8],[0,1,2,3,4,5,6,7,8,9]]) (nb:=[2,4,7,10]) (hk:=[[0],[0],[0],[],[],[],[],[],[],[],[]]) (by kernel_rfl) fun K hK=>?_;simp only [go_sem,sgMk,hda,hT,eb]
  refine eK ?_;refine WA.norm 2152 fun K hK=>?_;simp only [go_sem,cvM_fls,Fil.TrC_fls,Fil.Tr_fls]
  refine eK ?_;refine WA.drawnH mixed_ ty_ok hs (tbl:=[[],[],[1],[],[1,2,3],[],[1,2,3,4,5],[],[1,2,3,4,7],[],[1,2,3,4,7,8,9],[],[1,2,3,4,7,8,9,10,11],[],[1,2,3,4,7,8,9,10,13],[],[1,2,3,4,7,8,9,10,13,14,15],[],[1,2,3,4,7,8,9,10,13,14,15,16,17],[],[1,2,3,4,7,8,9,10,13,14,15,16,19],[],[1,2,3,4,7,8,9,10,13,14,15,16,19,20,21],[],[1,2,3,4,7,8,9,10,13,14,15,16,19,20,21,22,23],[],[1,2,3,4,7,8,9,10,13,14,15,16,19,20,21,22,25],[1,2,3,4,7,8,9,10,13,14,15,16,19,20,21,22,25,26],[1,2,3,4,5,6,7,8,9,10,11,12,13,14,15,16,17,18,19,20,21,22,23,24,25,26,27],[0,1,2,3,4,5,6,7,8,9,10,11,12,13,14,15,16,17,18,19,20,21,22,23,24,25,26,27,28],[0,1,2,3,4,5,6,7,8,9,10,11,12,13,14,15,16,17,18,19,20,21,22,23,24,25,26,27,28,29],[],[31],[31,32],[0,1,2,3,4,5,6,7,8,9,10,11,12,13,14,15,16,17,18,19,20,21,22,23,24,25,26,27,28,29,30,31,32,33],[0,1,2,3,4,5,6,7,8,9,10,11,12,13,14,15,16,17,18,19,20,21,22,23,24,25,26,27,28,29,30,31,32,33,34],[0,1,2,3,4,5,6,7,8,9,10,11,12,13,14,15,16,17,18,19,20,21,22,23,24,25,26,27,28,29,30,31,32,33,34,35],[0,1,2,3,4,5,6,7,8,9,10,11,12,13,14,15,16,17,18,19,20,21,22,23,24,25,26,27,28,29,30,31,32,33,34,35,36]]) (nb:=[2,4,8,10,14,16,20,22,26,33,34,37]) (hk:=[[0,2200,2208,2248,2256,2296,2304,2344,2352],[],[],[0],[],[0,2200,2208,2248,2256,2296,2304,2344,2352],[0,2248,2256,2296,2304,2344,2352],[0,2200,2208],[],[0,2200,2208],[],[0,2200,2208,2248,2256,2296,2304,2344,2352],[0,2296,2304,2344,2352],[0,2200,2208,2248,2256],[],[0,2200,2208,2248,2256],[],[0,2200,2208,2248,2256,2296,2304,2344,2352],[0,2344,2352],[0,2200,2208,2248,2256,2296,2304],[],[0,2200,2208,2248,2256,2296,2304],[],[0,2200,2208,2248,2256,2296,2304,2344,2352],[0],[0,2200,2208,2248,2256,2296,2304,2344,2352],[],[],[],[],[],[0,2200,2208,2248,2256,2296,2304,2344,2352],[0,2200,2208,2248,2256,2296,2304,2344,2352],[0,2200,2208,2248,2256,2296,2304,2344,2352],[],[],[],[]]) (by kernel_rfl) fun K hK=>?_;simp only [go_sem,sgMk,hdb,hd1,hd2,hd3,hd4,hT,e1,e2,e3,e4,e5];refine And.intro ⟨⟨by omega,by omega⟩,⟨by omega,by omega⟩,⟨by omega,by omega⟩,⟨by omega,by omega⟩,?h9,by omega,by omega⟩ (hK _ ?_)
  case h9 =>
    intro x hx;obtain ⟨f,_,rfl⟩:=List.mem_map.1 hx;rfl
  clear hK K;refine WA.norm 2408 fun K hK=>?_;simp only [go_sem,cvM_fls,Fil.TrC_fls,Fil.Tr_fls]
  refine eK ?_;refine WA.norm 2456 fun K hK=>?_;simp only [go_sem,cvM_aps0,Option.map_some,List.append_nil,Fil.TrC_fls,Fil.Tr_fls,Fil.TrC_aps,Fil.Tr_aps]
  refine eK ?_;refine rK hs fun K hK=>?_;simp only [go_sem,sgMk,hd5,hd6,hT,e6,e7]
  refine eK ?_;refine rK hs fun K hK=>?_;simp only [go_sem,sgMk,hd7,hT,e8]
  refine eK ?_;refine up 1 ?_;refine rK hs fun K hK=>?_;simp only [go_sem,sgMk]
  refine eK ?_;refine up 1 ?_;refine rK hs fun K hK=>?_;simp only [go_sem,sgMk,hd8,hT,e9]
  refine eK ?_;refine up 2 ?_;refine WA.cond rfl (fun h=>?_) (fun h=>?_)
  ·
    have hn:nxI L z8 8=1:=by simpa using h
    refine WA.regionE ty_ok hs fun K hK=>?_;simp only [go_sem,true_and];with_reducible refine hK _ (WN.mk ?_)
    clear hK K;with_reducible repeat first | refine WN.t ?_ | refine WN.b ?_
    refine rK hs fun K hK=>?_;simp only [go_sem,sgMk,hd9,hd10,hd11,hT,e10,e11,e12]
    refine eK ?_;refine WL.region ?_;refine WL.ev1 ty_ok hs fun K hK=>?_;simp only [go_sem,true_and]
    refine eK ?_;refine WL.convB 2872 [76,56,57,56,57,48,50,67,60] rfl rfl rfl (show (115:Nat)<121 by decide) Tryz.underlying23 Tryz.underlying5 rfl rfl (by decide) ?_;refine WL.evk ty_ok hs 6 ?_;simp only [List.take_succ_cons,List.take_zero,List.drop_succ_cons,List.drop_zero];intro K hK;simp only [go_sem,sgMk,hd12,hT,e13]
    refine eK ?_;refine WL.nil ?_;refine WA.norm 2080 fun K hK=>?_;simp only [go_sem,w1,w2,u1,u2]
    refine eK ?_;have eP:perL (mkP rt ap (dyB L za 20) (dyB L zb 30) (dyB L z1 30) (dyB L z2 30) (dyB L z3 30) (dyB L z4 9) (nxI L z5 4) (nxI L z6 3) (!(nxI L z7 4 == 4-1)) (nxI L z8 8) (nxI L z9 7) (nxI L z10 2) (nxI L z11 300) (dyB L z12 8))=[.li 5 (rt.map Fil.flA++[.agg [.lit (.int .i64 284),.lit (.int .i64 28),.by_ (dyB L za 20),.lit (.int .i64 0),.lit (.int .i64 0)]]),.li 2 (.agg [.by_ [160,0,0],.li 5 [.agg [.lit (.int .i64 257),.lit (.int .i64 1),.by_ (dyB L zb 30++[1]),.lit (.int .i64 1),.lit (.int .i64 0)],.agg [.lit (.int .i64 259),.lit (.int .i64 3),.by_ (dyB L z1 30++[3]),.lit (.int .i64 3),.lit (.int .i64 0)],.agg [.lit (.int .i64 260),.lit (.int .i64 4),.by_ (dyB L z2 30++[4]),.lit (.int .i64 3),.lit (.int .i64 1)],.agg [.lit (.int .i64 270),.lit (.int .i64 14),.by_ (dyB L z3 30++[14]),.lit (.int .i64 2),.lit (.int .i64 0)],.agg [.lit (.int .i64 286),.lit (.int .i64 30),.by_ (dyB L z4 9),.lit (.int .i64 0),.lit (.int .i64 0)]]]::ap.map Fil.apA),.lit (.string ⟨#[]⟩),.by_ [49,50,51,52,53,54],.by_ [49,50,51,52,53],.by_ [57,57,57,57],.lit (.int .i64 (1+nxI L z5 4)),.lit (.int .i64 (1+nxI L z6 3)),.lit (.bool !(nxI L z7 4 == 3)),.li 5 [.agg [.lit (.int .i64 2),.lit (.int .i64 2),.lit (.int .i64 12),.lit (.int .i64 0),.lit (.int .i64 0)],.agg [.lit (.int .i64 3),.lit (.int .i64 2),.lit (.int .i64 0),.lit (.int .i64 0),.lit (.int .i64 0)],.agg [.lit (.int .i64 4),.lit (.int .i64 1),.lit (.int .i64 0),.lit (.int .i64 (Ch.pubV 505)),.lit (.int .i64 1)],.agg [.lit (.int .i64 5),.lit (.int .i64 1),.lit (.int .i64 0),.lit (.int .i64 0),.lit (.int .i64 0)]],.lit (.int .i64 505),.lit (.int .i64 606),.li 5 [.agg [.lit (.string ⟨#[82,79,79,84,49]⟩),.lit (.int .i64 (Ch.pubV 1001)),.lit (.int .i64 (1+nxI L z9 7)),.lit (.int .i64 100),.lit (.int .i64 (20000+nxI L z10 2*20000))]],.lit (.int .i64 (nxI L z11 300)),.by_ [76,56,57,56,57,48,50,67,60],.by_ (dyB L z12 8)]:=by
      unfold mkP perL zoD piD puD ckD akD inD;simp only [hn,if_true,reduceIte,Int.reduceEq,List.map_append,List.map_cons,List.map_nil,Fil.flA,Fil.apA];rfl
    rw [eP];refine up 1 ?_;refine rE [.agg [.li 5 (rt.map Fil.flA++[.agg [.lit (.int .i64 284),.lit (.int .i64 28),.by_ (dyB L za 20),.lit (.int .i64 0),.lit (.int .i64 0)]]),.li 2 (.agg [.by_ [160,0,0],.li 5 [.agg [.lit (.int .i64 257),.lit (.int .i64 1),.by_ (dyB L zb 30++[1]),.lit (.int .i64 1),.lit (.int .i64 0)],.agg [.lit (.int .i64 259),.lit (.int .i64 3),.by_ (dyB L z1 30++[3]),.lit (.int .i64 3),.lit (.int .i64 0)],.agg [.lit (.int .i64 260),.lit (.int .i64 4),.by_ (dyB L z2 30++[4]),.lit (.int .i64 3),.lit (.int .i64 1)],.agg [.lit (.int .i64 270),.lit (.int .i64 14),.by_ (dyB L z3 30++[14]),.lit (.int .i64 2),.lit (.int .i64 0)],.agg [.lit (.int .i64 286),.lit (.int .i64 30),.by_ (dyB L z4 9),.lit (.int .i64 0),.lit (.int .i64 0)]]]::ap.map Fil.apA),.lit (.string ⟨#[]⟩),.by_ [49,50,51,52,53,54],.by_ [49,50,51,52,53],.by_ [57,57,57,57],.lit (.int .i64 (1+nxI L z5 4)),.lit (.int .i64 (1+nxI L z6 3)),.lit (.bool !(nxI L z7 4 == 3)),.li 5 [.agg [.lit (.int .i64 2),.lit (.int .i64 2),.lit (.int .i64 12),.lit (.int .i64 0),.lit (.int .i64 0)],.agg [.lit (.int .i64 3),.lit (.int .i64 2),.lit (.int .i64 0),.lit (.int .i64 0),.lit (.int .i64 0)],.agg [.lit (.int .i64 4),.lit (.int .i64 1),.lit (.int .i64 0),.lit (.int .i64 (Ch.pubV 505)),.lit (.int .i64 1)],.agg [.lit (.int .i64 5),.lit (.int .i64 1),.lit (.int .i64 0),.lit (.int .i64 0),.lit (.int .i64 0)]],.lit (.int .i64 505),.lit (.int .i64 606),.li 5 [.agg [.lit (.string ⟨#[82,79,79,84,49]⟩),.lit (.int .i64 (Ch.pubV 1001)),.lit (.int .i64 (1+nxI L z9 7)),.lit (.int .i64 100),.lit (.int .i64 (20000+nxI L z10 2*20000))]],.lit (.int .i64 (nxI L z11 300)),.by_ [76,56,57,56,57,48,50,67,60],.by_ (dyB L z12 8)]] [.li 2 [.agg [L,.lit (.int .i64 z13)]]] [.cell 2 39] ?_;simp only [go_sem,sbT,hT,w1,w2,v1,v2]
  ·
    have h1:¬ nxI L z8 8=1:=by simpa using h
    clear h;refine up 1 ?_;refine WA.cond rfl (fun h=>?_) (fun h=>?_)
    ·
      have hn:nxI L z8 8=2:=by simpa using h
      refine WA.regionE ty_ok hs fun K hK=>?_;simp only [go_sem,true_and];with_reducible refine hK _ (WN.mk ?_)
      clear hK K;with_reducible repeat first | refine WN.t ?_ | refine WN.b ?_
      refine rK hs fun K hK=>?_;simp only [go_sem,sgMk,hd9,hd10,hd11,hT,e10,e11,e12]
      refine eK ?_;refine WL.region ?_;refine WL.ev1 ty_ok hs fun K hK=>?_;simp only [go_sem,true_and]
      refine eK ?_;refine WL.convB 2904 [76,56,57,56,57,48,50,67,60] rfl rfl rfl (show (115:Nat)<121 by decide) Tryz.underlying23 Tryz.underlying5 rfl rfl (by decide) ?_;refine WL.evk ty_ok hs 6 ?_;simp only [List.take_succ_cons,List.take_zero,List.drop_succ_cons,List.drop_zero];intro K hK;simp only [go_sem,sgMk,hd12,hT,e13]
      refine eK ?_;refine WL.nil ?_;refine WA.norm 2080 fun K hK=>?_;simp only [go_sem,w1,w2,u1,u2]
      refine eK ?_;have eP:perL (mkP rt ap (dyB L za 20) (dyB L zb 30) (dyB L z1 30) (dyB L z2 30) (dyB L z3 30) (dyB L z4 9) (nxI L z5 4) (nxI L z6 3) (!(nxI L z7 4 == 4-1)) (nxI L z8 8) (nxI L z9 7) (nxI L z10 2) (nxI L z11 300) (dyB L z12 8))=[.li 5 (rt.map Fil.flA++[.agg [.lit (.int .i64 284),.lit (.int .i64 28),.by_ (dyB L za 20),.lit (.int .i64 0),.lit (.int .i64 0)]]),.li 2 (.agg [.by_ [160,0,0],.li 5 [.agg [.lit (.int .i64 257),.lit (.int .i64 1),.by_ (dyB L zb 30++[1]),.lit (.int .i64 1),.lit (.int .i64 0)],.agg [.lit (.int .i64 259),.lit (.int .i64 3),.by_ (dyB L z1 30++[3]),.lit (.int .i64 3),.lit (.int .i64 0)],.agg [.lit (.int .i64 260),.lit (.int .i64 4),.by_ (dyB L z2 30++[4]),.lit (.int .i64 3),.lit (.int .i64 1)],.agg [.lit (.int .i64 270),.lit (.int .i64 14),.by_ (dyB L z3 30++[14]),.lit (.int .i64 2),.lit (.int .i64 0)],.agg [.lit (.int .i64 286),.lit (.int .i64 30),.by_ (dyB L z4 9),.lit (.int .i64 0),.lit (.int .i64 0)]]]::ap.map Fil.apA),.lit (.string ⟨#[76,56,57,56,57,48,50,67,60,51,54,57,48,56,48,54,49,57,52,48,54,50,51,54]⟩),.by_ [49,50,51,52,53,54],.by_ [],.by_ [],.lit (.int .i64 (1+nxI L z5 4)),.lit (.int .i64 (1+nxI L z6 3)),.lit (.bool !(nxI L z7 4 == 3)),.li 5 [.agg [.lit (.int .i64 2),.lit (.int .i64 2),.lit (.int .i64 12),.lit (.int .i64 0),.lit (.int .i64 0)],.agg [.lit (.int .i64 3),.lit (.int .i64 2),.lit (.int .i64 0),.lit (.int .i64 0),.lit (.int .i64 0)],.agg [.lit (.int .i64 4),.lit (.int .i64 1),.lit (.int .i64 0),.lit (.int .i64 (Ch.pubV 505)),.lit (.int .i64 1)],.agg [.lit (.int .i64 5),.lit (.int .i64 1),.lit (.int .i64 0),.lit (.int .i64 0),.lit (.int .i64 0)]],.lit (.int .i64 505),.lit (.int .i64 606),.li 5 [.agg [.lit (.string ⟨#[82,79,79,84,49]⟩),.lit (.int .i64 (Ch.pubV 1001)),.lit (.int .i64 (1+nxI L z9 7)),.lit (.int .i64 100),.lit (.int .i64 (20000+nxI L z10 2*20000))]],.lit (.int .i64 (nxI L z11 300)),.by_ [76,56,57,56,57,48,50,67,60],.by_ (dyB L z12 8)]:=by
        unfold mkP perL zoD piD puD ckD akD inD;simp only [hn,if_true,reduceIte,Int.reduceEq,List.map_append,List.map_cons,List.map_nil,Fil.flA,Fil.apA];rfl
      rw [eP];refine up 1 ?_;refine rE [.agg [.li 5 (rt.map Fil.flA++[.agg [.lit (.int .i64 284),.lit (.int .i64 28),.by_ (dyB L za 20),.lit (.int .i64 0),.lit (.int .i64 0)]]),.li 2 (.agg [.by_ [160,0,0],.li 5 [.agg [.lit (.int .i64 257),.lit (.int .i64 1),.by_ (dyB L zb 30++[1]),.lit (.int .i64 1),.lit (.int .i64 0)],.agg [.lit (.int .i64 259),.lit (.int .i64 3),.by_ (dyB L z1 30++[3]),.lit (.int .i64 3),.lit (.int .i64 0)],.agg [.lit (.int .i64 260),.lit (.int .i64 4),.by_ (dyB L z2 30++[4]),.lit (.int .i64 3),.lit (.int .i64 1)],.agg [.lit (.int .i64 270),.lit (.int .i64 14),.by_ (dyB L z3 30++[14]),.lit (.int .i64 2),.lit (.int .i64 0)],.agg [.lit (.int .i64 286),.lit (.int .i64 30),.by_ (dyB L z4 9),.lit (.int .i64 0),.lit (.int .i64 0)]]]::ap.map Fil.apA),.lit (.string ⟨#[76,56,57,56,57,48,50,67,60,51,54,57,48,56,48,54,49,57,52,48,54,50,51,54]⟩),.by_ [49,50,51,52,53,54],.by_ [],.by_ [],.lit (.int .i64 (1+nxI L z5 4)),.lit (.int .i64 (1+nxI L z6 3)),.lit (.bool !(nxI L z7 4 == 3)),.li 5 [.agg [.lit (.int .i64 2),.lit (.int .i64 2),.lit (.int .i64 12),.lit (.int .i64 0),.lit (.int .i64 0)],.agg [.lit (.int .i64 3),.lit (.int .i64 2),.lit (.int .i64 0),.lit (.int .i64 0),.lit (.int .i64 0)],.agg [.lit (.int .i64 4),.lit (.int .i64 1),.lit (.int .i64 0),.lit (.int .i64 (Ch.pubV 505)),.lit (.int .i64 1)],.agg [.lit (.int .i64 5),.lit (.int .i64 1),.lit (.int .i64 0),.lit (.int .i64 0),.lit (.int .i64 0)]],.lit (.int .i64 505),.lit (.int .i64 606),.li 5 [.agg [.lit (.string ⟨#[82,79,79,84,49]⟩),.lit (.int .i64 (Ch.pubV 1001)),.lit (.int .i64 (1+nxI L z9 7)),.lit (.int .i64 100),.lit (.int .i64 (20000+nxI L z10 2*20000))]],.lit (.int .i64 (nxI L z11 300)),.by_ [76,56,57,56,57,48,50,67,60],.by_ (dyB L z12 8)]] [.li 2 [.agg [L,.lit (.int .i64 z13)]]] [.cell 2 39] ?_;simp only [go_sem,sbT,hT,w1,w2,v1,v2]
    ·
      have h2:¬ nxI L z8 8=2:=by simpa using h
      clear h;refine up 1 ?_;refine WA.cond rfl (fun h=>?_) (fun h=>?_)
      ·
        have hn:nxI L z8 8=3:=by simpa using h
        refine WA.regionE ty_ok hs fun K hK=>?_;simp only [go_sem,true_and];with_reducible refine hK _ (WN.mk ?_)
        clear hK K;with_reducible repeat first | refine WN.t ?_ | refine WN.b ?_
        refine rK hs fun K hK=>?_;simp only [go_sem,sgMk,hd9,hd10,hd11,hT,e10,e11,e12]
        refine eK ?_;refine WL.region ?_;refine WL.ev1 ty_ok hs fun K hK=>?_;simp only [go_sem,true_and]
        refine eK ?_;refine WL.convB 2920 [76,56,57,56,57,48,50,67,60] rfl rfl rfl (show (115:Nat)<121 by decide) Tryz.underlying23 Tryz.underlying5 rfl rfl (by decide) ?_;refine WL.evk ty_ok hs 6 ?_;simp only [List.take_succ_cons,List.take_zero,List.drop_succ_cons,List.drop_zero];intro K hK;simp only [go_sem,sgMk,hd12,hT,e13]
        refine eK ?_;refine WL.nil ?_;refine WA.norm 2080 fun K hK=>?_;simp only [go_sem,w1,w2,u1,u2]
        refine eK ?_;have eP:perL (mkP rt ap (dyB L za 20) (dyB L zb 30) (dyB L z1 30) (dyB L z2 30) (dyB L z3 30) (dyB L z4 9) (nxI L z5 4) (nxI L z6 3) (!(nxI L z7 4 == 4-1)) (nxI L z8 8) (nxI L z9 7) (nxI L z10 2) (nxI L z11 300) (dyB L z12 8))=[.li 5 (rt.map Fil.flA++[.agg [.lit (.int .i64 284),.lit (.int .i64 28),.by_ (dyB L za 20),.lit (.int .i64 0),.lit (.int .i64 0)]]),.li 2 (.agg [.by_ [160,0,0],.li 5 [.agg [.lit (.int .i64 257),.lit (.int .i64 1),.by_ (dyB L zb 30++[1]),.lit (.int .i64 1),.lit (.int .i64 0)],.agg [.lit (.int .i64 259),.lit (.int .i64 3),.by_ (dyB L z1 30++[3]),.lit (.int .i64 3),.lit (.int .i64 0)],.agg [.lit (.int .i64 260),.lit (.int .i64 4),.by_ (dyB L z2 30++[4]),.lit (.int .i64 3),.lit (.int .i64 1)],.agg [.lit (.int .i64 270),.lit (.int .i64 14),.by_ (dyB L z3 30++[14]),.lit (.int .i64 2),.lit (.int .i64 0)],.agg [.lit (.int .i64 286),.lit (.int .i64 30),.by_ (dyB L z4 9),.lit (.int .i64 0),.lit (.int .i64 0)]]]::ap.map Fil.apA),.lit (.string ⟨#[76,56,57,56,57,48,50,67,60,51,54,57,48,56,48,54,49,57,52,48,54,50,51,54]⟩),.by_ [49,50,51,52,53,54],.by_ [49,50,51,52,53],.by_ [57,57,57,57],.lit (.int .i64 (1+nxI L z5 4)),.lit (.int .i64 (1+nxI L z6 3)),.lit (.bool !(nxI L z7 4 == 3)),.li 5 [.agg [.lit (.int .i64 2),.lit (.int .i64 2),.lit (.int .i64 12),.lit (.int .i64 0),.lit (.int .i64 0)],.agg [.lit (.int .i64 3),.lit (.int .i64 2),.lit (.int .i64 0),.lit (.int .i64 0),.lit (.int .i64 0)],.agg [.lit (.int .i64 4),.lit (.int .i64 1),.lit (.int .i64 0),.lit (.int .i64 (Ch.pubV 505)),.lit (.int .i64 1)],.agg [.lit (.int .i64 5),.lit (.int .i64 1),.lit (.int .i64 0),.lit (.int .i64 0),.lit (.int .i64 0)]],.lit (.int .i64 0),.lit (.int .i64 0),.li 5 [.agg [.lit (.string ⟨#[82,79,79,84,49]⟩),.lit (.int .i64 (Ch.pubV 1001)),.lit (.int .i64 (1+nxI L z9 7)),.lit (.int .i64 100),.lit (.int .i64 (20000+nxI L z10 2*20000))]],.lit (.int .i64 (nxI L z11 300)),.by_ [76,56,57,56,57,48,50,67,60],.by_ (dyB L z12 8)]:=by
          unfold mkP perL zoD piD puD ckD akD inD;simp only [hn,if_true,reduceIte,Int.reduceEq,List.map_append,List.map_cons,List.map_nil,Fil.flA,Fil.apA];rfl
        rw [eP];refine up 1 ?_;refine rE [.agg [.li 5 (rt.map Fil.flA++[.agg [.lit (.int .i64 284),.lit (.int .i64 28),.by_ (dyB L za 20),.lit (.int .i64 0),.lit (.int .i64 0)]]),.li 2 (.agg [.by_ [160,0,0],.li 5 [.agg [.lit (.int .i64 257),.lit (.int .i64 1),.by_ (dyB L zb 30++[1]),.lit (.int .i64 1),.lit (.int .i64 0)],.agg [.lit (.int .i64 259),.lit (.int .i64 3),.by_ (dyB L z1 30++[3]),.lit (.int .i64 3),.lit (.int .i64 0)],.agg [.lit (.int .i64 260),.lit (.int .i64 4),.by_ (dyB L z2 30++[4]),.lit (.int .i64 3),.lit (.int .i64 1)],.agg [.lit (.int .i64 270),.lit (.int .i64 14),.by_ (dyB L z3 30++[14]),.lit (.int .i64 2),.lit (.int .i64 0)],.agg [.lit (.int .i64 286),.lit (.int .i64 30),.by_ (dyB L z4 9),.lit (.int .i64 0),.lit (.int .i64 0)]]]::ap.map Fil.apA),.lit (.string ⟨#[76,56,57,56,57,48,50,67,60,51,54,57,48,56,48,54,49,57,52,48,54,50,51,54]⟩),.by_ [49,50,51,52,53,54],.by_ [49,50,51,52,53],.by_ [57,57,57,57],.lit (.int .i64 (1+nxI L z5 4)),.lit (.int .i64 (1+nxI L z6 3)),.lit (.bool !(nxI L z7 4 == 3)),.li 5 [.agg [.lit (.int .i64 2),.lit (.int .i64 2),.lit (.int .i64 12),.lit (.int .i64 0),.lit (.int .i64 0)],.agg [.lit (.int .i64 3),.lit (.int .i64 2),.lit (.int .i64 0),.lit (.int .i64 0),.lit (.int .i64 0)],.agg [.lit (.int .i64 4),.lit (.int .i64 1),.lit (.int .i64 0),.lit (.int .i64 (Ch.pubV 505)),.lit (.int .i64 1)],.agg [.lit (.int .i64 5),.lit (.int .i64 1),.lit (.int .i64 0),.lit (.int .i64 0),.lit (.int .i64 0)]],.lit (.int .i64 0),.lit (.int .i64 0),.li 5 [.agg [.lit (.string ⟨#[82,79,79,84,49]⟩),.lit (.int .i64 (Ch.pubV 1001)),.lit (.int .i64 (1+nxI L z9 7)),.lit (.int .i64 100),.lit (.int .i64 (20000+nxI L z10 2*20000))]],.lit (.int .i64 (nxI L z11 300)),.by_ [76,56,57,56,57,48,50,67,60],.by_ (dyB L z12 8)]] [.li 2 [.agg [L,.lit (.int .i64 z13)]]] [.cell 2 39] ?_;simp only [go_sem,sbT,hT,w1,w2,v1,v2]
      ·
        have h3:¬ nxI L z8 8=3:=by simpa using h
        clear h;refine up 1 ?_;refine WA.cond rfl (fun h=>?_) (fun h=>?_)
        ·
          have hn:nxI L z8 8=4:=by simpa using h
          refine WA.regionE ty_ok hs fun K hK=>?_;simp only [go_sem,true_and];with_reducible refine hK _ (WN.mk ?_)
          clear hK K;with_reducible repeat first | refine WN.t ?_ | refine WN.b ?_
          refine rK hs fun K hK=>?_;simp only [go_sem,sgMk,hd9,hd10,hd11,hT,e10,e11,e12]
          refine eK ?_;refine WL.region ?_;refine WL.ev1 ty_ok hs fun K hK=>?_;simp only [go_sem,true_and]
          refine eK ?_;refine WL.convB 2944 [76,56,57,56,57,48,50,67,60] rfl rfl rfl (show (115:Nat)<121 by decide) Tryz.underlying23 Tryz.underlying5 rfl rfl (by decide) ?_;refine WL.evk ty_ok hs 6 ?_;simp only [List.take_succ_cons,List.take_zero,List.drop_succ_cons,List.drop_zero];intro K hK;simp only [go_sem,sgMk,hd12,hT,e13]
          refine eK ?_;refine WL.nil ?_;refine WA.norm 2080 fun K hK=>?_;simp only [go_sem,w1,w2,u1,u2]
          refine eK ?_;have eP:perL (mkP rt ap (dyB L za 20) (dyB L zb 30) (dyB L z1 30) (dyB L z2 30) (dyB L z3 30) (dyB L z4 9) (nxI L z5 4) (nxI L z6 3) (!(nxI L z7 4 == 4-1)) (nxI L z8 8) (nxI L z9 7) (nxI L z10 2) (nxI L z11 300) (dyB L z12 8))=[.li 5 (rt.map Fil.flA++[.agg [.lit (.int .i64 284),.lit (.int .i64 28),.by_ (dyB L za 20),.lit (.int .i64 0),.lit (.int .i64 0)]]),.li 2 (.agg [.by_ [160,0,0],.li 5 [.agg [.lit (.int .i64 257),.lit (.int .i64 1),.by_ (dyB L zb 30++[1]),.lit (.int .i64 1),.lit (.int .i64 0)],.agg [.lit (.int .i64 259),.lit (.int .i64 3),.by_ (dyB L z1 30++[3]),.lit (.int .i64 3),.lit (.int .i64 0)],.agg [.lit (.int .i64 260),.lit (.int .i64 4),.by_ (dyB L z2 30++[4]),.lit (.int .i64 3),.lit (.int .i64 1)],.agg [.lit (.int .i64 270),.lit (.int .i64 14),.by_ (dyB L z3 30++[14]),.lit (.int .i64 2),.lit (.int .i64 0)],.agg [.lit (.int .i64 286),.lit (.int .i64 30),.by_ (dyB L z4 9),.lit (.int .i64 0),.lit (.int .i64 0)]]]::ap.map Fil.apA),.lit (.string ⟨#[76,56,57,56,57,48,50,67,60,51,54,57,48,56,48,54,49,57,52,48,54,50,51,54]⟩),.by_ [49,50,51,52,53,54],.by_ [49,50,51,52,53],.by_ [57,57,57,57],.lit (.int .i64 (1+nxI L z5 4)),.lit (.int .i64 (1+nxI L z6 3)),.lit (.bool !(nxI L z7 4 == 3)),.li 5 [.agg [.lit (.int .i64 3),.lit (.int .i64 2),.lit (.int .i64 0),.lit (.int .i64 0),.lit (.int .i64 0)],.agg [.lit (.int .i64 4),.lit (.int .i64 1),.lit (.int .i64 0),.lit (.int .i64 (Ch.pubV 505)),.lit (.int .i64 1)],.agg [.lit (.int .i64 5),.lit (.int .i64 1),.lit (.int .i64 0),.lit (.int .i64 0),.lit (.int .i64 0)]],.lit (.int .i64 505),.lit (.int .i64 606),.li 5 [.agg [.lit (.string ⟨#[82,79,79,84,49]⟩),.lit (.int .i64 (Ch.pubV 1001)),.lit (.int .i64 (1+nxI L z9 7)),.lit (.int .i64 100),.lit (.int .i64 (20000+nxI L z10 2*20000))]],.lit (.int .i64 (nxI L z11 300)),.by_ [76,56,57,56,57,48,50,67,60],.by_ (dyB L z12 8)]:=by
            unfold mkP perL zoD piD puD ckD akD inD;simp only [hn,if_true,reduceIte,Int.reduceEq,List.map_append,List.map_cons,List.map_nil,Fil.flA,Fil.apA];rfl
          rw [eP];refine up 1 ?_;refine rE [.agg [.li 5 (rt.map Fil.flA++[.agg [.lit (.int .i64 284),.lit (.int .i64 28),.by_ (dyB L za 20),.lit (.int .i64 0),.lit (.int .i64 0)]]),.li 2 (.agg [.by_ [160,0,0],.li 5 [.agg [.lit (.int .i64 257),.lit (.int .i64 1),.by_ (dyB L zb 30++[1]),.lit (.int .i64 1),.lit (.int .i64 0)],.agg [.lit (.int .i64 259),.lit (.int .i64 3),.by_ (dyB L z1 30++[3]),.lit (.int .i64 3),.lit (.int .i64 0)],.agg [.lit (.int .i64 260),.lit (.int .i64 4),.by_ (dyB L z2 30++[4]),.lit (.int .i64 3),.lit (.int .i64 1)],.agg [.lit (.int .i64 270),.lit (.int .i64 14),.by_ (dyB L z3 30++[14]),.lit (.int .i64 2),.lit (.int .i64 0)],.agg [.lit (.int .i64 286),.lit (.int .i64 30),.by_ (dyB L z4 9),.lit (.int .i64 0),.lit (.int .i64 0)]]]::ap.map Fil.apA),.lit (.string ⟨#[76,56,57,56,57,48,50,67,60,51,54,57,48,56,48,54,49,57,52,48,54,50,51,54]⟩),.by_ [49,50,51,52,53,54],.by_ [49,50,51,52,53],.by_ [57,57,57,57],.lit (.int .i64 (1+nxI L z5 4)),.lit (.int .i64 (1+nxI L z6 3)),.lit (.bool !(nxI L z7 4 == 3)),.li 5 [.agg [.lit (.int .i64 3),.lit (.int .i64 2),.lit (.int .i64 0),.lit (.int .i64 0),.lit (.int .i64 0)],.agg [.lit (.int .i64 4),.lit (.int .i64 1),.lit (.int .i64 0),.lit (.int .i64 (Ch.pubV 505)),.lit (.int .i64 1)],.agg [.lit (.int .i64 5),.lit (.int .i64 1),.lit (.int .i64 0),.lit (.int .i64 0),.lit (.int .i64 0)]],.lit (.int .i64 505),.lit (.int .i64 606),.li 5 [.agg [.lit (.string ⟨#[82,79,79,84,49]⟩),.lit (.int .i64 (Ch.pubV 1001)),.lit (.int .i64 (1+nxI L z9 7)),.lit (.int .i64 100),.lit (.int .i64 (20000+nxI L z10 2*20000))]],.lit (.int .i64 (nxI L z11 300)),.by_ [76,56,57,56,57,48,50,67,60],.by_ (dyB L z12 8)]] [.li 2 [.agg [L,.lit (.int .i64 z13)]]] [.cell 2 39] ?_;simp only [go_sem,sbT,hT,w1,w2,v1,v2]
        ·
          have h4:¬ nxI L z8 8=4:=by simpa using h
          clear h;refine up 1 ?_
          refine rK hs fun K hK=>?_;simp only [go_sem,sgMk,hd9,hd10,hd11,hT,e10,e11,e12]
          refine eK ?_;refine WL.region ?_;refine WL.ev1 ty_ok hs fun K hK=>?_;simp only [go_sem,true_and]
          refine eK ?_;refine WL.convB 2904 [76,56,57,56,57,48,50,67,60] rfl rfl rfl (show (115:Nat)<121 by decide) Tryz.underlying23 Tryz.underlying5 rfl rfl (by decide) ?_;refine WL.evk ty_ok hs 6 ?_;simp only [List.take_succ_cons,List.take_zero,List.drop_succ_cons,List.drop_zero];intro K hK;simp only [go_sem,sgMk,hd12,hT,e13]
          refine eK ?_;refine WL.nil ?_;refine WA.norm 2080 fun K hK=>?_;simp only [go_sem,w1,w2,u1,u2]
          refine eK ?_;have eP:perL (mkP rt ap (dyB L za 20) (dyB L zb 30) (dyB L z1 30) (dyB L z2 30) (dyB L z3 30) (dyB L z4 9) (nxI L z5 4) (nxI L z6 3) (!(nxI L z7 4 == 4-1)) (nxI L z8 8) (nxI L z9 7) (nxI L z10 2) (nxI L z11 300) (dyB L z12 8))=[.li 5 (rt.map Fil.flA++[.agg [.lit (.int .i64 284),.lit (.int .i64 28),.by_ (dyB L za 20),.lit (.int .i64 0),.lit (.int .i64 0)]]),.li 2 (.agg [.by_ [160,0,0],.li 5 [.agg [.lit (.int .i64 257),.lit (.int .i64 1),.by_ (dyB L zb 30++[1]),.lit (.int .i64 1),.lit (.int .i64 0)],.agg [.lit (.int .i64 259),.lit (.int .i64 3),.by_ (dyB L z1 30++[3]),.lit (.int .i64 3),.lit (.int .i64 0)],.agg [.lit (.int .i64 260),.lit (.int .i64 4),.by_ (dyB L z2 30++[4]),.lit (.int .i64 3),.lit (.int .i64 1)],.agg [.lit (.int .i64 270),.lit (.int .i64 14),.by_ (dyB L z3 30++[14]),.lit (.int .i64 2),.lit (.int .i64 0)],.agg [.lit (.int .i64 286),.lit (.int .i64 30),.by_ (dyB L z4 9),.lit (.int .i64 0),.lit (.int .i64 0)]]]::ap.map Fil.apA),.lit (.string ⟨#[76,56,57,56,57,48,50,67,60,51,54,57,48,56,48,54,49,57,52,48,54,50,51,54]⟩),.by_ [49,50,51,52,53,54],.by_ [49,50,51,52,53],.by_ [57,57,57,57],.lit (.int .i64 (1+nxI L z5 4)),.lit (.int .i64 (1+nxI L z6 3)),.lit (.bool !(nxI L z7 4 == 3)),.li 5 [.agg [.lit (.int .i64 2),.lit (.int .i64 2),.lit (.int .i64 12),.lit (.int .i64 0),.lit (.int .i64 0)],.agg [.lit (.int .i64 3),.lit (.int .i64 2),.lit (.int .i64 0),.lit (.int .i64 0),.lit (.int .i64 0)],.agg [.lit (.int .i64 4),.lit (.int .i64 1),.lit (.int .i64 0),.lit (.int .i64 (Ch.pubV 505)),.lit (.int .i64 1)],.agg [.lit (.int .i64 5),.lit (.int .i64 1),.lit (.int .i64 0),.lit (.int .i64 0),.lit (.int .i64 0)]],.lit (.int .i64 505),.lit (.int .i64 606),.li 5 [.agg [.lit (.string ⟨#[82,79,79,84,49]⟩),.lit (.int .i64 (Ch.pubV 1001)),.lit (.int .i64 (1+nxI L z9 7)),.lit (.int .i64 100),.lit (.int .i64 (20000+nxI L z10 2*20000))]],.lit (.int .i64 (nxI L z11 300)),.by_ [76,56,57,56,57,48,50,67,60],.by_ (dyB L z12 8)]:=by
            unfold mkP perL zoD piD puD ckD akD inD;simp only [if_neg h1,if_neg h2,if_neg h3,if_neg h4,if_true,reduceIte,Int.reduceEq,List.map_append,List.map_cons,List.map_nil,Fil.flA,Fil.apA];rfl
          rw [eP];refine up 1 ?_;refine rE [.agg [.li 5 (rt.map Fil.flA++[.agg [.lit (.int .i64 284),.lit (.int .i64 28),.by_ (dyB L za 20),.lit (.int .i64 0),.lit (.int .i64 0)]]),.li 2 (.agg [.by_ [160,0,0],.li 5 [.agg [.lit (.int .i64 257),.lit (.int .i64 1),.by_ (dyB L zb 30++[1]),.lit (.int .i64 1),.lit (.int .i64 0)],.agg [.lit (.int .i64 259),.lit (.int .i64 3),.by_ (dyB L z1 30++[3]),.lit (.int .i64 3),.lit (.int .i64 0)],.agg [.lit (.int .i64 260),.lit (.int .i64 4),.by_ (dyB L z2 30++[4]),.lit (.int .i64 3),.lit (.int .i64 1)],.agg [.lit (.int .i64 270),.lit (.int .i64 14),.by_ (dyB L z3 30++[14]),.lit (.int .i64 2),.lit (.int .i64 0)],.agg [.lit (.int .i64 286),.lit (.int .i64 30),.by_ (dyB L z4 9),.lit (.int .i64 0),.lit (.int .i64 0)]]]::ap.map Fil.apA),.lit (.string ⟨#[76,56,57,56,57,48,50,67,60,51,54,57,48,56,48,54,49,57,52,48,54,50,51,54]⟩),.by_ [49,50,51,52,53,54],.by_ [49,50,51,52,53],.by_ [57,57,57,57],.lit (.int .i64 (1+nxI L z5 4)),.lit (.int .i64 (1+nxI L z6 3)),.lit (.bool !(nxI L z7 4 == 3)),.li 5 [.agg [.lit (.int .i64 2),.lit (.int .i64 2),.lit (.int .i64 12),.lit (.int .i64 0),.lit (.int .i64 0)],.agg [.lit (.int .i64 3),.lit (.int .i64 2),.lit (.int .i64 0),.lit (.int .i64 0),.lit (.int .i64 0)],.agg [.lit (.int .i64 4),.lit (.int .i64 1),.lit (.int .i64 0),.lit (.int .i64 (Ch.pubV 505)),.lit (.int .i64 1)],.agg [.lit (.int .i64 5),.lit (.int .i64 1),.lit (.int .i64 0),.lit (.int .i64 0),.lit (.int .i64 0)]],.lit (.int .i64 505),.lit (.int .i64 606),.li 5 [.agg [.lit (.string ⟨#[82,79,79,84,49]⟩),.lit (.int .i64 (Ch.pubV 1001)),.lit (.int .i64 (1+nxI L z9 7)),.lit (.int .i64 100),.lit (.int .i64 (20000+nxI L z10 2*20000))]],.lit (.int .i64 (nxI L z11 300)),.by_ [76,56,57,56,57,48,50,67,60],.by_ (dyB L z12 8)]] [.li 2 [.agg [L,.lit (.int .i64 z13)]]] [.cell 2 39] ?_;simp only [go_sem,sbT,hT,w1,w2,v1,v2]
end Go.Proofs.YtjjkfpbkmhfckaaGreatDoor
namespace Go.Proofs.YtjjkfpbkmhfckaaGreatDoor
open Go.RowKit Go.TravelBase Go.TravelAbs
theorem fstE_0 {e:Nat→Int}:∀ n,(∀ i,i<n→e i=0)→Fil.fstE e n=0
  | 0,_=>rfl
  | n+1,h=>by
    simp only [Fil.fstE];rw [if_pos (fstE_0 n fun i hi=>h i (by omega))];exact h n (by omega)
def FlR (f:Fil.Fl):Prop:=(1≤f.id∧f.id≤65535∧0≤f.short∧f.short≤30)∧(0≤f.level∧f.level≤4∧0≤f.right∧f.right≤(if f.level=3 then 15 else 0))∧f.content.length≤4096
theorem flR_mk {id sh lv rg:Int} {c:List UInt8} (h1:1≤id∧id≤65535∧0≤sh∧sh≤30) (h2:0≤lv∧lv≤4∧0≤rg∧rg≤(if lv=3 then 15 else 0)) (h3:c.length≤4096):FlR ⟨id,sh,c,lv,rg⟩:=⟨h1,h2,h3⟩
theorem chk_0 {l:List Fil.Fl} (hl:l.length≤24) (hr:∀ f∈l,FlR f) (hd:∀ i j (hi:i<l.length) (hj:j<i),Fil.sameF l[i] (l[j]'(by omega))=false):Fil.chk l=0:=by
  unfold Fil.chk;rw [if_neg (by omega)];refine fstE_0 _ fun i hi=>?_;obtain ⟨⟨a1,a2,a3,a4⟩,⟨b1,b2,b3,b4⟩,c⟩:=hr l[i] (List.getElem_mem hi);unfold Fil.errAt;rw [dif_pos hi,if_neg (by omega),if_neg (by omega),if_neg (by omega),if_neg ?_];rw [List.any_eq_true];rintro ⟨x,hx,h⟩;obtain ⟨j,hj,rfl⟩:=List.getElem_of_mem hx;rw [List.length_take] at hj;rw [List.getElem_take,hd i j hi (by omega)] at h;cases h
def FlG (k:Nat) (f:Fil.Fl):Prop:=f.id=256+k∧(f.short=0∨f.short=1+k)∧f.content.length≤60∧0≤f.level∧f.level≤4∧0≤f.right∧f.right≤(if f.level=3 then 15 else 0)
theorem fl1_g (L:AV) (k:Nat) (z:Int):FlG k (Fil.fl1 L k z):=by
  have h1:=dyB_len L z 60 (by omega);have h2:=nx_rng L (dyZ L z 60) 5 (by omega);refine ⟨rfl,?_,by show (dyB L z 60).length≤60;omega,h2.1,by show nxI L (dyZ L z 60) 5≤4;omega,?_,?_⟩
  · show (bif _ then _ else _)=(0:Int)∨(bif _ then _ else _)=(_:Int);cases (nxI L (Fil.dAz L (dyZ L z 60)) 2 == 2-1)
    · exact .inl rfl
    · exact .inr rfl
  · show 0≤Fil.dAr L (dyZ L z 60);unfold Fil.dAr;split
    · exact (nx_rng L _ 16 (by omega)).1
    · omega
  · show Fil.dAr L (dyZ L z 60)≤(if nxI L (dyZ L z 60) 5=3 then 15 else 0);unfold Fil.dAr;split
    · have:=(nx_rng L (nxZ L (dyZ L z 60)) 16 (by omega)).2;omega
    · omega
theorem flsD_g (L:AV):∀ (n k:Nat) (z:Int) (i:Nat) (h:i<(Fil.flsD L n k z).length),FlG (k+i) ((Fil.flsD L n k z)[i])
  | 0,_,_,_,h=>by simp [Fil.flsD] at h
  | n+1,k,z,0,h=>fl1_g L k z
  | n+1,k,z,i+1,h=>by
    have:=flsD_g L n (k+1) (Fil.fl1Z L z) i (by simpa [Fil.flsD] using h);have e:k+(i+1)=k+1+i:=by omega
    rw [e];simpa [Fil.flsD] using this
def Made (l:List Fil.Fl):Prop:=l.length≤4 ∧ ∀ i (h:i<l.length),FlG i l[i]
theorem dfl_m (L:AV) (z:Int):Made (Fil.dfl L z):=⟨Fil.dfl_len L z,fun i h=>by
  have:=flsD_g L (nxI L z 5).toNat 0 (nxZ L z) i h;rwa [Nat.zero_add] at this⟩
theorem FlG.r {k:Nat} {f:Fil.Fl} (h:FlG k f) (hk:k<4):FlR f:=by
  obtain ⟨h1,h2,h3,h4,h5,h6,h7⟩:=h;exact ⟨⟨by omega,by omega,by omega,by omega⟩,⟨h4,h5,h6,h7⟩,by omega⟩
theorem Made.r {l:List Fil.Fl} (h:Made l):∀ f∈l,FlR f:=fun f hf=>by
  obtain ⟨i,hi,rfl⟩:=List.getElem_of_mem hf;exact (h.2 i hi).r (by have:=h.1;omega)
theorem sameF_no {f g:Fil.Fl} (h1:g.id ≠ f.id) (h2:g.short=f.short→f.short=0):Fil.sameF f g=false:=by
  unfold Fil.sameF;rw [show (g.id == f.id)=false from beq_false_of_ne h1]
  simp only [cond_false];by_cases h:g.short=f.short
  · rw [show (g.short == f.short)=true from by simp [h]]
    simp [h2 h]
  · rw [show (g.short == f.short)=false from beq_false_of_ne h]
    rfl
theorem Made.same {l:List Fil.Fl} (h:Made l):∀ i j (hi:i<l.length) (hj:j<i),Fil.sameF l[i] (l[j]'(by omega))=false:=fun i j hi hj=>by
  obtain ⟨a1,a2,_⟩:=h.2 i hi;obtain ⟨b1,b2,_⟩:=h.2 j (by omega);exact sameF_no (by omega) (by omega)
theorem Made.chk {l:List Fil.Fl} (h:Made l):Fil.chk l=0:=chk_0 (by have:=h.1;omega) h.r h.same
theorem Made.chk2 {l:List Fil.Fl} (h:Made l) (b:List UInt8) (hb:b.length≤4096):Fil.chk (l++[⟨284,28,b,0,0⟩])=0:=by
  have hl:=h.1;refine chk_0 (by simp;omega) (fun f hf=>?_) fun i j hi hj=>?_
  · rcases List.mem_append.1 hf with hf | hf
    · exact h.r f hf
    · simp only [List.mem_singleton] at hf;subst hf;exact flR_mk (by decide) (by decide) hb
  · have hi':i<l.length+1:=by simpa using hi
    rw [List.getElem_append_left (show j<l.length by omega)];rcases Nat.lt_or_ge i l.length with q | q
    · rw [List.getElem_append_left q];exact h.same i j q hj
    · obtain rfl:i=l.length:=by omega
      rw [List.getElem_append_right (Nat.le_refl _)];obtain ⟨b1,b2,_⟩:=h.2 j hj;simp only [Nat.sub_self,List.getElem_cons_zero];exact sameF_no (by show (l[j]'_).id ≠ 284;omega) (by show (l[j]'_).short=28→_;omega)
def desk5 (b1 b2 b3 b4 b5:List UInt8):List Fil.Fl:=[⟨257,1,b1++[1],1,0⟩,⟨259,3,b2++[3],3,0⟩,⟨260,4,b3++[4],3,1⟩,⟨270,14,b4++[14],2,0⟩,⟨286,30,b5,0,0⟩]
theorem desk5_chk {b1 b2 b3 b4 b5:List UInt8} (h1:b1.length≤60) (h2:b2.length≤60) (h3:b3.length≤60) (h4:b4.length≤60) (h5:b5.length≤60):Fil.chk (desk5 b1 b2 b3 b4 b5)=0:=by
  refine chk_0 (by show (5:Nat)≤24;decide) (fun f hf=>?_) fun i j hi hj=>?_
  · simp only [desk5,List.mem_cons,List.not_mem_nil,or_false] at hf;rcases hf with rfl | rfl | rfl | rfl | rfl <;> exact flR_mk (by decide) (by decide) (by first | omega | (simp;omega))
  · have hi5:i<5:=hi;have key:∀ i j:Fin 5,j<i→Fil.sameF ((desk5 b1 b2 b3 b4 b5)[i.1]'i.2) ((desk5 b1 b2 b3 b4 b5)[j.1]'j.2)=false:=by
      intro i j hij;match i,j,hij with
      | 1,0,_=>rfl
      | 2,0,_=>rfl
      | 2,1,_=>rfl
      | 3,0,_=>rfl
      | 3,1,_=>rfl
      | 3,2,_=>rfl
      | 4,0,_=>rfl
      | 4,1,_=>rfl
      | 4,2,_=>rfl
      | 4,3,_=>rfl
    exact key ⟨i,hi5⟩ ⟨j,by omega⟩ hj
theorem apsD_at (L:AV):∀ (n:Nat) (z:Int) (i:Nat) (h:i<(Fil.apsD L n z).length),((Fil.apsD L n z)[i]).name=[160,byt ((n-i:Nat):Int)]∧Made ((Fil.apsD L n z)[i]).files
  | 0,_,_,h=>by simp [Fil.apsD] at h
  | n+1,z,0,h=>⟨rfl,dfl_m L z⟩
  | n+1,z,i+1,h=>by
    have:=apsD_at L n (Fil.dflZ L z) i (by simpa [Fil.apsD] using h);rw [show n+1-(i+1)=n-i by omega];simpa [Fil.apsD] using this
def Mada (l:List Fil.Fap):Prop:=l.length≤2 ∧ ∀ i (h:i<l.length),l[i].name=[160,byt ((l.length-i:Nat):Int)]∧Made l[i].files
theorem dApp_m (L:AV) (z:Int):Mada (Fil.dApp L z):=by
  refine ⟨dApp_len L z,fun i h=>?_⟩;have:=apsD_at L _ _ i h;rwa [show (Fil.dApp L z).length=(nxI L (Fil.dflZ L z) 3).toNat from apsD_len L _ _]
def deskA (ap:List Fil.Fap) (b1 b2 b3 b4 b5:List UInt8):List Fil.Fap:=⟨[160,0,0],desk5 b1 b2 b3 b4 b5⟩::ap
theorem desk_val {rt:List Fil.Fl} {ap:List Fil.Fap} {b0 b1 b2 b3 b4 b5:List UInt8} (hr:Made rt) (ha:Mada ap) (h0:b0.length≤60) (h1:b1.length≤60) (h2:b2.length≤60) (h3:b3.length≤60) (h4:b4.length≤60) (h5:b5.length≤60):Fil.val (rt++[⟨284,28,b0,0,0⟩]) (deskA ap b1 b2 b3 b4 b5)=0:=by
  have hl:=ha.1;unfold Fil.val;rw [if_neg (by show ¬ ap.length+1 > 4;omega),hr.chk2 b0 (by omega),if_neg (by decide)];refine fstE_0 _ fun i hi=>?_;have hi':i<ap.length+1:=hi;unfold Fil.errP;rw [dif_pos hi];match i,hi,hi' with
  | 0,_,_ =>
    rw [if_neg (by show ¬ ((3:Nat)<1∨(3:Nat) > 16);decide),if_neg (by simp)];exact desk5_chk h1 h2 h3 h4 h5
  | i+1,hi,hi' =>
    have hi2:i<ap.length:=by omega
    obtain ⟨q1,q2⟩:=ha.2 i hi2;show (if ap[i].name.length<1∨ap[i].name.length > 16 then 2 else if (List.take (i+1) (deskA ap b1 b2 b3 b4 b5)).any (Fil.nameQ ap[i].name)=true then 15 else Fil.chk ap[i].files)=0;rw [q1,if_neg (by show ¬ ((2:Nat)<1∨(2:Nat) > 16);decide),if_neg ?_]
    · exact q2.chk
    · rw [List.any_eq_true];rintro ⟨x,hx,h⟩;obtain ⟨j,hj,rfl⟩:=List.getElem_of_mem hx;rw [List.length_take] at hj;rw [List.getElem_take] at h;have hn:[160,byt ((ap.length-i:Nat):Int)]=((deskA ap b1 b2 b3 b4 b5)[j]'(by show j<ap.length+1;omega)).name:=of_decide_eq_true h;match j,hj,hn with
      | 0,_,hn=>simp [deskA] at hn
      | j+1,hj,hn =>
        have e2:(deskA ap b1 b2 b3 b4 b5)[j+1]'(by show j+1<ap.length+1;omega)=ap[j]'(by omega):=rfl;rw [e2,(ha.2 j (by omega)).1] at hn;simp only [List.cons.injEq,true_and,and_true] at hn;have hb:∀ a b:Nat,a≤2→b≤2→byt (a:Int)=byt (b:Int)→a=b:=by
          intro a b h1 h2;match a,b,h1,h2 with
          | 0,0,_,_=>intro;rfl
          | 1,1,_,_=>intro;rfl
          | 2,2,_,_=>intro;rfl
          | 0,1,_,_=>decide
          | 0,2,_,_=>decide
          | 1,0,_,_=>decide
          | 1,2,_,_=>decide
          | 2,0,_,_=>decide
          | 2,1,_,_=>decide
          | a+3,_,h,_=>omega
          | _,b+3,_,h=>omega
        have:=hb _ _ (by omega) (by omega) hn;omega
structure Ln where
  x:Chp
  e:List UInt8
  c:List UInt8
  n:Int
  sec:Bool
def lnA (l:Ln):AV:=.agg (chpL l.x++[.by_ l.e,.by_ l.c,.lit (.int .i64 l.n),.lit (.bool l.sec)])
theorem TrC_ln {l:Ln} (h:PerOK l.x.p):TrC (.li 64 [lnA l]):=TrC.li fun x hx y hy=>by
  rw [List.mem_singleton] at hx;subst hx;rcases List.mem_append.1 hy with hy | hy
  · exact chpL_tr h y hy
  · simp only [List.mem_cons,List.not_mem_nil,or_false] at hy;rcases hy with rfl | rfl | rfl | rfl;all_goals first | exact Tr.lit _ | exact Tr.by_ _
def sgQsp (x x2:Chp) (c:List AV) (r:List UInt8) (st:Int):Sg:=fun f args ls =>
  match f,args,ls with
  | 13,[.agg l,.agg c',.lit (.int .i64 k)],[]=>some (.tup [.agg (chpL x2),.agg [.by_ r,.lit (.int .i64 st)],.lit (.bool true)],[],l=chpL x∧c'=c∧k = -1)
  | _,_,_=>none
theorem sgQsp_ok {x x2:Chp} {c:List AV} {r:List UInt8} {st:Int} (hF:FnS Tryz.prog 13 [chpA x,.agg c,.lit (.int .i64 (-1))] [] (.tup [chpA x2,rsX r st,.lit (.bool true)]) []):SgOK Tryz.prog (sgQsp x x2 c r st):=by
  intro f args ls r ls' vc h hvc;unfold sgQsp at h;split at h <;> cases h
  obtain ⟨rfl,rfl,rfl⟩:=hvc;exact ⟨(fnOK Tryz.func13 (by decide) rfl),hF⟩
theorem send_pln (l:Ln) (x2:Chp) (k ins p1 p2 ex:Int) (d r:List UInt8) (st:Int) (hk:PerOK l.x.p) (hk2:PerOK x2.p) (hsec:l.sec=false)
    (hF:FnS Tryz.prog 13 [chpA l.x,cmX k ins p1 p2 d ex,.lit (.int .i64 (-1))] [] (.tup [chpA x2,rsX r st,.lit (.bool true)]) []) :
    FnS Tryz.prog 24 [.ptr 0 0 0,cmX k ins p1 p2 d ex] [.li 64 [lnA l]] (.tup [rsX r st,.lit (.bool true)]) [.li 64 [lnA ⟨x2,l.e,l.c,l.n,false⟩]]:=by
  unfold cmX at hF ⊢;have hs:=sgQsp_ok hF;have o1:=eq_true hk.1;have o2:=eq_true hk.2;have o3:=eq_true hk2.1;have o4:=eq_true hk2.2;have hm2:=eq_true (TrC_ln (l:=⟨x2,l.e,l.c,l.n,false⟩) hk2);unfold lnA chpL perL;simp only [i0,List.cons_append,List.nil_append];refine fo Tryz.func24 84 fun X hX=>?_;refine up 2 ?_;refine rK hs fun K hK=>?_;simp only [go_sem,hsec]
  refine eK ?_;refine up 1 ?_;refine WA.drawnK mixed_ ty_ok hs (tbl:=[[],[0],[0,1],[0,1,2],[],[0,1,2,3,4],[0,1,2,3,4,5],[0,1,2,3,4,5,6],[0,1,2,3,4,5,6],[0,1,2,3,4,5,6],[],[],[0,1,2,3,4,5,6,7,10,11],[0,1,2,3,4,5,6,7,8,10,11,12],[0,1,2,3,4,5,6,7,8,9,10,11,12,13]]) (nb:=[3,4,5,12,13]) (by kernel_rfl) fun K hK=>?_;simp only [go_sem,sgQsp,chpL,perL,i0,List.cons_append,List.nil_append,o1,o2,o3,o4,Fil.Tr_fls,Fil.Tr_aps]
  refine eK ?_;refine up 1 ?_;refine WA.sb 0 (xs':=[lnA ⟨x2,l.e,l.c,l.n,false⟩]) rfl ?hw ?_
  case hw =>
    refine ⟨?_,rfl⟩;simp only [lnA,chpL,perL,i0,AV.cl,List.cons_append,List.nil_append];repeat first | exact rfl | refine ⟨Wk.by_,?_⟩ | refine ⟨Wk.rfl_ _,?_⟩
  refine up 1 ?_;refine rE [rsX r st,.lit (.bool true)] [.li 64 [lnA ⟨x2,l.e,l.c,l.n,false⟩]] [.cell 4 65,.tmp 5] ?_;simp only [go_sem,sbT,rsX,hm2]
def sgQss (x x2:Chp) (e c:List UInt8) (n n2 n3:Int) (k w:List AV) (r:List UInt8) (st:Int) (o:List UInt8) (st2:Int):Sg:=fun f args ls =>
  match f,args,ls with
  | 14,[.agg [.by_ e',.by_ c',.lit (.int .i64 n')],.agg k'],[]=>some (.tup [.agg w,.agg [.by_ e,.by_ c,.lit (.int .i64 n2)],.lit (.int .i64 0)],[],(e'=e∧c'=c∧n'=n)∧k'=k)
  | 13,[.agg l,.agg c',.lit (.int .i64 z)],[]=>some (.tup [.agg (chpL x2),.agg [.by_ r,.lit (.int .i64 st)],.lit (.bool true)],[],l=chpL x∧c'=w∧z = -1)
  | 47,[.agg [.by_ e',.by_ c',.lit (.int .i64 n')],.agg [.by_ r',.lit (.int .i64 st')]],[]=>some (.tup [.agg [.by_ o,.lit (.int .i64 st2)],.agg [.by_ e,.by_ c,.lit (.int .i64 n3)],.lit (.int .i64 0)],[],(e'=e∧c'=c∧n'=n2)∧r'=r∧st'=st)
  | _,_,_=>none
theorem sgQss_ok {x x2:Chp} {e c:List UInt8} {n n2 n3:Int} {k w:List AV} {r:List UInt8} {st:Int} {o:List UInt8} {st2:Int}
    (hW:FnS Tryz.prog 14 [ssA e c n,.agg k] [] (.tup [.agg w,ssA e c n2,.lit (.int .i64 0)]) [])
    (hA:FnS Tryz.prog 13 [chpA x,.agg w,.lit (.int .i64 (-1))] [] (.tup [chpA x2,rsX r st,.lit (.bool true)]) [])
    (hO:FnS Tryz.prog 47 [ssA e c n2,rsX r st] [] (.tup [rsX o st2,ssA e c n3,.lit (.int .i64 0)]) []):SgOK Tryz.prog (sgQss x x2 e c n n2 n3 k w r st o st2):=by
  intro f args ls r ls' vc h hvc;unfold sgQss at h;split at h <;> cases h
  · obtain ⟨⟨rfl,rfl,rfl⟩,rfl⟩:=hvc;exact ⟨(fnOK Tryz.func14 (by decide) rfl),hW⟩
  · obtain ⟨rfl,rfl,rfl⟩:=hvc;exact ⟨(fnOK Tryz.func13 (by decide) rfl),hA⟩
  · obtain ⟨⟨rfl,rfl,rfl⟩,rfl,rfl⟩:=hvc;exact ⟨(fnOK Tryz.func47 (by decide) rfl),hO⟩
theorem send_sec (l:Ln) (x2:Chp) (k ins p1 p2 ex:Int) (d:List UInt8) (k' ins' p1' p2' ex':Int) (d':List UInt8) (n2 n3:Int) (r:List UInt8) (st:Int) (o:List UInt8) (st2:Int) (hk:PerOK l.x.p) (hk2:PerOK x2.p) (hsec:l.sec=true)
    (hW:FnS Tryz.prog 14 [ssA l.e l.c l.n,cmX k ins p1 p2 d ex] [] (.tup [cmX k' ins' p1' p2' d' ex',ssA l.e l.c n2,.lit (.int .i64 0)]) [])
    (hA:FnS Tryz.prog 13 [chpA l.x,cmX k' ins' p1' p2' d' ex',.lit (.int .i64 (-1))] [] (.tup [chpA x2,rsX r st,.lit (.bool true)]) [])
    (hO:FnS Tryz.prog 47 [ssA l.e l.c n2,rsX r st] [] (.tup [rsX o st2,ssA l.e l.c n3,.lit (.int .i64 0)]) []) :
    FnS Tryz.prog 24 [.ptr 0 0 0,cmX k ins p1 p2 d ex] [.li 64 [lnA l]] (.tup [rsX o st2,.lit (.bool true)]) [.li 64 [lnA ⟨x2,l.e,l.c,n3,true⟩]]:=by
  unfold cmX at hW hA ⊢;have hs:=sgQss_ok hW hA hO;have o1:=eq_true hk.1;have o2:=eq_true hk.2;have o3:=eq_true hk2.1;have o4:=eq_true hk2.2;have z0:((0:Int) != 0)=false:=by decide
  have z1:((0:Int) == 0)=true:=by decide
  have hm2:=eq_true (TrC_ln (l:=⟨x2,l.e,l.c,n3,true⟩) hk2);unfold lnA chpL perL;simp only [i0,List.cons_append,List.nil_append];refine fo Tryz.func24 84 fun X hX=>?_;refine up 2 ?_;refine rK hs fun K hK=>?_;simp only [go_sem,hsec]
  refine eK ?_;refine up 2 ?_
  refine WA.drawnK mixed_ ty_ok hs (tbl:=[[],[0],[0,1],[0,1,2],[],[0,1,2,3,4],[0,1,2,3,4,5],[0,1,2,3,4,5,6],[0,1,2,3,4,5,6],[0,1,2,3,4,5,6],[],[],[0,1,2,3,4,5,6,7,10,11],[0,1,2,3,4,5,6,7,8,10,11,12],[0,1,2,3,4,5,6,7,8,9,10,11,12,13]]) (nb:=[3,4,5,12,13]) (by kernel_rfl) fun K hK=>?_;simp only [go_sem,sgQss]
  refine eK ?_;refine WA.drawnK mixed_ ty_ok hs (tbl:=[[],[0],[0,1],[0,1,2],[],[0,1,2,3,4],[0,1,2,3,4,5],[0,1,2,3,4,5,6],[0,1,2,3,4,5,6],[0,1,2,3,4,5,6],[],[],[0,1,2,3,4,5,6,7,10,11],[0,1,2,3,4,5,6,7,8,10,11,12],[0,1,2,3,4,5,6,7,8,9,10,11,12,13]]) (nb:=[3,4,5,12,13]) (by kernel_rfl) fun K hK=>?_;simp only [go_sem,sgQss,chpL,perL,i0,List.cons_append,List.nil_append,o1,o2,o3,o4,Fil.Tr_fls,Fil.Tr_aps]
  refine eK ?_;refine up 2 ?_;refine rK hs fun K hK=>?_;simp only [go_sem,z0]
  refine eK ?_;refine up 2 ?_
  refine rK hs fun K hK=>?_;simp only [go_sem,sgQss]
  refine eK ?_;refine up 1 ?_;refine WA.sb 0 (xs':=[lnA ⟨x2,l.e,l.c,n3,true⟩]) rfl ?hw ?_
  case hw =>
    refine ⟨?_,rfl⟩;simp only [lnA,chpL,perL,i0,AV.cl,List.cons_append,List.nil_append];repeat first | exact rfl | refine ⟨Wk.by_,?_⟩ | refine ⟨Wk.rfl_ _,?_⟩
  refine rK hs fun K hK=>?_;simp only [go_sem,z1]
  refine eK ?_;refine rE [rsX o st2,.lit (.bool true)] [.li 64 [lnA ⟨x2,l.e,l.c,n3,true⟩]] [.cell 4 65,.tmp 5] ?_;simp only [go_sem,sbT,rsX,hm2]
theorem challenge_t:FnS Tryz.prog 25 [] [] (cmX 0 132 0 0 [] 8) []:=by
  have hs:=sg0_ok;refine fo Tryz.func25 2 fun X hX=>?_;refine up 2 ?_;refine rE [cmX 0 132 0 0 [] 8] [] [.cell 0 25] ?_;simp only [go_sem,sbT,cmX];all_goals exact agA
def sgQxe (g:FuncId) (m m2:Mc) (c:List AV) (r:List UInt8) (st:Int):Sg:=fun f args ls =>
  match args,ls with
  | [.ptr 0 0 0,.agg c'],[.li 70 [y]]=>if f=g then some (.agg [.by_ r,.lit (.int .i64 st)],[.li 70 [mcA m2]],c'=c∧y=mcA m) else none
  | _,_=>none
theorem sgQxe_ok {g:FuncId} {m m2:Mc} {c:List AV} {r:List UInt8} {st:Int} (hO:FnOK Tryz.prog g) (hF:FnS Tryz.prog g [.ptr 0 0 0,.agg c] [.li 70 [mcA m]] (rsX r st) [.li 70 [mcA m2]]):SgOK Tryz.prog (sgQxe g m m2 c r st):=by
  intro f args ls rr ls' vc h hvc;unfold sgQxe at h;split at h
  · split at h
    · rename_i hfg;subst hfg;simp only [Option.some.injEq,Prod.mk.injEq] at h;obtain ⟨rfl,rfl,rfl⟩:=h;obtain ⟨rfl,rfl⟩:=hvc;exact ⟨hO,hF⟩
    · cases h
  · cases h
theorem execute_c (m m2:Mc) (a ins p1 p2 x:Int) (d r:List UInt8) (st:Int) (g:FuncId) (i:Nat) (h:MOK m) (h2:MOK m2) (hO:FnOK Tryz.prog g)
    (hg:∀ V:FuncId→Value,Instr.findNow (.int .i64) (.int .i64 ins) [⟨.int .i64 164,V 146,0⟩,⟨.int .i64 176,V 147,1⟩,⟨.int .i64 132,V 148,2⟩,⟨.int .i64 130,V 149,3⟩,⟨.int .i64 34,V 150,4⟩,⟨.int .i64 134,V 151,5⟩,⟨.int .i64 42,V 152,6⟩,⟨.int .i64 136,V 153,7⟩,⟨.int .i64 44,V 154,8⟩] 0=some (some (i,V g)))
    (hF:FnS Tryz.prog g [.ptr 0 0 0,cmX a ins p1 p2 d x] [.li 70 [mcA m]] (rsX r st) [.li 70 [mcA m2]]) :
    FnS Tryz.prog 107 [.ptr 0 0 0,cmX a ins p1 p2 d x] [.li 70 [mcA m]] (rsX r st) [.li 70 [mcA m2]]:=by
  have hs:=sg0_ok;have hm:=eq_true (TrC_mc h);have hm2:=eq_true (TrC_mc h2);unfold cmX at hF ⊢;refine fo Tryz.func107 35 fun X hX=>?_;have hn:0<X.nl:=by rw [hX];simp
  refine up 1 ?_;refine WL.region ?_;refine WL.mk rfl rfl rfl (show (6:Nat)<35 by decide) fun b hb hnb=>?_;refine WL.ev2 ty_ok hs fun K hK=>?_;simp only [go_sem,true_and]
  refine eK ?_;refine WL.ins hb hnb rfl rfl rfl Tryz.underlying234 Tryz.underlying3 rfl rfl hn rfl ?_;refine WL.ev2 ty_ok hs fun K hK=>?_;simp only [go_sem,true_and]
  refine eK ?_;refine WL.ins hb hnb rfl rfl rfl Tryz.underlying234 Tryz.underlying3 rfl rfl hn rfl ?_;refine WL.ev2 ty_ok hs fun K hK=>?_;simp only [go_sem,true_and]
  refine eK ?_;refine WL.ins hb hnb rfl rfl rfl Tryz.underlying234 Tryz.underlying3 rfl rfl hn rfl ?_;refine WL.ev2 ty_ok hs fun K hK=>?_;simp only [go_sem,true_and]
  refine eK ?_;refine WL.ins hb hnb rfl rfl rfl Tryz.underlying234 Tryz.underlying3 rfl rfl hn rfl ?_;refine WL.ev2 ty_ok hs fun K hK=>?_;simp only [go_sem,true_and]
  refine eK ?_;refine WL.ins hb hnb rfl rfl rfl Tryz.underlying234 Tryz.underlying3 rfl rfl hn rfl ?_;refine WL.ev2 ty_ok hs fun K hK=>?_;simp only [go_sem,true_and]
  refine eK ?_;refine WL.ins hb hnb rfl rfl rfl Tryz.underlying234 Tryz.underlying3 rfl rfl hn rfl ?_;refine WL.ev2 ty_ok hs fun K hK=>?_;simp only [go_sem,true_and]
  refine eK ?_;refine WL.ins hb hnb rfl rfl rfl Tryz.underlying234 Tryz.underlying3 rfl rfl hn rfl ?_;refine WL.ev2 ty_ok hs fun K hK=>?_;simp only [go_sem,true_and]
  refine eK ?_;refine WL.ins hb hnb rfl rfl rfl Tryz.underlying234 Tryz.underlying3 rfl rfl hn rfl ?_;refine WL.ev2 ty_ok hs fun K hK=>?_;simp only [go_sem,true_and]
  refine eK ?_;refine WL.ins hb hnb rfl rfl rfl Tryz.underlying234 Tryz.underlying3 rfl rfl hn rfl ?_;refine WL.ev3 ty_ok hs fun K hK=>?_;simp only [go_sem,true_and]
  refine eK ?_;refine WL.get rfl rfl rfl (show (28:Nat)<35 by decide) Tryz.underlying234 Tryz.underlying3 rfl rfl hn (hg (bmV X)) ?_;refine WL.ev1 ty_ok hs fun K hK=>?_;simp only [go_sem,true_and]
  refine eK ?_;refine WL.nil ?_;refine up 1 ?_;refine WL.region ?_;refine WL.ev1 ty_ok hs fun K hK=>?_;simp only [go_sem,true_and]
  refine eK ?_;refine WL.notNil rfl rfl rfl (show (30:Nat)<35 by decide) Tryz.underlying110 rfl ?_;refine WL.nil ?_;refine up 2 ?_
  refine (fun (hs:SgOK Tryz.prog (sgQxe g m m2 _ r st))=>?_) (sgQxe_ok hO hF);refine rK hs fun K hK=>?_;simp only [go_sem,sgQxe,hm,hm2]
  refine eK ?_;refine rE [rsX r st] [.li 70 [mcA m2]] [.cell 4 65] ?_;simp only [go_sem,sbT,rsX,hm2]
end Go.Proofs.YtjjkfpbkmhfckaaGreatDoor
