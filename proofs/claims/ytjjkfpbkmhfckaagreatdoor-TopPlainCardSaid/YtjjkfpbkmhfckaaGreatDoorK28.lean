import Derived.Test.YtjjkfpbkmhfckaaGreatDoorK27
import Derived.Test.YtjjkfpbkmhfckaaGreatDoorK26
import Derived.Test.YtjjkfpbkmhfckaaGreatDoorK08
set_option linter.unusedVariables false
set_option linter.unusedSimpArgs false
set_option maxHeartbeats 1000000
set_option maxRecDepth 10000
namespace Go.Proofs.YtjjkfpbkmhfckaaGreatDoor
open Go.RowKit Go.TravelBase Go.TravelAbs
section
attribute [local irreducible] digB keyB sealB chkB openB codeB enc1 padB drwB nxtB seedB msB ctrN seX
def sgQen (l l1 l2:Ln) (z:ByteArray) (own half rn rep:List UInt8) (e c:List UInt8) (n:Int):Sg:=fun f args ls =>
  match f,args,ls with
  | 24,[.ptr 0 0 0,.agg [.lit (.int .i64 _),.lit (.int .i64 i),.lit (.int .i64 _),.lit (.int .i64 _),.by_ d,.lit (.int .i64 x)]],[.li 64 [y]]=>if i=132 then some (.tup [.agg [.by_ rn,.lit (.int .i64 36864)],.lit (.bool true)],[.li 64 [lnA l1]],y=lnA l∧args=[.ptr 0 0 0,cmX 0 132 0 0 [] 8]) else some (.tup [.agg [.by_ rep,.lit (.int .i64 36864)],.lit (.bool true)],[.li 64 [lnA l2]],y=lnA l1∧args=[.ptr 0 0 0,cmX 0 130 0 0 (msB (seedB z.data.toList) own rn half) 40])
  | 25,[],[]=>some (.agg [.lit (.int .i64 0),.lit (.int .i64 132),.lit (.int .i64 0),.lit (.int .i64 0),.by_ [],.lit (.int .i64 8)],[],True)
  | 26,[.lit (.string s)],[]=>some (.by_ (seedB s.data.toList),[],s.data.toList.length≤1000000)
  | 27,[.by_ s,.by_ ch,.by_ o,.by_ h],[]=>some (.tup [.by_ (msB s o ch h),.lit (.int .i64 0)],[],s=seedB z.data.toList∧ch=rn∧o=own∧h=half)
  | 28,[.by_ s,.by_ ch,.by_ o,.by_ h,.by_ r],[]=>some (.tup [.agg [.by_ e,.by_ c,.lit (.int .i64 n)],.lit (.int .i64 0)],[],s=seedB z.data.toList∧ch=rn∧o=own∧h=half∧r=rep)
  | _,_,_=>none
theorem sgQen_ok {l l1 l2:Ln} {z:ByteArray} {own half rn rep:List UInt8} {e c:List UInt8} {n:Int}
    (h1:FnS Tryz.prog 24 [.ptr 0 0 0,cmX 0 132 0 0 [] 8] [.li 64 [lnA l]] (.tup [rsX rn 36864,.lit (.bool true)]) [.li 64 [lnA l1]])
    (h2:FnS Tryz.prog 24 [.ptr 0 0 0,cmX 0 130 0 0 (msB (seedB z.data.toList) own rn half) 40] [.li 64 [lnA l1]] (.tup [rsX rep 36864,.lit (.bool true)]) [.li 64 [lnA l2]])
    (h3:FnS Tryz.prog 27 [.by_ (seedB z.data.toList),.by_ rn,.by_ own,.by_ half] [] (.tup [.by_ (msB (seedB z.data.toList) own rn half),.lit (.int .i64 0)]) [])
    (h4:FnS Tryz.prog 28 [.by_ (seedB z.data.toList),.by_ rn,.by_ own,.by_ half,.by_ rep] [] (.tup [ssA e c n,.lit (.int .i64 0)]) []):SgOK Tryz.prog (sgQen l l1 l2 z own half rn rep e c n):=by
  intro f args ls r ls' vc h hvc;unfold sgQen at h;split at h
  · split at h
    · simp only [Option.some.injEq,Prod.mk.injEq] at h;obtain ⟨rfl,rfl,rfl⟩:=h;obtain ⟨rfl,hc⟩:=hvc;rw [hc];exact ⟨(fnOK Tryz.func24 (by decide) rfl),h1⟩
    · simp only [Option.some.injEq,Prod.mk.injEq] at h;obtain ⟨rfl,rfl,rfl⟩:=h;obtain ⟨rfl,hc⟩:=hvc;rw [hc];exact ⟨(fnOK Tryz.func24 (by decide) rfl),h2⟩
  · simp only [Option.some.injEq,Prod.mk.injEq] at h;obtain ⟨rfl,rfl,rfl⟩:=h;exact ⟨(fnOK Tryz.func25 (by decide) rfl),challenge_t⟩
  · simp only [Option.some.injEq,Prod.mk.injEq] at h;obtain ⟨rfl,rfl,rfl⟩:=h;exact ⟨(fnOK Tryz.func26 (by decide) rfl),seed_s _ hvc⟩
  · simp only [Option.some.injEq,Prod.mk.injEq] at h;obtain ⟨rfl,rfl,rfl⟩:=h;obtain ⟨rfl,rfl,rfl,rfl⟩:=hvc;exact ⟨(fnOK Tryz.func27 (by decide) rfl),h3⟩
  · simp only [Option.some.injEq,Prod.mk.injEq] at h;obtain ⟨rfl,rfl,rfl⟩:=h;obtain ⟨rfl,rfl,rfl,rfl,rfl⟩:=hvc;exact ⟨(fnOK Tryz.func28 (by decide) rfl),h4⟩
  · cases h
theorem enter_t (l l1 l2:Ln) (z:ByteArray) (own half rn rep:List UInt8) (e c:List UInt8) (n:Int) (hz:z.data.toList.length≤1000000) (hk:PerOK l.x.p) (hk1:PerOK l1.x.p) (hk2:PerOK l2.x.p)
    (h1:FnS Tryz.prog 24 [.ptr 0 0 0,cmX 0 132 0 0 [] 8] [.li 64 [lnA l]] (.tup [rsX rn 36864,.lit (.bool true)]) [.li 64 [lnA l1]])
    (h2:FnS Tryz.prog 24 [.ptr 0 0 0,cmX 0 130 0 0 (msB (seedB z.data.toList) own rn half) 40] [.li 64 [lnA l1]] (.tup [rsX rep 36864,.lit (.bool true)]) [.li 64 [lnA l2]])
    (h3:FnS Tryz.prog 27 [.by_ (seedB z.data.toList),.by_ rn,.by_ own,.by_ half] [] (.tup [.by_ (msB (seedB z.data.toList) own rn half),.lit (.int .i64 0)]) [])
    (h4:FnS Tryz.prog 28 [.by_ (seedB z.data.toList),.by_ rn,.by_ own,.by_ half,.by_ rep] [] (.tup [ssA e c n,.lit (.int .i64 0)]) []) :
    FnS Tryz.prog 9 [.ptr 0 0 0,.lit (.string z),.by_ own,.by_ half] [.li 64 [lnA l]] (.lit (.bool true)) [.li 64 [lnA ⟨l2.x,e,c,n,true⟩]]:=by
  have hs:=sgQen_ok h1 h2 h3 h4;have hm:=eq_true (TrC_ln hk);have hm1:=eq_true (TrC_ln hk1);have hm2:=eq_true (TrC_ln hk2);have hm3:=eq_true (TrC_ln (l:=⟨l2.x,e,c,n,true⟩) hk2);have z0:((0:Int) != 0)=false:=by decide
  have z1:((0:Int) == 0)=true:=by decide
  refine fo Tryz.func9 81 fun X hX=>?_;refine up 1 ?_;refine rK hs fun K hK=>?_;simp only [go_sem,sgQen,hm,hm1,cmX]
  refine eK ?_;refine up 4 ?_
  refine rK hs fun K hK=>?_;simp only [go_sem,sgQen,hz]
  refine eK ?_;refine rK hs fun K hK=>?_;simp only [go_sem,sgQen]
  refine eK ?_;refine rK hs fun K hK=>?_;simp only [go_sem,sgQen,hm1,hm2,cmX]
  refine eK ?_;refine rK hs fun K hK=>?_;simp only [go_sem,sgQen]
  refine eK ?_;refine rK hs fun K hK=>?_;simp only [go_sem,lnA,chpL,perL,i0,List.cons_append,List.nil_append]
  refine eK ?_;refine WA.sb 0 (xs':=[lnA ⟨l2.x,e,c,n,true⟩]) rfl ?hw ?_
  case hw =>
    refine ⟨?_,rfl⟩;simp only [lnA,chpL,perL,i0,AV.cl,List.cons_append,List.nil_append];repeat first | exact rfl | refine ⟨Wk.by_,?_⟩ | refine ⟨Wk.rfl_ _,?_⟩
  have z2:((36864:Int) == 36864)=true:=by decide
  refine rK hs fun K hK=>?_;simp only [go_sem,z1,z2]
  refine eK ?_;refine rE [.lit (.bool true)] [.li 64 [lnA ⟨l2.x,e,c,n,true⟩]] [.tmp 8] ?_;simp only [go_sem,sbT,hm3]
def sgQse (l l2:Ln) (k:List AV) (r:List UInt8) (st:Int):Sg:=fun f args ls =>
  match f,args,ls with
  | 24,[.ptr 0 0 0,.agg k'],[.li 64 [y]]=>some (.tup [.agg [.by_ r,.lit (.int .i64 st)],.lit (.bool true)],[.li 64 [lnA l2]],k'=k∧y=lnA l)
  | _,_,_=>none
theorem sgQse_ok {l l2:Ln} {k:List AV} {r:List UInt8} {st:Int} (h:FnS Tryz.prog 24 [.ptr 0 0 0,.agg k] [.li 64 [lnA l]] (.tup [rsX r st,.lit (.bool true)]) [.li 64 [lnA l2]]):SgOK Tryz.prog (sgQse l l2 k r st):=by
  intro f args ls r ls' vc h hvc;unfold sgQse at h;split at h <;> cases h
  obtain ⟨rfl,rfl⟩:=hvc;exact ⟨(fnOK Tryz.func24 (by decide) rfl),h⟩
theorem choose_t (l l2:Ln) (hk:PerOK l.x.p) (hk2:PerOK l2.x.p)
    (h:FnS Tryz.prog 24 [.ptr 0 0 0,cmX 0 164 4 12 [160,0,0] (-1)] [.li 64 [lnA l]] (.tup [rsX [] 36864,.lit (.bool true)]) [.li 64 [lnA l2]]) :
    FnS Tryz.prog 11 [.ptr 0 0 0] [.li 64 [lnA l]] (.lit (.bool true)) [.li 64 [lnA l2]]:=by
  unfold cmX at h;have hs:=sgQse_ok h;have hm:=eq_true (TrC_ln hk);have hm2:=eq_true (TrC_ln hk2);have z2:((36864:Int) == 36864)=true:=by decide
  have t1:List.take 3 [(160:UInt8),0,0]=[160,0,0]:=rfl;refine fo Tryz.func11 18 fun X hX=>?_;refine up 1 ?_;refine rK hs fun K hK=>?_;simp only [go_sem,sgQse,hm,hm2,t1]
  refine eK ?_;refine rK hs fun K hK=>?_;simp only [go_sem,z2]
  refine eK ?_;refine rE [.lit (.bool true)] [.li 64 [lnA l2]] [.tmp 2] ?_;simp only [go_sem,sbT,hm2]
theorem Wk.aggC {a b:List AV} (h:WkC a b):Wk (.agg a) (.agg b):=fun w S m v hv=>by
  obtain ⟨h1,h2⟩:=WkC.at_ h;cases hv with
  | agg hl hh =>
    refine .agg (by omega) fun j y u hy hu=>?_;have hj:j<a.length:=by rw [h1];exact (List.getElem?_eq_some_iff.1 hy).1
    exact h2 j a[j] y (List.getElem?_eq_getElem hj) hy w S m u (hh j a[j] u (List.getElem?_eq_getElem hj) hu)
theorem FnS.wkArg {P:Program} {f:FuncId} {a b ls ls':List AV} {x x' r:AV} (hw:Wk x x') (h:FnS P f (a++x'::b) ls r ls'):FnS P f (a++x::b) ls r ls':=by
  intro w S rows vs h1 hg h2 h3 h4 h5;refine h w S rows vs h1 hg (by rw [h2];simp) (fun j y v hy hv=>?_) h4 h5;rcases Nat.lt_trichotomy j a.length with hj | hj | hj
  · refine h3 j y v ?_ hv;rw [List.getElem?_append_left hj] at hy ⊢;exact hy
  · subst hj;simp at hy;subst hy;exact hw _ _ _ _ (h3 a.length x v (by simp) hv)
  · refine h3 j y v ?_ hv;rw [List.getElem?_append_right (by omega)] at hy ⊢;have:j-a.length=(j-a.length-1)+1:=by omega
    rw [this] at hy ⊢;simpa using hy
theorem read_t (l l2:Ln) (r:List UInt8) (hr:r.length≤1000) (hk:PerOK l.x.p) (hk2:PerOK l2.x.p)
    (h:FnS Tryz.prog 24 [.ptr 0 0 0,cmX 0 176 129 0 [] 256] [.li 64 [lnA l]] (.tup [rsX r 25218,.lit (.bool true)]) [.li 64 [lnA l2]]) :
    FnS Tryz.prog 15 [.ptr 0 0 0,.lit (.int .i64 1),.lit (.int .i64 256)] [.li 64 [lnA l]] (.tup [.by_ r,.lit (.int .i64 25218)]) [.li 64 [lnA l2]]:=by
  unfold cmX at h;have hwk:Wk (.agg [.lit (.int .i64 0),.lit (.int .i64 176),.lit (.int .i64 129),.lit (.int .i64 0),.lit (.slice none 0 0),.lit (.int .i64 256)]) (.agg [.lit (.int .i64 0),.lit (.int .i64 176),.lit (.int .i64 129),.lit (.int .i64 0),.by_ [],.lit (.int .i64 256)]):=Wk.aggC ⟨Wk.rfl_ _,Wk.rfl_ _,Wk.rfl_ _,Wk.rfl_ _,Wk.by_,Wk.rfl_ _,rfl⟩;have h:=FnS.wkArg (a:=[.ptr 0 0 0]) (b:=[]) hwk h;have hs:=sgQse_ok h;have hm:=eq_true (TrC_ln hk);have hm2:=eq_true (TrC_ln hk2);have z2:((25218:Int) == 36864)=false:=by decide
  have t1:List.take r.length r=r:=List.take_length;refine fo Tryz.func15 64 fun X hX=>?_;refine up 1 ?_;refine rK hs fun K hK=>?_;simp only [go_sem,sgQse,hm,hm2]
  refine eK ?_;refine up 5 ?_;refine rK hs fun K hK=>?_;simp only [go_sem,t1]
  refine eK ?_;refine up 3 ?_;refine WA.unroll 0 ?_;refine up 1 ?_;refine rK hs fun K hK=>?_;simp only [go_sem,z2]
  refine eK ?_;refine up 3 ?_;refine rE [.by_ r,.lit (.int .i64 25218)] [.li 64 [lnA l2]] [.tmp 6,.tmp 7] ?_;simp only [go_sem,sbT,hm2,t1]
end
def newX (p:Per) (s:Ch.Sto):Chp:=⟨p,Mem.e0 (recB p.pr p.ur p.pin s),Mem.e1 (recB p.pr p.ur p.pin s),p.seed,false,0,0,⟨0,false,false,false,0⟩,false,[],[],0,[]⟩
theorem NewK.rec_ {p:Per} {s:Ch.Sto} (h:NewK p s):RecK p.pr p.ur p.pin s:=⟨h.tv,⟨by have:=h.pr.1;omega,h.pr.2⟩,⟨by have:=h.ur.1;omega,h.ur.2⟩,h.pl⟩
theorem new_mem {p:Per} {s:Ch.Sto} (h:NewK p s):ChpK (newX p s)∧KeptK (newX p s) p.pr p.ur p.pin s∧Mem.eE (recB p.pr p.ur p.pin s)=0:=by
  have hr:=(recB_len h.rec_).2;obtain ⟨h1,h2,h3,h4,h5⟩:=Mem.load_empty (recB p.pr p.ur p.pin s) (by omega);have hs:=h.sl;exact ⟨⟨h.k,by show (Mem.e0 _).length≤1000;omega,by show (Mem.e1 _).length≤1000;omega,by show p.seed.length≤1000;omega,Nat.zero_le _,Nat.zero_le _,Nat.zero_le _⟩,⟨h.rec_,h1,h2⟩,h3⟩
def sgQnw (p:Per) (s:Ch.Sto):Sg:=fun f args ls =>
  match f,args,ls with
  | 42,[.agg l],[]=>some (.lit (.int .i64 0),[],l=perL p∧NewK p s)
  | 43,[.agg [.lit (.int .i64 a),.lit (.int .i64 b),.by_ c,.li e xs,.lit (.int .i64 d)]],[]=>some (.tup [.by_ (recB p.pr p.ur p.pin s),.lit (.int .i64 0)],[],NewK p s∧a=p.pr∧b=p.ur∧c=p.pin∧e=5∧xs=s.pts.map Ch.ptA∧d=s.now)
  | 44,[.by_ r],[]=>some (.tup [.agg [.by_ (Mem.e0 r),.by_ (Mem.e1 r)],.lit (.int .i64 (Mem.eE r))],[],True)
  | 45,[.agg l],[]=>some (.agg (perL p),[],l=perL p∧PerK p)
  | 46,[.by_ bs],[]=>some (.fr (.by_ bs),[],bs.length≤140737488355328)
  | _,_,_=>none
theorem sgQnw_ok (p:Per) (s:Ch.Sto):SgOK Tryz.prog (sgQnw p s):=by
  intro f args ls r ls' vc h hvc;unfold sgQnw at h;split at h <;> cases h
  · obtain ⟨rfl,h⟩:=hvc;exact ⟨(fnOK Tryz.func42 (by decide) rfl),cvalid_c p s h⟩
  · obtain ⟨h,rfl,rfl,rfl,rfl,rfl,rfl⟩:=hvc;exact ⟨(fnOK Tryz.func43 (by decide) rfl),encrec_c _ _ _ s h.rec_.pr h.rec_.ur h.rec_.pin h.tv⟩
  · exact ⟨(fnOK Tryz.func44 (by decide) rfl),Mem.empty_s _⟩
  · obtain ⟨rfl,h⟩:=hvc;exact ⟨(fnOK Tryz.func45 (by decide) rfl),cloneper_c p h⟩
  · exact ⟨(fnOK Tryz.func46 (by decide) rfl),sclone_s _ hvc⟩
theorem new_c (p:Per) (s:Ch.Sto) (h:NewK p s):FnS Tryz.prog 22 [.agg (perL p)] [] (.tup [chpA (newX p s),.lit (.int .i64 0)]) []:=by
  have hs:=sgQnw_ok p s;have hk:=h.k;have o1:=eq_true h.k.ok.1;have o2:=eq_true h.k.ok.2;have c5:=h.ps;have c6:=h.da;have he:=(new_mem h).2.2;have hsl:=h.sl;have m1:p.seed.length≤140737488355328:=by omega
  have t1:List.take p.seed.length p.seed=p.seed:=List.take_length;have z0:((0:Int) != 0)=false:=by decide
  have hT:=Ch.Tr_pts s.pts;unfold perL;refine fo Tryz.func22 44 fun X hX=>?_;refine up 2 ?_;refine rK hs fun K hK=>?_;simp only [go_sem,sgQnw,perL,h,o1,o2,Fil.Tr_fls,Fil.Tr_aps]
  refine eK ?_;refine rK hs fun K hK=>?_;simp only [go_sem,z0]
  refine eK ?_;refine up 2 ?_
  refine rK hs fun K hK=>?_;simp only [go_sem,sgQnw,h,c5,c6,hT,o2]
  refine eK ?_;refine rK hs fun K hK=>?_;simp only [go_sem,sgQnw,he]
  refine eK ?_;refine up 1 ?_;refine rK hs fun K hK=>?_;simp only [go_sem,z0]
  refine eK ?_;refine up 2 ?_
  refine WA.drawnK mixed_ ty_ok hs (tbl:=[[],[0],[],[],[3],[0,1,3,4],[0,1,2,3,4,5],[0,1,2,3,4,5,6],[0,1,2,3,4,5,6,7]]) (nb:=[0,1,2,4,5,7]) (by kernel_rfl) fun K hK=>?_;simp only [go_sem,sgQnw,perL,hk,c5,c6,hT,o1,o2,m1,Fil.Tr_fls,Fil.Tr_aps]
  refine eK ?_;refine rE [chpA (newX p s),.lit (.int .i64 0)] [] [.cell 2 63,.tmp 3] ?_;simp only [go_sem,sbT,newX,chpA,chpL,perL,i0,List.cons_append,List.nil_append,c5,c6,hT,t1,o1,o2,Fil.Tr_fls,Fil.Tr_aps];all_goals exact agA
def sgQst (p:Per) (s:Ch.Sto):Sg:=fun f args ls =>
  match f,args,ls with
  | 22,[.agg l],[]=>some (.tup [.agg (chpL (newX p s)),.lit (.int .i64 0)],[],l=perL p∧NewK p s)
  | 23,[.agg l],[]=>some (.agg (chpL (powX (newX p s))),[],l=chpL (newX p s)∧NewK p s)
  | _,_,_=>none
theorem sgQst_ok (p:Per) (s:Ch.Sto):SgOK Tryz.prog (sgQst p s):=by
  intro f args ls r ls' vc h hvc;unfold sgQst at h;split at h <;> cases h
  · obtain ⟨rfl,h⟩:=hvc;exact ⟨(fnOK Tryz.func22 (by decide) rfl),new_c p s h⟩
  · obtain ⟨rfl,h⟩:=hvc;exact ⟨(fnOK Tryz.func23 (by decide) rfl),power_c _ (new_mem h).1⟩
def ln0 (p:Per) (s:Ch.Sto):Ln:=⟨powX (newX p s),[],[],0,false⟩
theorem start_t (p:Per) (s:Ch.Sto) (h:NewK p s):FnS Tryz.prog 8 [.agg (perL p)] [] (.tup [.fr (.opt true (.li 64 [lnA (ln0 p s)])),.lit (.bool true)]) []:=by
  have hs:=sgQst_ok p s;have o1:=eq_true h.k.ok.1;have o2:=eq_true h.k.ok.2;have z1:((0:Int) == 0)=true:=by decide
  have hm:=eq_true (TrC_ln (l:=ln0 p s) h.k.ok);unfold perL;refine fo Tryz.func8 17 fun X hX=>?_;refine up 1 ?_;refine rK hs fun K hK=>?_;simp only [go_sem,sgQst,perL,h,chpL,newX,i0,List.cons_append,List.nil_append,o1,o2,Fil.Tr_fls,Fil.Tr_aps]
  refine eK ?_;refine rK hs fun K hK=>?_;simp only [go_sem,sgQst,perL,h,chpL,newX,powX,offX,i0,List.cons_append,List.nil_append,o1,o2,z1,Fil.Tr_fls,Fil.Tr_aps]
  refine eK ?_;refine WA.sb 2112 (xs':=[lnA (ln0 p s)]) rfl ?hw ?_
  case hw =>
    refine ⟨?_,rfl⟩;simp only [lnA,ln0,powX,offX,newX,chpL,perL,i0,AV.cl,List.cons_append,List.nil_append];repeat first | exact rfl | refine ⟨Wk.by_,?_⟩ | refine ⟨Wk.rfl_ _,?_⟩
  refine rE [.fr (.opt true (.li 64 [lnA (ln0 p s)])),.lit (.bool true)] [] [.tmp 2,.tmp 3] ?_;simp only [go_sem,sbT,hm];all_goals exact agA
def nonced (m:Mc):Mc:={ m with nonce:=m.x.nonce,x:={ m.x with nonce:=[] } }
def sgQch (m m2:Mc) (c:List AV) (r:List UInt8) (st:Int):Sg:=fun f args ls =>
  match f,args,ls with
  | 107,[.ptr 0 0 0,.agg c'],[.li 70 [y]]=>some (.agg [.by_ r,.lit (.int .i64 st)],[.li 70 [mcA m2]],c'=c∧y=mcA m)
  | _,_,_=>none
theorem sgQch_ok {m m2:Mc} {c:List AV} {r:List UInt8} {st:Int} (hF:FnS Tryz.prog 107 [.ptr 0 0 0,.agg c] [.li 70 [mcA m]] (rsX r st) [.li 70 [mcA m2]]):SgOK Tryz.prog (sgQch m m2 c r st):=by
  intro f args ls r ls' vc h hvc;unfold sgQch at h;split at h <;> cases h
  obtain ⟨rfl,rfl⟩:=hvc;exact ⟨(fnOK Tryz.func107 (by decide) rfl),hF⟩
theorem chain_c (m m2:Mc) (ins p1 p2 x:Int) (d r:List UInt8) (st:Int) (h:MOK m) (h2:MOK m2)
    (hF:FnS Tryz.prog 107 [.ptr 0 0 0,cmX 0 ins p1 p2 d x] [.li 70 [mcA (nonced m)]] (rsX r st) [.li 70 [mcA m2]]) :
    FnS Tryz.prog 60 [.ptr 0 0 0,cmX 0 ins p1 p2 d x] [.li 70 [mcA m]] (rsX r st) [.li 70 [mcA m2]]:=by
  unfold cmX at hF ⊢;have hs:=sgQch_ok hF;have hm:=eq_true (TrC_mc h);have hm2:=eq_true (TrC_mc h2);have h3:MOK (nonced m):=h;have hm3:=eq_true (TrC_mc h3);refine fo Tryz.func60 116 fun X hX=>?_;refine up 7 ?_;refine rK hs fun K hK=>?_;simp only [go_sem,mcA,chpL,perL,i0,List.cons_append,List.nil_append]
  refine eK ?_;refine up 3 ?_;refine WA.sb 0 (xs':=[mcA (nonced m)]) rfl ?hw ?_
  case hw =>
    refine ⟨?_,rfl⟩;simp only [mcA,chpL,perL,i0,AV.cl,List.cons_append,List.nil_append,nonced];repeat first | exact rfl | refine ⟨Wk.by_,?_⟩ | refine ⟨Wk.rfl_ _,?_⟩
  refine rK hs fun K hK=>?_;simp only [go_sem,sgQch,hm3,hm2]
  refine eK ?_;refine rE [rsX r st] [.li 70 [mcA m2]] [.cell 4 65] ?_;simp only [go_sem,sbT,rsX,hm2]
def sessd (m:Mc) (e c:List UInt8) (n:Int):Mc:={ m with x:={ m.x with e:=e,c:=c,n:=n } }
def sgQsc (e c:List UInt8) (n:Int) (d:List UInt8) (st:Int) (w:List UInt8) (st2 n2:Int):Sg:=fun f args ls =>
  match f,args,ls with
  | 109,[.agg [.by_ e',.by_ c',.lit (.int .i64 n')],.agg [.by_ d',.lit (.int .i64 st')]],[]=>some (.tup [.agg [.by_ w,.lit (.int .i64 st2)],.agg [.by_ e,.by_ c,.lit (.int .i64 n2)],.lit (.int .i64 0)],[],(e'=e∧c'=c∧n'=n)∧d'=d∧st'=st)
  | _,_,_=>none
theorem sgQsc_ok {e c:List UInt8} {n:Int} {d:List UInt8} {st:Int} {w:List UInt8} {st2 n2:Int} (hF:FnS Tryz.prog 109 [ssA e c n,rsX d st] [] (.tup [rsX w st2,ssA e c n2,.lit (.int .i64 0)]) []):SgOK Tryz.prog (sgQsc e c n d st w st2 n2):=by
  intro f args ls r ls' vc h hvc;unfold sgQsc at h;split at h <;> cases h
  obtain ⟨⟨rfl,rfl,rfl⟩,rfl,rfl⟩:=hvc;exact ⟨(fnOK Tryz.func109 (by decide) rfl),hF⟩
theorem secure_c (m:Mc) (e c:List UInt8) (n:Int) (d:List UInt8) (st:Int) (w:List UInt8) (st2 n2:Int) (h:MOK m) (hfr:m.fresh=false)
    (hF:FnS Tryz.prog 109 [ssA e c n,rsX d st] [] (.tup [rsX w st2,ssA e c n2,.lit (.int .i64 0)]) []) :
    FnS Tryz.prog 63 [.ptr 0 0 0,ssA e c n,rsX d st] [.li 70 [mcA m]] (rsX w st2) [.li 70 [mcA (sessd m e c n2)]]:=by
  have hs:=sgQsc_ok hF;have hm:=eq_true (TrC_mc h);have h3:MOK (sessd m e c n2):=h;have hm3:=eq_true (TrC_mc h3);unfold ssA rsX;refine fo Tryz.func63 38 fun X hX=>?_;refine up 2 ?_;refine rK hs fun K hK=>?_;simp only [go_sem,mcA,chpL,perL,i0,List.cons_append,List.nil_append]
  refine eK ?_;refine up 2 ?_
  refine rK hs fun K hK=>?_;simp only [go_sem,sgQsc]
  refine eK ?_;refine up 5 ?_;refine rK hs fun K hK=>?_;simp only [go_sem,hfr]
  refine eK ?_;refine up 2 ?_
  refine WA.sb 0 (xs':=[mcA (sessd m e c n2)]) rfl ?hw ?_
  case hw =>
    refine ⟨?_,rfl⟩;simp only [mcA,chpL,perL,i0,AV.cl,List.cons_append,List.nil_append,sessd,hfr];repeat first | exact rfl | refine ⟨Wk.by_,?_⟩ | refine ⟨Wk.rfl_ _,?_⟩
  refine up 1 ?_;refine rE [.agg [.by_ w,.lit (.int .i64 st2)]] [.li 70 [mcA (sessd m e c n2)]] [.cell 6 65] ?_;simp only [go_sem,sbT,hm3]
def ptD (n7 n2:Int):Ch.Pt:=⟨[82,79,79,84,49],Ch.pubV 1001,1+n7,100,20000+n2*20000⟩
theorem elt505:Ch.eltB (Ch.pubV 505)=true:=by
  have e:Ch.pubV 505=((Ch.pwN 4 505:Nat):Int):=by
    unfold Ch.pubV;rw [if_pos (by decide)];rfl
  rw [e];exact Ch.elt_pw4 (Ch.not_dvd_lt (by decide) (by decide +kernel))
theorem elt1001:Ch.eltB (Ch.pubV 1001)=true:=by
  have e:Ch.pubV 1001=((Ch.pwN 4 1001:Nat):Int):=by
    unfold Ch.pubV;rw [if_pos (by decide)];rfl
  rw [e];exact Ch.elt_pw4 (Ch.not_dvd_lt (by decide) (by decide +kernel))
theorem sto_ok {n7 n2 nd:Int} (h7:0≤n7∧n7<7) (h2:0≤n2∧n2<2) (hd:0≤nd∧nd<300):Ch.validE ⟨[ptD n7 n2],nd⟩=0:=by
  have e1:Ch.pointE (ptD n7 n2)=0:=by
    unfold Ch.pointE;have q1:Ch.nameB (ptD n7 n2).h=true:=by show Ch.nameB [82,79,79,84,49]=true;decide
    have q2:Ch.eltB (ptD n7 n2).key=true:=elt1001;have q3:Ch.daysB (ptD n7 n2).fr (ptD n7 n2).til=true:=by
      show Ch.daysB 100 (20000+n2*20000)=true;unfold Ch.daysB;simp;omega
    rw [if_neg (by rw [q1];decide),if_neg (by rw [q2];decide),if_neg (by show ¬ (1+n7<0∨65535<1+n7);omega),if_neg (by rw [q3];decide)]
  have e2:Ch.dayB nd=true:=by
    unfold Ch.dayB;simp;omega
  unfold Ch.validE;rw [if_neg (by show ¬ (1<1∨2<1);decide),if_neg (by simp [Ch.firE,e1]),if_neg (by simp [Ch.dupB]),if_neg (by show ¬ (Ch.dayB nd=false);rw [e2];decide)]
theorem FlsK_m {l:List Fil.Fl} (hl:l.length≤1000) (hr:∀ f∈l,FlR f):FlsK l:=⟨hl,fun f hf=>by have:=(hr f hf).2.2;omega⟩
theorem desk_new {rt:List Fil.Fl} {ap:List Fil.Fap} {b0 b1 b2 b3 b4 b5 sd:List UInt8} {n4 n3 sw n7 n2 nd:Int} {bs:Bool} (hr:Made rt) (ha:Mada ap) (h0:b0.length≤60) (h1:b1.length≤60) (h2:b2.length≤60) (h3:b3.length≤60) (h4:b4.length≤60) (h5:b5.length≤60)
    (hn4:0≤n4∧n4<4) (hn3:0≤n3∧n3<3) (hn7:0≤n7∧n7<7) (hn2:0≤n2∧n2<2) (hnd:0≤nd∧nd<300) (hsd:sd.length≤8):NewK (mkP rt ap b0 b1 b2 b3 b4 b5 n4 n3 bs sw n7 n2 nd sd) ⟨[ptD n7 n2],nd⟩:=by
  have hrl:=hr.1;have hal:=ha.1;have hi:(inD sw (Ch.pubV 505))=l4 (Ch.pubV 505)∨(inD sw (Ch.pubV 505))=l3 (Ch.pubV 505):=by
    unfold inD;split
    · exact .inr rfl
    · exact .inl rfl
  have hz:(zoD sw).size≤24:=by
    unfold zoD;split <;> decide
  have hp1:(piD sw).length≤5:=by
    unfold piD;split <;> decide
  have hp2:(puD sw).length≤4:=by
    unfold puD;split <;> decide
  have hc1:0≤ckD sw∧ckD sw<1073741789:=by
    unfold ckD;split <;> decide
  have hc2:0≤akD sw∧akD sw<1073741789:=by
    unfold akD;split <;> decide
  have hli:(inD sw (Ch.pubV 505)).length≤4:=by
    rcases hi with h | h <;> rw [h] <;> exact Nat.le_of_ble_eq_true rfl
  have hd5:∀ f∈desk5 b1 b2 b3 b4 b5,FlR f:=fun f hf=>by
    simp only [desk5,List.mem_cons,List.not_mem_nil,or_false] at hf;rcases hf with rfl | rfl | rfl | rfl | rfl <;> exact flR_mk (by decide) (by decide) (by first | omega | (simp;omega))
  refine ⟨⟨⟨inD sw (Ch.pubV 505),rfl,by omega⟩,⟨[ptD n7 n2],rfl,by show 1≤1000;decide⟩,?_,?_,?_,?_,?_,?_,?_⟩,desk_val hr ha h0 h1 h2 h3 h4 h5,?_,?_,?_,?_,?_,?_,?_,hc1,hc2,rfl,rfl,sto_ok hn7 hn2 hnd,?_,?_⟩
  · refine FlsK_m (by simp [mkP];omega) fun f hf=>?_;rcases List.mem_append.1 hf with hf | hf
    · exact hr.r f hf
    · simp only [List.mem_singleton] at hf;subst hf;exact flR_mk (by decide) (by decide) (by omega)
  · refine ⟨by show ap.length+1≤1000;omega,fun a hx=>?_⟩;rcases List.mem_cons.1 hx with rfl | hx
    · exact ⟨by show 3≤100000;decide,FlsK_m (by show 5≤1000;decide) hd5⟩
    · obtain ⟨i,hi,rfl⟩:=List.getElem_of_mem hx;obtain ⟨q1,q2⟩:=ha.2 i hi;refine ⟨by rw [q1];show 2≤100000;decide,FlsK_m (by have:=q2.1;omega) q2.r⟩
  · show 6≤1000;decide
  · show (piD sw).length≤1000;omega
  · show (puD sw).length≤1000;omega
  · show 9≤1000;decide
  · show sd.length≤1000;omega
  · show (((zoD sw).size:Nat):Int)≤64;omega
  · show 6≤16;decide
  · show (piD sw).length≤16;omega
  · show (puD sw).length≤16;omega
  · show 1≤1+n4∧1+n4≤15;omega
  · show 1≤1+n3∧1+n3≤15;omega
  · refine ⟨Ch.pubV 505,?_,elt505⟩;rcases hi with h | h
    · exact .inl (by show (inD sw (Ch.pubV 505)).map inA=_;rw [h])
    · exact .inr (by show (inD sw (Ch.pubV 505)).map inA=_;rw [h])
  · show 1≤9∧9≤32;decide
  · show sd.length≤64;omega
theorem desk_name {rt:List Fil.Fl} {ap:List Fil.Fap} {b0 b1 b2 b3 b4 b5:List UInt8} (hv:Fil.val (rt++[⟨284,28,b0,0,0⟩]) (deskA ap b1 b2 b3 b4 b5)=0):Fil.namE [160,0,0] (rt++[⟨284,28,b0,0,0⟩]) (deskA ap b1 b2 b3 b4 b5)=0∧Fil.namA [160,0,0] (rt++[⟨284,28,b0,0,0⟩]) (deskA ap b1 b2 b3 b4 b5)=0∧Fil.namF [160,0,0] (rt++[⟨284,28,b0,0,0⟩]) (deskA ap b1 b2 b3 b4 b5) = -1:=by
  have hf:Fil.fdx (Fil.nameP [160,0,0]) (deskA ap b1 b2 b3 b4 b5)=0:=Fil.fdx_yes (i:=0) (by show 0<ap.length+1;omega) (by simp [deskA,Fil.nameP]) fun j hj=>by omega
  unfold Fil.namE Fil.namA Fil.namF;rw [hf];exact ⟨by rw [if_pos hv,if_pos (by decide)],by rw [if_pos ⟨hv,by decide⟩],by rw [if_pos ⟨hv,by decide⟩]⟩
end Go.Proofs.YtjjkfpbkmhfckaaGreatDoor
