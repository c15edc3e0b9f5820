import Derived.Test.YtjjkfpbkmhfckaaGreatDoorMsB
import Derived.Test.YtjjkfpbkmhfckaaGreatDoorK22
import Derived.Test.YtjjkfpbkmhfckaaGreatDoorK06
set_option linter.unusedVariables false
set_option linter.unusedSimpArgs false
set_option maxHeartbeats 1000000
set_option maxRecDepth 10000
namespace Go.Proofs.YtjjkfpbkmhfckaaGreatDoor
open Go.RowKit Go.TravelBase Go.TravelAbs
section
attribute [local irreducible] digB keyB sealB chkB openB codeB enc1 padB
structure Fd where
  tag:Int
  least:Int
  most:Int
  must:Bool
def fdA (f:Fd):AV:=.agg [.lit (.int .i64 f.tag),.lit (.int .i64 f.least),.lit (.int .i64 f.most),.lit (.bool f.must)]
theorem fd_at {l:List Fd} {i:Nat} (h:i<l.length):(l.map fdA).getD i .any = .agg [.lit (.int .i64 l[i].tag),.lit (.int .i64 l[i].least),.lit (.int .i64 l[i].most),.lit (.bool l[i].must)]:=by
  simp [List.getD,List.getElem?_eq_getElem h,fdA]
theorem Tr_fds (l:List Fd):Tr (.li 4 (l.map fdA))=True:=eq_true (Tr.li fun x hx y hy=>by
  obtain ⟨f,_,rfl⟩:=List.mem_map.1 hx;simp only [fdA,AV.cl,List.mem_cons,List.not_mem_nil,or_false] at hy;rcases hy with rfl | rfl | rfl | rfl <;> exact Tr.lit _)
theorem Tr_nds (l:List Int):Tr (.li 1 (l.map iA))=True:=eq_true (Tr.li fun x hx y hy=>by
  obtain ⟨f,_,rfl⟩:=List.mem_map.1 hx;simp only [iA,AV.cl,List.mem_singleton] at hy;subst hy;exact Tr.lit _)
theorem nd_at {l:List Int} {i:Nat} (h:i<l.length):(l.map iA).getD i .any = .lit (.int .i64 l[i]):=by
  simp [List.getD,List.getElem?_eq_getElem h,iA]
theorem find_ex (l:List Ob) (hl:ObK l):∃ F:Int→Ob,∀ t,(∃ x∈l,x.1=t)→FnS Tryz.prog 130 [.li 3 (l.map fnA),.li 1 [.lit (.int .i64 t)]] [] (.tup [fnA (F t),.lit (.bool true)]) []:=by
  classical
  refine ⟨fun t=>if h:∃ x∈l,x.1=t then (tfind_s l t hl h).choose else (0,[]),fun t h=>?_⟩;simp only [dif_pos h];exact (tfind_s l t hl h).choose_spec
def sgOj (l:List Ob) (F:Int→Ob):Sg:=fun f args ls =>
  match f,args,ls with
  | 129,[.by_ b,.lit (.bool true)],[]=>some (.tup [.fr (.li 3 (l.map fnA)),.lit (.int .i64 0)],[],b=obW l)
  | 130,[.li 3 xs,.li 1 [.lit (.int .i64 t)]],[]=>some (.tup [.agg [.lit (.int .i64 (F t).1),.by_ (F t).2,.lit (.slice none 0 0)],.lit (.bool true)],[],xs=l.map fnA ∧ ∃ x∈l,x.1=t)
  | 131,[.by_ b],[]=>some (.lit (.bool true),[],∃ x,b=1::x∧0<x.length∧x.length % 16=0∧x.length≤100000)
  | _,_,_=>none
theorem sgOj_ok (l:List Ob) (hl:ObK l) (F:Int→Ob) (hF:∀ t,(∃ x∈l,x.1=t)→FnS Tryz.prog 130 [.li 3 (l.map fnA),.li 1 [.lit (.int .i64 t)]] [] (.tup [fnA (F t),.lit (.bool true)]) []):SgOK Tryz.prog (sgOj l F):=by
  intro f args ls r ls' vc h hvc;unfold sgOj at h;split at h <;> cases h
  · subst hvc;exact ⟨(fnOK Tryz.func129 (by decide) rfl),tparse_s l hl⟩
  · obtain ⟨rfl,h⟩:=hvc;exact ⟨(fnOK Tryz.func130 (by decide) rfl),hF _ h⟩
  · obtain ⟨x,rfl,h1,h2,h3⟩:=hvc;exact ⟨(fnOK Tryz.func131 (by decide) rfl),block_s x h1 h2 h3⟩
theorem objects_s (l:List Ob) (hl:ObK l) (hp:0<l.length) (nd:List Int) (hnd:∀ t∈nd,∃ x∈l,x.1=t) (hnl:nd.length≤10) (fs:List Fd) (hfl:fs.length≤10) (a:Nat→Nat) (V:Nat→List AV)
    (ha0:a 0=0) (hV0:V 0=List.replicate fs.length (.lit (.slice none 0 0))) (hend:a fs.length=l.length) (hVl:∀ i,(V i).length=fs.length) (hVt:∀ i,TrC (.li 1 (V i))) (hVn:∀ i,i<fs.length→(V i).getD i .any = .lit (.slice none 0 0))
    (hstep:∀ i (hi:i<fs.length),(∃ hx:a i<l.length,l[a i].1=fs[i].tag∧fs[i].least≤l[a i].2.length∧(l[a i].2.length:Int)≤fs[i].most∧(fs[i].tag=135 → ∃ x,l[a i].2=1::x∧0<x.length∧x.length % 16=0)∧a (i+1)=a i+1∧V (i+1)=(V i).set i (.by_ l[a i].2)) ∨
      ((∀ hx:a i<l.length,l[a i].1 ≠ fs[i].tag)∧a i≤l.length∧fs[i].must=false∧a (i+1)=a i∧V (i+1)=V i)) :
    FnS Tryz.prog 87 [.by_ (obW l),.li 1 (nd.map iA),.li 4 (fs.map fdA)] [] (.tup [.fr (.li 1 (V fs.length)),.li 3 ((l.take (l.length-1)).map fnA),.lit (.int .i64 0)]) []:=by
  obtain ⟨F,hF⟩:=find_ex l hl;have hs:=sgOj_ok l hl F hF;have hn:=hl.1;have hT:=Tr_fns l;have hTd:=Tr_fds fs;have hTn:=Tr_nds nd;have hTC:=eq_true (TrC_fns l);have tl:List.take l.length (l.map fnA)=l.map fnA:=List.take_of_length_le (by simp);refine fo Tryz.func87 117 fun X hX=>?_;refine up 1 ?_;refine rK hs fun K hK=>?_;simp only [go_sem,sgOj]
  refine eK ?_;refine up 4 ?_
  refine WA.normT 9 fun K hK=>?_;simp only [go_sem,hTC,tl,List.length_map]
  refine eK ?_;refine up 1 ?_;refine rK hs fun K hK=>?_;simp only [go_sem,List.length_map]
  refine eK ?_;refine up 1 ?_;refine WA.loopW hX (fun k=>k) ((fun (i:Nat)=>⟨[(2,.li 4 (fs.map fdA)),(6,.lit (.slice none 0 0)),(7,.lit (.slice none 0 0)),(8,.lit (.int .i64 0)),(9,.li 3 (l.map fnA)),(27,.li 1 (nd.map iA)),(28,.lit (.int .i64 (nd.length:Nat))),(29,.lit (.int .i64 (i:Nat)))],[],4000,117⟩:_→St)) (fun i=>nd.length-i) (fun i=>i≤nd.length) (i0:=0) (Nat.zero_le _) (by simp only [go_sem,Int.natCast_add,Int.natCast_zero,hT,hTd,hTn] <;> (try and_intros) <;> (try omega)) fun i hi=>?_
  refine up 2 ?_;refine WA.cond rfl (fun h=>?_) (fun h=>?_)
  ·
    have h:i<nd.length:=by first | (simp [true_and] at h;omega) | (simp [true_and] at h;exact h) | omega | simpa using h
    have g:=nd_at h;have hex:=eq_true (hnd _ (List.getElem_mem h));refine up 3 ?_;refine rK hs fun K hK=>?_;simp only [go_sem,g,List.length_map]
    refine eK ?_;refine rK hs fun K hK=>?_;simp only [go_sem,sgOj,hex,hT]
    refine eK ?_;refine up 3 ?_
    refine WA.regionE ty_ok hs fun K hK=>?_;simp only [go_sem,true_and]
    (repeat refine sdA ?_);refine hK _ (roundE hX (fun k=>k) (j:=i+1) (by omega) (by first | omega | (dsimp only;omega) | (simp;omega)) (by simp only [go_sem,Int.natCast_add,hT,hTd,hTn] <;> (try and_intros) <;> (try omega)))
  ·
    have h:¬ i<nd.length:=by first | (simp [true_and] at h;omega) | (simp [true_and] at h;exact h) | omega | simpa using h
    obtain rfl:i=nd.length:=by omega
    have lc:((fs.length:Nat):Int).toNat=fs.length:=Int.toNat_natCast _;refine up 1 ?_
    refine rK hs fun K hK=>?_;simp only [go_sem,List.length_map,lc]
    refine eK ?_;refine up 1 ?_;refine rK hs fun K hK=>?_;simp only [go_sem,List.length_map]
    refine eK ?_;refine up 1 ?_;have hVT:∀ i,TrC (.li 1 (V i))=True:=fun i=>eq_true (hVt i);refine WA.loopW hX (fun k=>if k=3000 then 4024 else k) ((fun (i:Nat)=>⟨[(6,.lit (.slice none 0 0)),(7,.lit (.slice none 0 0)),(8,.lit (.int .i64 0)),(9,.li 3 (l.map fnA)),(15,.sl 3000 1 0 fs.length),(16,.lit (.int .i64 (a i:Nat))),(46,.li 4 (fs.map fdA)),(47,.lit (.int .i64 (fs.length:Nat))),(48,.lit (.int .i64 (i:Nat)))],[(3000,⟨.li 1 (V i),0,false⟩)],4000,117⟩:_→St)) (fun i=>fs.length-i) (fun i=>i≤fs.length) (i0:=0) (Nat.zero_le _) (by simp only [go_sem,Int.natCast_add,Int.natCast_zero,hT,hTd,ha0,← hV0,hVT] <;> (try and_intros) <;> (try omega)) fun i hi=>?_
    refine up 2 ?_;refine WA.cond rfl (fun h=>?_) (fun h=>?_)
    ·
      have h:i<fs.length:=by first | (simp [true_and] at h;omega) | (simp [true_and] at h;exact h) | omega | simpa using h
      have fd:=fd_at h;have hVi:=hVl i;have hVo:=hVn i h;have hVj:=hVl (i+1);refine up 3 ?_;refine rK hs fun K hK=>?_;simp only [go_sem,fd,List.length_map]
      refine eK ?_;rcases hstep i h with ⟨hx,e1,e2,e3,e4,e5,e6⟩ | ⟨e1,e1l,e2,e3,e4⟩
      ·
        have g:=fn_at hx;obtain ⟨hk,hv⟩:=hl.2 _ (List.getElem_mem hx);have c1:decide (((a i:Nat):Int)<((l.length:Nat):Int))=true:=decide_eq_true (by omega);generalize l[a i]=x at g hk hv e1 e2 e3 e4 e6;obtain ⟨t,v⟩:=x;simp only at g hk hv e1 e2 e3 e4 e6
        generalize fs[i]=f at fd e1 e2 e3 e4;obtain ⟨t',lo,hi',mu⟩:=f;simp only at fd e1 e2 e3 e4
        subst e1;have b1:decide (((v.length:Nat):Int)<lo)=false:=decide_eq_false (by omega);have b2:decide (((v.length:Nat):Int) > hi')=false:=decide_eq_false (by omega);have hset:(V i).set i (.by_ v)=V (i+1):=e6.symm;have hget:(V (i+1)).getD i .any = .by_ v:=by rw [e6];simp [List.getD,hVi,h]
        refine WA.drawnK mixed_ ty_ok hs (tbl:=[[],[],[1],[0,1,2],[0,1,2,3],[0,1,2,3,4],[0,1,2,3,4],[0,1,2,3,4,5,6],[0,1,2,3,4,5,6,7],[0,1,2,3,4,5,6,7,8],[0,1,2,3,4],[0,1,2,3,4,10],[0,1,2,3,4,5,6,7,8,9,10,11],[0,1,2,3,4,5,6,7,8,9,10,11,12]]) (nb:=[9,11]) (by kernel_rfl) fun K hK=>?_;simp only [go_sem,g,List.length_map,c1,BEq.rfl,fd]
        refine eK ?_;refine up 1 ?_;refine rK hs fun K hK=>?_;simp only [go_sem,g,List.length_map,hVi,hVo,hset]
        refine eK ?_;refine up 1 ?_;refine rK hs fun K hK=>?_;simp only [go_sem,hget,hVj]
        refine eK ?_;by_cases ht:t=135
        ·
          subst ht;have hex:=eq_true (show ∃ x,v=1::x∧0<x.length∧x.length % 16=0∧x.length≤100000 by
            obtain ⟨x,rfl,q1,q2⟩:=e4 rfl;exact ⟨x,rfl,q1,q2,by simp only [List.length_cons] at hv;omega⟩)
          refine rK hs fun K hK=>?_;simp only [go_sem,sgOj,hget,hVj,b1,b2,hex];refine And.intro ⟨⟨by clear hex e4;omega,by clear hex e4;omega⟩,h⟩ ?_;refine hK _ ?_;clear hK K;refine up 3 ?_
          refine WA.regionE ty_ok hs fun K hK=>?_;simp only [go_sem,true_and]
          (repeat refine sdA ?_);refine hK _ (roundE hX (fun k=>if k=3000 then 3000 else k) (j:=i+1) (by omega) (by first | omega | (dsimp only;omega) | (simp;omega)) (by simp only [go_sem,Int.natCast_add,hT,hTd,e5,hVT] <;> (try and_intros) <;> (try omega)))
        ·
          have b3:(t == 135)=false:=beq_eq_false_iff_ne.2 ht;refine rK hs fun K hK=>?_;simp only [go_sem,sgOj,hget,hVj,b1,b2,b3]
          refine eK ?_;refine up 3 ?_
          refine WA.regionE ty_ok hs fun K hK=>?_;simp only [go_sem,true_and]
          (repeat refine sdA ?_);refine hK _ (roundE hX (fun k=>if k=3000 then 3000 else k) (j:=i+1) (by omega) (by first | omega | (dsimp only;omega) | (simp;omega)) (by simp only [go_sem,Int.natCast_add,hT,hTd,e5,hVT] <;> (try and_intros) <;> (try omega)))
      ·
        generalize fs[i]=f at fd e1 e2;obtain ⟨t',lo,hi',mu⟩:=f;simp only at fd e1 e2
        subst e2;by_cases hx:a i<l.length
        ·
          have g:=fn_at hx;have c1:decide (((a i:Nat):Int)<((l.length:Nat):Int))=true:=decide_eq_true (by omega);have c2:(l[a i].1 == t')=false:=beq_eq_false_iff_ne.2 (e1 hx);generalize l[a i]=x at g c2;obtain ⟨t,v⟩:=x;simp only at g c2
          refine WA.drawnK mixed_ ty_ok hs (tbl:=[[],[],[1],[0,1,2],[0,1,2,3],[0,1,2,3,4],[0,1,2,3,4],[0,1,2,3,4,5,6],[0,1,2,3,4,5,6,7],[0,1,2,3,4,5,6,7,8],[0,1,2,3,4],[0,1,2,3,4,10],[0,1,2,3,4,5,6,7,8,9,10,11],[0,1,2,3,4,5,6,7,8,9,10,11,12]]) (nb:=[9,11]) (by kernel_rfl) fun K hK=>?_;simp only [go_sem,g,List.length_map,c1,c2,fd]
          refine eK ?_;refine up 4 ?_
          refine WA.regionE ty_ok hs fun K hK=>?_;simp only [go_sem,true_and]
          (repeat refine sdA ?_);refine hK _ (roundE hX (fun k=>if k=3000 then 3000 else k) (j:=i+1) (by omega) (by first | omega | (dsimp only;omega) | (simp;omega)) (by simp only [go_sem,Int.natCast_add,hT,hTd,e3,e4,hVT] <;> (try and_intros) <;> (try omega)))
        ·
          have c1:decide (((a i:Nat):Int)<((l.length:Nat):Int))=false:=decide_eq_false (by omega);have g:(l.map fnA).getD (a i) .any = .any:=by
            simp only [List.getD];rw [List.getElem?_eq_none (by rw [List.length_map];omega)];rfl
          refine WA.drawnK mixed_ ty_ok hs (tbl:=[[],[],[1],[0,1,2],[0,1,2,3],[0,1,2,3,4],[0,1,2,3,4],[0,1,2,3,4,5,6],[0,1,2,3,4,5,6,7],[0,1,2,3,4,5,6,7,8],[0,1,2,3,4],[0,1,2,3,4,10],[0,1,2,3,4,5,6,7,8,9,10,11],[0,1,2,3,4,5,6,7,8,9,10,11,12]]) (nb:=[9,11]) (by kernel_rfl) fun K hK=>?_;simp only [go_sem,g,List.length_map,c1,fd]
          refine eK ?_;refine up 4 ?_
          refine WA.regionE ty_ok hs fun K hK=>?_;simp only [go_sem,true_and]
          (repeat refine sdA ?_);refine hK _ (roundE hX (fun k=>if k=3000 then 3000 else k) (j:=i+1) (by omega) (by first | omega | (dsimp only;omega) | (simp;omega)) (by simp only [go_sem,Int.natCast_add,hT,hTd,e3,e4,hVT] <;> (try and_intros) <;> (try omega)))
    ·
      have h:¬ i<fs.length:=by first | (simp [true_and] at h;omega) | (simp [true_and] at h;exact h) | omega | simpa using h
      obtain rfl:i=fs.length:=by omega
      have hVi:=hVl fs.length;have c1:(((l.length:Nat):Int) != ((l.length:Nat):Int))=false:=by simp
      refine up 2 ?_;refine rK hs fun K hK=>?_;simp only [go_sem,List.length_map,hend,c1]
      refine eK ?_;refine up 2 ?_
      refine WA.drawnK mixed_ ty_ok hs (tbl:=[[],[],[],[2],[1,2,3],[0],[0,1,2,3,4,5],[0,1,2,3,4,5,6]]) (nb:=[]) (by kernel_rfl) fun K hK=>?_;simp only [go_sem,List.length_map,hend]
      refine eK ?_;refine rE [.fr (.li 1 (V fs.length)),.li 3 ((l.take (l.length-1)).map fnA),.lit (.int .i64 0)] [] [.tmp 6,.tmp 7,.tmp 8] ?_;simp only [go_sem,sbT,hVi,hVT];have tk:(((l.length:Nat):Int)-1).toNat=l.length-1:=by omega
      have m1:List.take (l.length-1) (l.map fnA)=(l.take (l.length-1)).map fnA:=List.map_take.symm;rw [tk];exact ⟨by rw [m1];exact of_eq_true (Tr_fns _),m1,of_eq_true (Tr_fns _)⟩
end
section
attribute [local irreducible] digB keyB sealB chkB openB codeB enc1
theorem padB_K (d:List UInt8):∃ k,k≤15∧(d.length+1+k) % 16=0∧padB d=padK d k:=by
  refine ⟨(16-(d.length+1) % 16) % 16,by omega,by omega,?_⟩;unfold padB padK;simp
attribute [local irreducible] padB
theorem unpadB_s (d:List UInt8) (hd:d.length≤1000000000):FnS Tryz.prog 132 [.by_ (padB d)] [] (.tup [.fr (.by_ d),.lit (.int .i64 0)]) []:=by
  obtain ⟨k,h1,h2,h3⟩:=padB_K d;rw [h3];exact unpad_s d k h1 h2 hd
def sgUo (d:List UInt8):Sg:=fun f args ls =>
  match f,args,ls with
  | 65,[.agg [.by_ e,.by_ c,.lit (.int .i64 n),.by_ x]],[]=>some (.by_ (vecB e n),[],e.length=16∧0≤n∧n≤1099511627776∧x=cntB n)
  | 99,[.by_ k,.by_ v,.by_ x],[]=>some (.tup [.fr (.by_ (openB k v x)),.lit (.int .i64 0)],[],k.length=16∧v.length=16∧x.length % 16=0∧x.length≤1000000000)
  | 132,[.by_ x],[]=>some (.tup [.fr (.by_ d),.lit (.int .i64 0)],[],x=padB d∧d.length≤1000)
  | _,_,_=>none
theorem sgUo_ok (d:List UInt8):SgOK Tryz.prog (sgUo d):=by
  intro f args ls r ls' vc h hvc;unfold sgUo at h;split at h <;> cases h
  · obtain ⟨h1,h2,h3,rfl⟩:=hvc;exact ⟨(fnOK Tryz.func65 (by decide) rfl),vector_s _ _ _ h1 (by omega)⟩
  · exact ⟨(fnOK Tryz.func99 (by decide) rfl),open_s _ _ _ hvc.1 hvc.2.1 hvc.2.2.1 hvc.2.2.2⟩
  · obtain ⟨rfl,h⟩:=hvc;exact ⟨(fnOK Tryz.func132 (by decide) rfl),unpadB_s d (by omega)⟩
theorem uopen0_s (e c:List UInt8) (n:Int):FnS Tryz.prog 89 [unA e c n,.lit (.slice none 0 0)] [] (.tup [.lit (.slice none 0 0),.lit (.int .i64 0)]) []:=by
  have hs:=sgUo_ok [];unfold unA;refine fo Tryz.func89 29 fun X hX=>?_;refine up 3 ?_;refine WA.cond rfl (fun h=>?_) (fun h=>absurd h (by simp));refine up 1 ?_;refine rE [.lit (.slice none 0 0),.lit (.int .i64 0)] [] [.tmp 4,.tmp 5] ?_;simp only [go_sem,sbT];all_goals exact agA
theorem uopen_s (e c:List UInt8) (n:Int) (d:List UInt8) (h1:e.length=16) (h3:0≤n∧n≤1099511627776) (h4:0<d.length) (h5:d.length≤1000):FnS Tryz.prog 89 [unA e c n,.by_ (cgO e n d).2] [] (.tup [.fr (.by_ d),.lit (.int .i64 0)]) []:=by
  have hs:=sgUo_ok d;obtain ⟨p1,p2,p3⟩:=padB_len d;have v1:=vecB_len e n;have l1:(sealB e (vecB e n) (padB d)).length=(padB d).length:=sealB_len _ _ _ p1;have q1:(sealB e (vecB e n) (padB d)).length % 16=0:=by omega
  have q2:(sealB e (vecB e n) (padB d)).length≤1000000000:=by omega
  have o1:openB e (vecB e n) (sealB e (vecB e n) (padB d))=padB d:=open_seal _ _ _ p1;have tp:List.take (padB d).length (padB d)=padB d:=List.take_length;have ts:List.take (sealB e (vecB e n) (padB d)).length (sealB e (vecB e n) (padB d))=sealB e (vecB e n) (padB d):=List.take_length;have d2:((((sealB e (vecB e n) (padB d)).length+1:Nat):Int) == 0)=false:=beq_eq_false_iff_ne.2 (by omega);unfold unA cgO;generalize sealB e (vecB e n) (padB d)=s at l1 q1 q2 o1 ts d2;refine fo Tryz.func89 29 fun X hX=>?_;refine up 2 ?_;refine rK hs fun K hK=>?_;simp only [go_sem,List.length_cons,d2]
  refine eK ?_;refine WA.cond rfl (fun h=>absurd h (by simp)) (fun h=>?_);refine up 1 ?_
  refine WA.drawnK mixed_ ty_ok hs (tbl:=[[],[0],[0,1],[],[3],[],[5],[0,1,2,3,4,5,6],[0,1,2,3,4,5,6,7],[0,1,2,3,4,5,6,7,8],[0,1,2,3,4,5,6,7,8],[0,1,2,3,4,5,6,7,8,9],[0,1,2,3,4,5,6,7,8,9,10,11]]) (nb:=[2,3,4,7]) (by kernel_rfl) fun K hK=>?_;simp only [go_sem,sgUo,h1,h3,v1,q1,q2,o1,ts,List.length_cons]
  refine eK ?_;refine up 2 ?_;refine WA.cond rfl (fun h=>absurd h (by simp)) (fun h=>?_);refine up 1 ?_
  refine rK hs fun K hK=>?_;simp only [go_sem,sgUo,tp,h5]
  refine eK ?_;refine rE [.fr (.by_ d),.lit (.int .i64 0)] [] [.tmp 4,.tmp 5] ?_;simp only [go_sem,sbT];all_goals exact agA
def sgEr:Sg:=fun f args ls =>
  match f,args,ls with
  | 46,[.by_ bs],[]=>some (.fr (.by_ bs),[],bs.length≤140737488355328)
  | 176,[.lit (.int .i64 n),.lit (.int .i64 k)],[]=>some (.fr (.by_ (bnI k n)),[],0≤n∧n≤9223372036854775807∧(k=1∨k=2))
  | _,_,_=>none
theorem sgEr_ok:SgOK Tryz.prog sgEr:=by
  intro f args ls r ls' vc h hvc;unfold sgEr at h;split at h <;> cases h
  · exact ⟨(fnOK Tryz.func46 (by decide) rfl),sclone_s _ hvc⟩
  · exact ⟨(fnOK Tryz.func176 (by decide) rfl),num_s _ _ hvc.1 hvc.2.1 hvc.2.2⟩
theorem encok_s (d:List UInt8) (st:Int) (hd:d.length≤4096) (hst:0≤st∧st≤65535):FnS Tryz.prog 128 [.agg [.by_ d,.lit (.int .i64 st)]] [] (.tup [.by_ (d++b2 st),.lit (.int .i64 0)]) []:=by
  have hs:=sgEr_ok;have c1:decide (((d.length:Nat):Int) > 4096)=false:=decide_eq_false (by omega);have c2:decide (st<0)=false:=decide_eq_false (by omega);have c3:decide (st > 65535)=false:=decide_eq_false (by omega);have s1:st≤9223372036854775807:=by omega
  have hb:bnI 2 st=b2 st:=rfl;have l2:(b2 st).length=2:=rfl;have td:List.take d.length d=d:=List.take_length;refine fo Tryz.func128 25 fun X hX=>?_;refine up 3 ?_;refine rK hs fun K hK=>?_;simp only [go_sem,c1]
  refine eK ?_;refine WA.cond rfl (fun h=>absurd h (by simp)) (fun h=>?_);refine rK hs fun K hK=>?_;simp only [go_sem,c2,c3]
  refine eK ?_;refine WA.cond rfl (fun h=>absurd h (by simp)) (fun h=>?_);refine up 1 ?_
  refine WA.drawnK mixed_ ty_ok hs (tbl:=[[],[0],[0,1],[],[3],[0,1,2,3,4],[0,1,2,3,4,5],[0,1,2,3,4,5,6],[0,1,2,3,4,5,6,7]]) (nb:=[1,2,4,5,6]) (by kernel_rfl) fun K hK=>?_;simp only [go_sem,sgEr,hb,l2,hst,s1,td]
  refine eK ?_;have te:List.take (d.length+2) (d++b2 st)=d++b2 st:=List.take_of_length_le (by rw [List.length_append,l2];exact Nat.le_refl _);refine rE [.by_ (d++b2 st),.lit (.int .i64 0)] [] [.tmp 2,.tmp 3] ?_;simp only [go_sem,sbT,l2,te];rw [List.take_of_length_le (show (b2 st).length≤2 by omega)];exact te
def sgRs:Sg:=fun f args ls =>
  match f,args,ls with
  | 128,[.agg [.by_ d,.lit (.int .i64 st)]],[]=>some (.tup [.by_ (d++b2 st),.lit (.int .i64 0)],[],d.length≤4096∧0≤st∧st≤65535)
  | _,_,_=>none
theorem sgRs_ok:SgOK Tryz.prog sgRs:=by
  intro f args ls r ls' vc h hvc;unfold sgRs at h;split at h <;> cases h
  · exact ⟨(fnOK Tryz.func128 (by decide) rfl),encok_s _ _ hvc.1 hvc.2⟩
theorem response_s (d:List UInt8) (st:Int) (hd:d.length≤4096) (hst:0≤st∧st≤65535):FnS Tryz.prog 86 [.agg [.by_ d,.lit (.int .i64 st)]] [] (.lit (.bool true)) []:=by
  have hs:=sgRs_ok;refine fo Tryz.func86 12 fun X hX=>?_;refine up 1 ?_;refine rK hs fun K hK=>?_;simp only [go_sem,sgRs,hd,hst]
  refine eK ?_;refine up 1 ?_;refine rE [.lit (.bool true)] [] [.tmp 2] ?_;simp only [go_sem,sbT];all_goals exact agA
end
section
attribute [local irreducible] digB keyB sealB chkB openB codeB enc1 padB
theorem cgO_tag (e:List UInt8) (n:Int) (d:List UInt8):tgK (cgO e n d).1:=by
  unfold cgO;exact .inl rfl
theorem cgO_len (e:List UInt8) (n:Int) (d:List UInt8) (hd:d.length≤70):(cgO e n d).2.length≤100:=by
  obtain ⟨p1,p2,p3⟩:=padB_len d;unfold cgO;simp only [List.length_cons];rw [sealB_len _ _ _ p1];omega
theorem hdB_len (a b c d:Int):(hdB a b c d).length≤1000:=by
  unfold hdB;obtain ⟨p1,p2,p3⟩:=padB_len [u8i a,u8i b,u8i c,u8i d];simp only [List.length_cons,List.length_nil] at p3;omega
def cmX (cls ins p1 p2:Int) (d:List UInt8) (x:Int):AV:=.agg [.lit (.int .i64 cls),.lit (.int .i64 ins),.lit (.int .i64 p1),.lit (.int .i64 p2),.by_ d,.lit (.int .i64 x)]
attribute [local irreducible] cgO codU hdB obW
def sgWr (e c:List UInt8) (n:Int) (ins p1 p2:Int) (l:List Ob):Sg:=fun f args ls =>
  match f,args,ls with
  | 33,[.agg [.by_ e',.by_ c',.lit (.int .i64 n')]],[]=>some (.lit (.bool true),[],e'.length=16∧c'.length=16∧0≤n'∧n'≤1099511627776)
  | 12,[.agg [.lit (.int .i64 a),.lit (.int .i64 b),.lit (.int .i64 x),.lit (.int .i64 y),.by_ d,.lit (.int .i64 z)]],[]=>some (.lit (.bool (valC ⟨a,b,x,y,d,z⟩)),[],True)
  | 34,[.agg [.by_ e',.by_ c',.lit (.int .i64 n')]],[]=>some (.agg [.by_ e',.by_ c',.lit (.int .i64 (n'+1)),.by_ (cntB (n'+1))],[],e'.length=16∧c'.length=16∧0≤n'∧n'≤1099511627775)
  | 35,[.agg [.by_ e',.by_ c',.lit (.int .i64 n'),.by_ x],.lit (.slice none 0 0),.by_ d],[] =>
    if d=[] then some (.lit (.slice none 0 0),[],x=cntB n')
    else some (.fr (.li 3 [.agg [.lit (.int .i64 (cgO e' n' d).1),.by_ (cgO e' n' d).2,.lit (.slice none 0 0)]]),[],x=cntB n'∧e'.length=16∧0≤n'∧n'≤1099511627776∧0<d.length∧d.length≤1000)
  | 36,[.lit (.int .i64 m),.lit (.int .i64 k)],[]=>some (.tup [.fr (.by_ (octL m k)),.lit (.int .i64 (octE m k))],[],0≤m∧m≤1099511627777∧0≤k∧k≤7)
  | 38,[.agg [.lit (.int .i64 a),.lit (.int .i64 b),.lit (.int .i64 x),.lit (.int .i64 y),.by_ d,.lit (.int .i64 z)]],[]=>some (.fr (.by_ (hdB a b x y)),[],True)
  | 37,[.agg [.by_ e',.by_ c',.lit (.int .i64 n'),.by_ x],.by_ h,.sl 0 3 0 k],[.li 3 xs]=>some (.tup [.fr (.by_ (obW (l++[(142,codU c' n' h l)]))),.lit (.int .i64 0)],[],x=cntB n'∧k=l.length∧xs=l.map fnA∧c'.length=16∧0≤n'∧n'≤1099511627776∧h.length≤1000∧ObK l∧l.length≤9)
  | _,_,_=>none
theorem sgWr_ok (e c:List UInt8) (n:Int) (ins p1 p2:Int) (l:List Ob):SgOK Tryz.prog (sgWr e c n ins p1 p2 l):=by
  intro f args ls r ls' vc h hvc;unfold sgWr at h;split at h <;> first | (simp only [Option.some.injEq,Prod.mk.injEq] at h;obtain ⟨rfl,rfl,rfl⟩:=h) | skip
  · exact ⟨(fnOK Tryz.func33 (by decide) rfl),mvalid_s _ _ _ hvc.1 hvc.2.1 hvc.2.2⟩
  · exact ⟨(fnOK Tryz.func12 (by decide) rfl),valid_s ⟨_,_,_,_,_,_⟩⟩
  · exact ⟨(fnOK Tryz.func34 (by decide) rfl),mnext_s _ _ _ hvc.1 hvc.2.1 (by omega)⟩
  · split at h
    · rename_i hd;subst hd;simp only [Option.some.injEq,Prod.mk.injEq] at h;obtain ⟨rfl,rfl,rfl⟩:=h;subst hvc;exact ⟨(fnOK Tryz.func35 (by decide) rfl),cgram0_s _ _ _⟩
    · simp only [Option.some.injEq,Prod.mk.injEq] at h;obtain ⟨rfl,rfl,rfl⟩:=h;obtain ⟨rfl,h1,h2,h3,h4,h5⟩:=hvc;exact ⟨(fnOK Tryz.func35 (by decide) rfl),cgram_s _ _ _ _ h1 ⟨h2,h3⟩ h4 h5⟩
  · exact ⟨(fnOK Tryz.func36 (by decide) rfl),octets_s _ _ (by omega) (by omega)⟩
  · exact ⟨(fnOK Tryz.func38 (by decide) rfl),head_s _ _ _ _ _ _⟩
  · obtain ⟨rfl,rfl,rfl,h1,h2,h3,h4,h5,h6⟩:=hvc;exact ⟨(fnOK Tryz.func37 (by decide) rfl),useal_s _ _ _ _ _ h1 ⟨h2,h3⟩ h4 h5 h6⟩
  · cases h
def wrD (e c:List UInt8) (n ins p1 p2:Int) (d:List UInt8):List UInt8:=obW [cgO e (n+1) d,(142,codU c (n+1) (hdB 12 ins p1 p2) [cgO e (n+1) d])]
theorem wrapD_s (e c:List UInt8) (n ins p1 p2:Int) (d:List UInt8) (h1:e.length=16) (h2:c.length=16) (h3:0≤n∧n≤1099511627775) (hv:valC ⟨0,ins,p1,p2,d,-1⟩=true) (hd:0<d.length) (hd2:d.length≤70) :
    FnS Tryz.prog 14 [ssA e c n,cmX 0 ins p1 p2 d (-1)] [] (.tup [cmX 12 ins p1 p2 (wrD e c n ins p1 p2 d) 65536,ssA e c (n+1),.lit (.int .i64 0)]) []:=by
  have hs:=sgWr_ok e c n ins p1 p2 [cgO e (n+1) d];have d0:d ≠ []:=fun h=>by rw [h] at hd;simp at hd
  have n1:(n == 1099511627776)=false:=beq_eq_false_iff_ne.2 (by omega);have n2:n≤1099511627776:=by omega
  unfold ssA cmX;refine fo Tryz.func14 96 fun X hX=>?_;refine up 3 ?_;have a1:bits .and .i64 0 12=0:=by decide
  have a2:bits .or .i64 0 12=12:=by decide
  refine rK hs fun K hK=>?_;simp only [go_sem,sgWr,h1,h2,h3,n2,hv,a1,a2]
  refine eK ?_;refine up 1 ?_;refine rK hs fun K hK=>?_;simp only [go_sem,n1]
  refine eK ?_;refine up 2 ?_
  refine rK hs fun K hK=>?_;simp only [go_sem,sgWr,h1,h2,h3]
  refine eK ?_;refine rK hs fun K hK=>?_;simp only [go_sem,sgWr,d0,h1,h3,hd]
  refine eK ?_;refine up 5 ?_;refine rK hs fun K hK=>?_;simp only [go_sem,a2]
  refine eK ?_;refine up 1 ?_;have ok1:ObK [cgO e (n+1) d]:=⟨by simp,fun x hx=>by
    rw [List.mem_singleton] at hx;subst hx;exact ⟨cgO_tag _ _ _,cgO_len _ _ _ hd2⟩⟩
  have hm:[AV.agg [.lit (.int .i64 (cgO e (n+1) d).1),.by_ (cgO e (n+1) d).2,.lit (.slice none 0 0)]]=[cgO e (n+1) d].map fnA:=rfl;have hh1:=hdB_len 12 ins p1 p2;have ht:=List.take_of_length_le (Nat.le_refl (hdB 12 ins p1 p2).length);have hTC:TrC (.li 3 [fnA (cgO e (n+1) d)])=True:=eq_true (TrC_fns [cgO e (n+1) d]);have n5:0≤n+1:=by omega
  have n6:n+1≤1099511627776:=by omega
  have tw:=List.take_of_length_le (Nat.le_refl (wrD e c n ins p1 p2 d).length);have hw:obW [cgO e (n+1) d,(142,codU c (n+1) (hdB 12 ins p1 p2) [cgO e (n+1) d])]=wrD e c n ins p1 p2 d:=rfl;refine WA.drawnH mixed_ ty_ok hs (tbl:=[[],[],[1],[],[0,1,2,3],[0,1,2,3,4],[0,1,2,3,4,5],[0,1,2,3,4,5],[0,1,2,3,4,5,6],[0,1,2,3,4,5,6,7,8]]) (nb:=[0,1,2,4]) (hk:=[[],[],[],[],[],[],[],[],[],[]]) (by kernel_rfl) fun K hK=>?_;simp only [go_sem,sgWr,h1,h2,h3,hm,ok1,hh1,ht,hTC,n5,n6,hw]
  refine eK ?_;refine up 5 ?_;refine WA.drawnH mixed_ ty_ok hs (tbl:=[[],[],[1],[0],[0,1,2,3],[0,1,2,3,4]]) (nb:=[0,2,3,4]) (hk:=[[],[2016],[2016],[],[],[]]) (by kernel_rfl) fun K hK=>?_;simp only [go_sem,true_and]
  refine eK ?_;refine rE [cmX 12 ins p1 p2 (wrD e c n ins p1 p2 d) 65536,ssA e c (n+1),.lit (.int .i64 0)] [] [.cell 4 25,.cell 5 55,.tmp 6] ?_;simp only [go_sem,sbT,tw,cmX,ssA];all_goals exact agA
end
section
attribute [local irreducible] digB keyB sealB chkB openB codeB enc1 padB cgO codU hdB obW
def rsX (d:List UInt8) (st:Int):AV:=.agg [.by_ d,.lit (.int .i64 st)]
def stO (st:Int):Ob:=(153,octL st 2)
def sgRp (l:List Ob):Sg:=fun f args ls =>
  match f,args,ls with
  | 33,[.agg [.by_ e',.by_ c',.lit (.int .i64 n')]],[]=>some (.lit (.bool true),[],e'.length=16∧c'.length=16∧0≤n'∧n'≤1099511627776)
  | 86,[.agg [.by_ d,.lit (.int .i64 st)]],[]=>some (.lit (.bool true),[],d.length≤4096∧0≤st∧st≤65535)
  | 34,[.agg [.by_ e',.by_ c',.lit (.int .i64 n')]],[]=>some (.agg [.by_ e',.by_ c',.lit (.int .i64 (n'+1)),.by_ (cntB (n'+1))],[],e'.length=16∧c'.length=16∧0≤n'∧n'≤1099511627775)
  | 35,[.agg [.by_ e',.by_ c',.lit (.int .i64 n'),.by_ x],.lit (.slice none 0 0),.by_ d],[] =>
    if d=[] then some (.lit (.slice none 0 0),[],x=cntB n')
    else some (.fr (.li 3 [.agg [.lit (.int .i64 (cgO e' n' d).1),.by_ (cgO e' n' d).2,.lit (.slice none 0 0)]]),[],x=cntB n'∧e'.length=16∧0≤n'∧n'≤1099511627776∧0<d.length∧d.length≤1000)
  | 88,[.lit (.int .i64 m)],[]=>some (.agg [.lit (.int .i64 153),.by_ (octL m 2),.lit (.slice none 0 0)],[],0≤m∧m≤65535)
  | 37,[.agg [.by_ e',.by_ c',.lit (.int .i64 n'),.by_ x],.lit (.slice none 0 0),.sl 0 3 0 k],[.li 3 xs]=>some (.tup [.fr (.by_ (obW (l++[(142,codU c' n' [] l)]))),.lit (.int .i64 0)],[],x=cntB n'∧k=l.length∧xs=l.map fnA∧c'.length=16∧0≤n'∧n'≤1099511627776∧ObK l∧l.length≤9)
  | _,_,_=>none
theorem sgRp_ok (l:List Ob):SgOK Tryz.prog (sgRp l):=by
  intro f args ls r ls' vc h hvc;unfold sgRp at h;split at h <;> first | (simp only [Option.some.injEq,Prod.mk.injEq] at h;obtain ⟨rfl,rfl,rfl⟩:=h) | skip
  · exact ⟨(fnOK Tryz.func33 (by decide) rfl),mvalid_s _ _ _ hvc.1 hvc.2.1 hvc.2.2⟩
  · exact ⟨(fnOK Tryz.func86 (by decide) rfl),response_s _ _ hvc.1 hvc.2⟩
  · exact ⟨(fnOK Tryz.func34 (by decide) rfl),mnext_s _ _ _ hvc.1 hvc.2.1 (by omega)⟩
  · split at h
    · rename_i hd;subst hd;simp only [Option.some.injEq,Prod.mk.injEq] at h;obtain ⟨rfl,rfl,rfl⟩:=h;subst hvc;exact ⟨(fnOK Tryz.func35 (by decide) rfl),cgram0_s _ _ _⟩
    · simp only [Option.some.injEq,Prod.mk.injEq] at h;obtain ⟨rfl,rfl,rfl⟩:=h;obtain ⟨rfl,h1,h2,h3,h4,h5⟩:=hvc;exact ⟨(fnOK Tryz.func35 (by decide) rfl),cgram_s _ _ _ _ h1 ⟨h2,h3⟩ h4 h5⟩
  · exact ⟨(fnOK Tryz.func88 (by decide) rfl),status_s _ hvc⟩
  · obtain ⟨rfl,rfl,rfl,h1,h2,h3,h5,h6⟩:=hvc;exact ⟨(fnOK Tryz.func37 (by decide) rfl),FnS.nilArg (a:=[unA _ _ _]) (useal_s _ _ _ [] _ h1 ⟨h2,h3⟩ (by simp) h5 h6)⟩
  · cases h
def rpD (e c:List UInt8) (n:Int) (d:List UInt8) (st:Int):List UInt8:=obW [cgO e (n+1) d,stO st,(142,codU c (n+1) [] [cgO e (n+1) d,stO st])]
def rpE (c:List UInt8) (n:Int) (st:Int):List UInt8:=obW [stO st,(142,codU c (n+1) [] [stO st])]
theorem stO_ok (st:Int) (h:0≤st∧st≤65535):tgK (stO st).1∧(stO st).2.length≤100:=⟨.inr (.inr (.inl rfl)),by show (octL st 2).length≤100;rw [(oct2 h).2];omega⟩
theorem replyD_s (e c:List UInt8) (n:Int) (d:List UInt8) (st:Int) (h1:e.length=16) (h2:c.length=16) (h3:0≤n∧n≤1099511627775) (hst:0≤st∧st≤65535) (hd:0<d.length) (hd2:d.length≤70) :
    FnS Tryz.prog 109 [ssA e c n,rsX d st] [] (.tup [rsX (rpD e c n d st) st,ssA e c (n+1),.lit (.int .i64 0)]) []:=by
  have hs:=sgRp_ok [cgO e (n+1) d,stO st];have d0:d ≠ []:=fun h=>by rw [h] at hd;simp at hd
  have d1:d.length≤4096:=by omega
  have d3:d.length≤1000:=by omega
  have n1:(n == 1099511627776)=false:=beq_eq_false_iff_ne.2 (by omega);have n2:n≤1099511627776:=by omega
  have ok1:ObK [cgO e (n+1) d,stO st]:=⟨by simp,fun x hx=>by
    simp only [List.mem_cons,List.not_mem_nil,or_false] at hx;rcases hx with rfl | rfl
    · exact ⟨cgO_tag _ _ _,cgO_len _ _ _ hd2⟩
    · exact stO_ok st hst⟩
  have hm:[AV.agg [.lit (.int .i64 (cgO e (n+1) d).1),.by_ (cgO e (n+1) d).2,.lit (.slice none 0 0)],AV.agg [.lit (.int .i64 153),.by_ (octL st 2),.lit (.slice none 0 0)]]=[cgO e (n+1) d,stO st].map fnA:=rfl;have hTC:TrC (.li 3 [fnA (cgO e (n+1) d),fnA (stO st)])=True:=eq_true (TrC_fns [cgO e (n+1) d,stO st]);have n5:0≤n+1:=by omega
  have n6:n+1≤1099511627776:=by omega
  have tw:=List.take_of_length_le (Nat.le_refl (rpD e c n d st).length);have hw:obW [cgO e (n+1) d,stO st,(142,codU c (n+1) [] [cgO e (n+1) d,stO st])]=rpD e c n d st:=rfl;unfold ssA rsX;refine fo Tryz.func109 54 fun X hX=>?_;refine up 3 ?_;refine rK hs fun K hK=>?_;simp only [go_sem,sgRp,h1,h2,h3,n2,d1,hst]
  refine eK ?_;refine up 1 ?_;refine rK hs fun K hK=>?_;simp only [go_sem,n1]
  refine eK ?_;refine up 2 ?_
  refine rK hs fun K hK=>?_;simp only [go_sem,sgRp,h1,h2,h3]
  refine eK ?_;refine WA.drawnH mixed_ ty_ok hs (tbl:=[[],[],[],[2],[1,2,3],[],[5],[1,2,3,4,5,6],[1,2,3,4,5,6,7],[1,2,3,4,5,6,7,8],[0,1,2,3,4,5,6,7,8,9],[0,1,2,3,4,5,6,7,8,9,10],[0,1,2,3,4,5,6,7,8,9,10,11],[0,1,2,3,4,5,6,7,8,9,10,11],[0,1,2,3,4,5,6,7,8,9,10,11,12],[0,1,2,3,4,5,6,7,8,9,10,11,12,13,14]]) (nb:=[0,1,3,4,6,7,9,10]) (hk:=[[2208],[],[],[],[],[],[],[],[],[],[],[],[],[],[],[]]) (by kernel_rfl) fun K hK=>?_;simp only [go_sem,sgRp,h1,h2,h3,hst,d0,hd,d3,hm,ok1,hTC,n5,n6,hw]
  refine eK ?_;refine up 4 ?_
  refine WA.drawnH mixed_ ty_ok hs (tbl:=[[],[],[1],[0,1,2],[],[4],[0,1,2,3],[0,1,2,3,4,5,6],[0,1,2,3,4,5,6,7]]) (nb:=[2,5,6,7]) (hk:=[[],[],[],[],[2016],[2016],[],[],[]]) (by kernel_rfl) fun K hK=>?_;simp only [go_sem,true_and]
  refine eK ?_;refine rE [rsX (rpD e c n d st) st,ssA e c (n+1),.lit (.int .i64 0)] [] [.cell 4 65,.cell 5 55,.tmp 6] ?_;simp only [go_sem,sbT,tw,rsX,ssA];all_goals exact agA
theorem replyE_s (e c:List UInt8) (n:Int) (st:Int) (h1:e.length=16) (h2:c.length=16) (h3:0≤n∧n≤1099511627775) (hst:0≤st∧st≤65535) :
    FnS Tryz.prog 109 [ssA e c n,rsX [] st] [] (.tup [rsX (rpE c n st) st,ssA e c (n+1),.lit (.int .i64 0)]) []:=by
  have hs:=sgRp_ok [stO st];have n1:(n == 1099511627776)=false:=beq_eq_false_iff_ne.2 (by omega);have n2:n≤1099511627776:=by omega
  have ok1:ObK [stO st]:=⟨by simp,fun x hx=>by
    rw [List.mem_singleton] at hx;subst hx;exact stO_ok st hst⟩
  have hm:(AV.agg [.lit (.int .i64 153),.by_ (octL st 2),.lit (.slice none 0 0)]=fnA (stO st))=True:=eq_true rfl;have hm2:([AV.agg [.lit (.int .i64 153),.by_ (octL st 2),.lit (.slice none 0 0)]]=[fnA (stO st)])=True:=eq_true rfl;have hTC2:TrC (.li 3 [.agg [.lit (.int .i64 153),.by_ (octL st 2),.lit (.slice none 0 0)]])=True:=eq_true (TrC_fns [stO st]);have hTC:TrC (.li 3 [fnA (stO st)])=True:=eq_true (TrC_fns [stO st]);have n5:0≤n+1:=by omega
  have n6:n+1≤1099511627776:=by omega
  have tw:=List.take_of_length_le (Nat.le_refl (rpE c n st).length);have hw:obW [stO st,(142,codU c (n+1) [] [stO st])]=rpE c n st:=rfl;unfold ssA rsX;refine fo Tryz.func109 54 fun X hX=>?_;refine up 3 ?_;refine rK hs fun K hK=>?_;simp only [go_sem,sgRp,h1,h2,h3,n2,hst]
  refine eK ?_;refine up 1 ?_;refine rK hs fun K hK=>?_;simp only [go_sem,n1]
  refine eK ?_;refine up 2 ?_
  refine rK hs fun K hK=>?_;simp only [go_sem,sgRp,h1,h2,h3]
  refine eK ?_;refine WA.drawnH mixed_ ty_ok hs (tbl:=[[],[],[],[2],[1,2,3],[],[5],[1,2,3,4,5,6],[1,2,3,4,5,6,7],[1,2,3,4,5,6,7,8],[0,1,2,3,4,5,6,7,8,9],[0,1,2,3,4,5,6,7,8,9,10],[0,1,2,3,4,5,6,7,8,9,10,11],[0,1,2,3,4,5,6,7,8,9,10,11],[0,1,2,3,4,5,6,7,8,9,10,11,12],[0,1,2,3,4,5,6,7,8,9,10,11,12,13,14]]) (nb:=[0,1,3,4,6,7,9,10]) (hk:=[[],[],[],[],[],[],[],[],[],[],[],[],[],[],[],[]]) (by kernel_rfl) fun K hK=>?_;simp only [go_sem,sgRp,h1,h2,h3,hst,hm,hm2,hTC2,ok1,hTC,n5,n6,hw]
  refine eK ?_;refine up 4 ?_
  refine WA.drawnH mixed_ ty_ok hs (tbl:=[[],[],[1],[0,1,2],[],[4],[0,1,2,3],[0,1,2,3,4,5,6],[0,1,2,3,4,5,6,7]]) (nb:=[2,5,6,7]) (hk:=[[],[],[],[],[2016],[2016],[],[],[]]) (by kernel_rfl) fun K hK=>?_;simp only [go_sem,true_and]
  refine eK ?_;refine rE [rsX (rpE c n st) st,ssA e c (n+1),.lit (.int .i64 0)] [] [.cell 4 65,.cell 5 55,.tmp 6] ?_;simp only [go_sem,sbT,tw,rsX,ssA];all_goals exact agA
end
section
attribute [local irreducible] digB keyB sealB chkB openB codeB enc1 padB
abbrev nilA:AV:=.lit (.slice none 0 0)
def Stp (l:List Ob) (f:Fd) (i a a':Nat) (v v':List AV):Prop :=
  (∃ hx:a<l.length,l[a].1=f.tag∧f.least≤l[a].2.length∧(l[a].2.length:Int)≤f.most∧(f.tag=135 → ∃ x,l[a].2=1::x∧0<x.length∧x.length % 16=0)∧a'=a+1∧v'=v.set i (.by_ l[a].2)) ∨
  ((∀ hx:a<l.length,l[a].1 ≠ f.tag)∧a≤l.length∧f.must=false∧a'=a∧v'=v)
theorem TrC_3 {x y z:AV} (hx:∀ u∈x.cl,Tr u) (hy:∀ u∈y.cl,Tr u) (hz:∀ u∈z.cl,Tr u):TrC (.li 1 [x,y,z]):=TrC.li fun u hu w hw=>by
  simp only [List.mem_cons,List.not_mem_nil,or_false] at hu;rcases hu with rfl | rfl | rfl
  · exact hx _ hw
  · exact hy _ hw
  · exact hz _ hw
theorem nilA_tr:∀ u∈nilA.cl,Tr u:=fun u hu=>by
  simp only [nilA,AV.cl,List.mem_singleton] at hu;subst hu;exact Tr.lit _
theorem byA_tr (b:List UInt8):∀ u∈(AV.by_ b).cl,Tr u:=fun u hu=>by
  simp only [AV.cl,List.mem_singleton] at hu;subst hu;exact Tr.by_ _
theorem obj3_s (l:List Ob) (hl:ObK l) (hp:0<l.length) (nd:List Int) (hnd:∀ t∈nd,∃ x∈l,x.1=t) (hnl:nd.length≤10) (f0 f1 f2:Fd) (a1 a2 a3:Nat) (x1 y1 x2:AV) (y2:AV) (x3 y3 z3:AV)
    (hend:a3=l.length) (t1:∀ u∈x1.cl,Tr u) (t2:∀ u∈y2.cl,Tr u) (t3:∀ u∈z3.cl,Tr u)
    (s0:Stp l f0 0 0 a1 [nilA,nilA,nilA] [x1,nilA,nilA]) (s1:Stp l f1 1 a1 a2 [x1,nilA,nilA] [x1,y2,nilA]) (s2:Stp l f2 2 a2 a3 [x1,y2,nilA] [x1,y2,z3]) :
    FnS Tryz.prog 87 [.by_ (obW l),.li 1 (nd.map iA),.li 4 ([f0,f1,f2].map fdA)] [] (.tup [.fr (.li 1 [x1,y2,z3]),.li 3 ((l.take (l.length-1)).map fnA),.lit (.int .i64 0)]) []:=by
  let V:Nat→List AV:=fun i=>match i with
    | 0=>[nilA,nilA,nilA]
    | 1=>[x1,nilA,nilA]
    | 2=>[x1,y2,nilA]
    | _=>[x1,y2,z3]
  let a:Nat→Nat:=fun i=>match i with
    | 0=>0
    | 1=>a1
    | 2=>a2
    | _=>a3
  have hV:∀ i,V i=[nilA,nilA,nilA]∨V i=[x1,nilA,nilA]∨V i=[x1,y2,nilA]∨V i=[x1,y2,z3]:=fun i=>by
    match i with
    | 0=>exact .inl rfl
    | 1=>exact .inr (.inl rfl)
    | 2=>exact .inr (.inr (.inl rfl))
    | _+3=>exact .inr (.inr (.inr rfl))
  refine objects_s l hl hp nd hnd hnl [f0,f1,f2] (by simp) a V rfl rfl hend (fun i=>?_) (fun i=>?_) (fun i hi=>?_) (fun i hi=>?_)
  · rcases hV i with h | h | h | h <;> rw [h] <;> rfl
  · rcases hV i with h | h | h | h <;> rw [h]
    · exact TrC_3 nilA_tr nilA_tr nilA_tr
    · exact TrC_3 t1 nilA_tr nilA_tr
    · exact TrC_3 t1 t2 nilA_tr
    · exact TrC_3 t1 t2 t3
  · match i,hi with
    | 0,_=>rfl
    | 1,_=>rfl
    | 2,_=>rfl
    | _+3,hi=>simp at hi;omega
  · match i,hi with
    | 0,_=>exact s0
    | 1,_=>exact s1
    | 2,_=>exact s2
    | _+3,hi=>simp at hi;omega
def CgK (v:List UInt8):Prop:=∃ x,v=1::x∧0<x.length∧x.length % 16=0
theorem objUD (v w:List UInt8) (h1:CgK v) (h2:v.length≤100) (h3:w.length=8):FnS Tryz.prog 87 [.by_ (obW [(135,v),(142,w)]),.li 1 ([142].map iA),.li 4 ([⟨135,2,4096,false⟩,⟨151,1,2,false⟩,⟨142,8,8,true⟩].map fdA)] [] (.tup [.fr (.li 1 [.by_ v,nilA,.by_ w]),.li 3 ([(135,v)].map fnA),.lit (.int .i64 0)]) []:=by
  obtain ⟨x,hx,q1,q2⟩:=h1;have hv2:2≤v.length:=by rw [hx,List.length_cons];omega
  refine obj3_s [(135,v),(142,w)] ⟨by simp,fun y hy=>?_⟩ (by simp) [142] (fun t ht=>?_) (by simp) _ _ _ 1 1 2 (.by_ v) nilA nilA nilA nilA nilA (.by_ w) rfl (byA_tr _) nilA_tr (byA_tr _) ?_ ?_ ?_
  · simp only [List.mem_cons,List.not_mem_nil,or_false] at hy;rcases hy with rfl | rfl
    · exact ⟨.inl rfl,h2⟩
    · exact ⟨.inr (.inr (.inr rfl)),by show w.length≤100;omega⟩
  · rw [List.mem_singleton] at ht;subst ht;exact ⟨(142,w),by simp,rfl⟩
  · exact .inl ⟨by simp,rfl,by show (2:Int)≤v.length;omega,by show ((v.length:Nat):Int)≤4096;omega,fun _=>⟨x,hx,q1,q2⟩,rfl,rfl⟩
  · exact .inr ⟨fun _=>by show (142:Int) ≠ 151;omega,by simp,rfl,rfl,rfl⟩
  · exact .inl ⟨by simp,rfl,by show (8:Int)≤w.length;omega,by show ((w.length:Nat):Int)≤8;omega,fun h=>(by cases h),rfl,rfl⟩
theorem objUE (v w:List UInt8) (h2:v.length=1) (h3:w.length=8):FnS Tryz.prog 87 [.by_ (obW [(151,v),(142,w)]),.li 1 ([142].map iA),.li 4 ([⟨135,2,4096,false⟩,⟨151,1,2,false⟩,⟨142,8,8,true⟩].map fdA)] [] (.tup [.fr (.li 1 [nilA,.by_ v,.by_ w]),.li 3 ([(151,v)].map fnA),.lit (.int .i64 0)]) []:=by
  refine obj3_s [(151,v),(142,w)] ⟨by simp,fun y hy=>?_⟩ (by simp) [142] (fun t ht=>?_) (by simp) _ _ _ 0 1 2 nilA nilA nilA (.by_ v) nilA nilA (.by_ w) rfl nilA_tr (byA_tr _) (byA_tr _) ?_ ?_ ?_
  · simp only [List.mem_cons,List.not_mem_nil,or_false] at hy;rcases hy with rfl | rfl
    · exact ⟨.inr (.inl rfl),by show v.length≤100;omega⟩
    · exact ⟨.inr (.inr (.inr rfl)),by show w.length≤100;omega⟩
  · rw [List.mem_singleton] at ht;subst ht;exact ⟨(142,w),by simp,rfl⟩
  · exact .inr ⟨fun _=>by show (151:Int) ≠ 135;omega,by simp,rfl,rfl,rfl⟩
  · exact .inl ⟨by simp,rfl,by show (1:Int)≤v.length;omega,by show ((v.length:Nat):Int)≤2;omega,fun h=>(by cases h),rfl,rfl⟩
  · exact .inl ⟨by simp,rfl,by show (8:Int)≤w.length;omega,by show ((w.length:Nat):Int)≤8;omega,fun h=>(by cases h),rfl,rfl⟩
theorem objOD (v s w:List UInt8) (h1:CgK v) (h2:v.length≤100) (h4:s.length=2) (h3:w.length=8):FnS Tryz.prog 87 [.by_ (obW [(135,v),(153,s),(142,w)]),.li 1 ([142,153].map iA),.li 4 ([⟨135,2,4096,false⟩,⟨153,2,2,true⟩,⟨142,8,8,true⟩].map fdA)] [] (.tup [.fr (.li 1 [.by_ v,.by_ s,.by_ w]),.li 3 ([(135,v),(153,s)].map fnA),.lit (.int .i64 0)]) []:=by
  obtain ⟨x,hx,q1,q2⟩:=h1;have hv2:2≤v.length:=by rw [hx,List.length_cons];omega
  refine obj3_s [(135,v),(153,s),(142,w)] ⟨by simp,fun y hy=>?_⟩ (by simp) [142,153] (fun t ht=>?_) (by simp) _ _ _ 1 2 3 (.by_ v) nilA nilA (.by_ s) nilA nilA (.by_ w) rfl (byA_tr _) (byA_tr _) (byA_tr _) ?_ ?_ ?_
  · simp only [List.mem_cons,List.not_mem_nil,or_false] at hy;rcases hy with rfl | rfl | rfl
    · exact ⟨.inl rfl,h2⟩
    · exact ⟨.inr (.inr (.inl rfl)),by show s.length≤100;omega⟩
    · exact ⟨.inr (.inr (.inr rfl)),by show w.length≤100;omega⟩
  · simp only [List.mem_cons,List.not_mem_nil,or_false] at ht;rcases ht with rfl | rfl
    · exact ⟨(142,w),by simp,rfl⟩
    · exact ⟨(153,s),by simp,rfl⟩
  · exact .inl ⟨by simp,rfl,by show (2:Int)≤v.length;omega,by show ((v.length:Nat):Int)≤4096;omega,fun _=>⟨x,hx,q1,q2⟩,rfl,rfl⟩
  · exact .inl ⟨by simp,rfl,by show (2:Int)≤s.length;omega,by show ((s.length:Nat):Int)≤2;omega,fun h=>(by cases h),rfl,rfl⟩
  · exact .inl ⟨by simp,rfl,by show (8:Int)≤w.length;omega,by show ((w.length:Nat):Int)≤8;omega,fun h=>(by cases h),rfl,rfl⟩
theorem objOE (s w:List UInt8) (h4:s.length=2) (h3:w.length=8):FnS Tryz.prog 87 [.by_ (obW [(153,s),(142,w)]),.li 1 ([142,153].map iA),.li 4 ([⟨135,2,4096,false⟩,⟨153,2,2,true⟩,⟨142,8,8,true⟩].map fdA)] [] (.tup [.fr (.li 1 [nilA,.by_ s,.by_ w]),.li 3 ([(153,s)].map fnA),.lit (.int .i64 0)]) []:=by
  refine obj3_s [(153,s),(142,w)] ⟨by simp,fun y hy=>?_⟩ (by simp) [142,153] (fun t ht=>?_) (by simp) _ _ _ 0 1 2 nilA nilA nilA (.by_ s) nilA nilA (.by_ w) rfl nilA_tr (byA_tr _) (byA_tr _) ?_ ?_ ?_
  · simp only [List.mem_cons,List.not_mem_nil,or_false] at hy;rcases hy with rfl | rfl
    · exact ⟨.inr (.inr (.inl rfl)),by show s.length≤100;omega⟩
    · exact ⟨.inr (.inr (.inr rfl)),by show w.length≤100;omega⟩
  · simp only [List.mem_cons,List.not_mem_nil,or_false] at ht;rcases ht with rfl | rfl
    · exact ⟨(142,w),by simp,rfl⟩
    · exact ⟨(153,s),by simp,rfl⟩
  · exact .inr ⟨fun _=>by show (153:Int) ≠ 135;omega,by simp,rfl,rfl,rfl⟩
  · exact .inl ⟨by simp,rfl,by show (2:Int)≤s.length;omega,by show ((s.length:Nat):Int)≤2;omega,fun h=>(by cases h),rfl,rfl⟩
  · exact .inl ⟨by simp,rfl,by show (8:Int)≤w.length;omega,by show ((w.length:Nat):Int)≤8;omega,fun h=>(by cases h),rfl,rfl⟩
end
section
attribute [local irreducible] digB keyB sealB chkB openB codeB enc1 padB
theorem cgO_K2 (e:List UInt8) (n:Int) (d:List UInt8):CgK (cgO e n d).2:=by
  obtain ⟨p1,p2,p3⟩:=padB_len d;have hl:=sealB_len e (vecB e n) _ p1;exact ⟨_,rfl,by omega,by omega⟩
theorem cgO_eq2 (e:List UInt8) (n:Int) (d:List UInt8):(135,(cgO e n d).2)=cgO e n d:=rfl
attribute [local irreducible] cgO codU hdB obW
def sgOp (W:List UInt8) (v0 v1 v2:AV) (lq:List Ob) (d:List UInt8):Sg:=fun f args ls =>
  match f,args,ls with
  | 33,[.agg [.by_ e',.by_ c',.lit (.int .i64 n')]],[]=>some (.lit (.bool true),[],e'.length=16∧c'.length=16∧0≤n'∧n'≤1099511627776)
  | 86,[.agg [.by_ d,.lit (.int .i64 st)]],[]=>some (.lit (.bool true),[],d.length≤4096∧0≤st∧st≤65535)
  | 34,[.agg [.by_ e',.by_ c',.lit (.int .i64 n')]],[]=>some (.agg [.by_ e',.by_ c',.lit (.int .i64 (n'+1)),.by_ (cntB (n'+1))],[],e'.length=16∧c'.length=16∧0≤n'∧n'≤1099511627775)
  | 87,[.by_ b,.li 1 [.lit (.int .i64 142),.lit (.int .i64 153)],.li 4 [.agg [.lit (.int .i64 135),.lit (.int .i64 2),.lit (.int .i64 4096),.lit (.bool false)],.agg [.lit (.int .i64 153),.lit (.int .i64 2),.lit (.int .i64 2),.lit (.bool true)],.agg [.lit (.int .i64 142),.lit (.int .i64 8),.lit (.int .i64 8),.lit (.bool true)]]],[] =>
    some (.tup [.fr (.li 1 [v0,v1,v2]),.li 3 (lq.map fnA),.lit (.int .i64 0)],[],b=W)
  | 88,[.lit (.int .i64 m)],[]=>some (.agg [.lit (.int .i64 153),.by_ (octL m 2),.lit (.slice none 0 0)],[],0≤m∧m≤65535)
  | 67,[.agg [.by_ e',.by_ c',.lit (.int .i64 n'),.by_ x],.lit (.slice none 0 0),.li 3 xs],[]=>some (.tup [.by_ (codU c' n' [] lq),.lit (.int .i64 0)],[],x=cntB n'∧xs=lq.map fnA∧c'.length=16∧0≤n'∧n'≤1099511627776∧ObK lq)
  | 52,[.by_ a,.by_ b],[]=>some (.lit (.bool true),[],a=b)
  | 89,[.agg [.by_ e',.by_ c',.lit (.int .i64 n'),.by_ x],.by_ v],[]=>some (.tup [.fr (.by_ d),.lit (.int .i64 0)],[],x=cntB n'∧v=(cgO e' n' d).2∧e'.length=16∧0≤n'∧n'≤1099511627776∧0<d.length∧d.length≤1000)
  | 89,[.agg [.by_ e',.by_ c',.lit (.int .i64 n'),.by_ x],.lit (.slice none 0 0)],[]=>some (.tup [.lit (.slice none 0 0),.lit (.int .i64 0)],[],x=cntB n')
  | _,_,_=>none
theorem sgOp_ok {W:List UInt8} {v0 v1 v2:AV} {lq:List Ob} {d:List UInt8} (hO:FnS Tryz.prog 87 [.by_ W,.li 1 ([142,153].map iA),.li 4 ([⟨135,2,4096,false⟩,⟨153,2,2,true⟩,⟨142,8,8,true⟩].map fdA)] [] (.tup [.fr (.li 1 [v0,v1,v2]),.li 3 (lq.map fnA),.lit (.int .i64 0)]) []):SgOK Tryz.prog (sgOp W v0 v1 v2 lq d):=by
  intro f args ls r ls' vc h hvc;unfold sgOp at h;split at h <;> cases h
  · exact ⟨(fnOK Tryz.func33 (by decide) rfl),mvalid_s _ _ _ hvc.1 hvc.2.1 hvc.2.2⟩
  · exact ⟨(fnOK Tryz.func86 (by decide) rfl),response_s _ _ hvc.1 hvc.2⟩
  · exact ⟨(fnOK Tryz.func34 (by decide) rfl),mnext_s _ _ _ hvc.1 hvc.2.1 (by omega)⟩
  · subst hvc;exact ⟨(fnOK Tryz.func87 (by decide) rfl),hO⟩
  · exact ⟨(fnOK Tryz.func88 (by decide) rfl),status_s _ hvc⟩
  · obtain ⟨rfl,rfl,h1,h2,h3,h5⟩:=hvc;exact ⟨(fnOK Tryz.func67 (by decide) rfl),FnS.nilArg (a:=[unA _ _ _]) (ucode_s _ _ _ [] _ h1 ⟨h2,h3⟩ (by simp) h5)⟩
  · subst hvc;refine ⟨(fnOK Tryz.func52 (by decide) rfl),?_⟩;rename_i a;have:=bequal_s a a;simpa using this
  · obtain ⟨rfl,rfl,h1,h2,h3,h4,h5⟩:=hvc;exact ⟨(fnOK Tryz.func89 (by decide) rfl),uopen_s _ _ _ _ h1 ⟨h2,h3⟩ h4 h5⟩
  · subst hvc;exact ⟨(fnOK Tryz.func89 (by decide) rfl),uopen0_s _ _ _⟩
theorem openD_s (e c:List UInt8) (n:Int) (d:List UInt8) (st:Int) (h1:e.length=16) (h2:c.length=16) (h3:0≤n∧n≤1099511627775) (hst:0≤st∧st≤65535) (hd:0<d.length) (hd2:d.length≤70) (hl:(rpD e c n d st).length≤4096) :
    FnS Tryz.prog 47 [ssA e c n,rsX (rpD e c n d st) st] [] (.tup [rsX d st,ssA e c (n+1),.lit (.int .i64 0)]) []:=by
  have hs:=sgOp_ok (d:=d) (objOD (cgO e (n+1) d).2 (octL st 2) (codU c (n+1) [] [cgO e (n+1) d,stO st]) (cgO_K2 _ _ _) (cgO_len _ _ _ hd2) (oct2 hst).2 (codU_len _ _ _ _));rw [cgO_eq2,show ((153:Int),octL st 2)=stO st from rfl] at hs
  have hw:obW [cgO e (n+1) d,stO st,(142,codU c (n+1) [] [cgO e (n+1) d,stO st])]=rpD e c n d st:=rfl;rw [hw] at hs;have ok1:ObK [cgO e (n+1) d,stO st]:=⟨by simp,fun x hx=>by
    simp only [List.mem_cons,List.not_mem_nil,or_false] at hx;rcases hx with rfl | rfl
    · exact ⟨cgO_tag _ _ _,cgO_len _ _ _ hd2⟩
    · exact stO_ok st hst⟩
  have n1:(n == 1099511627776)=false:=beq_eq_false_iff_ne.2 (by omega);have n2:n≤1099511627776:=by omega
  have n5:0≤n+1:=by omega
  have n6:n+1≤1099511627776:=by omega
  have hd3:d.length≤1000:=by omega
  have td:=List.take_of_length_le (Nat.le_refl d.length);generalize rpD e c n d st=W at hs hl hw;generalize hlq:[cgO e (n+1) d,stO st]=lq at hs ok1;have hT:=Tr_fns lq;unfold ssA rsX;refine fo Tryz.func47 115 fun X hX=>?_;refine up 4 ?_;refine rK hs fun K hK=>?_;simp only [go_sem,sgOp,h1,h2,h3,n2,hl,hst]
  refine eK ?_;refine up 1 ?_;refine rK hs fun K hK=>?_;simp only [go_sem,n1]
  refine eK ?_;refine up 3 ?_;refine rK hs fun K hK=>?_;simp only [go_sem,sgOp,hT]
  refine eK ?_;refine up 4 ?_
  refine rK hs fun K hK=>?_;simp only [go_sem,sgOp,h1,h2,h3]
  refine eK ?_;refine up 1 ?_;refine rK hs fun K hK=>?_;simp only [go_sem,sgOp,h2,n5,n6,hT,ok1]
  refine eK ?_;refine rK hs fun K hK=>?_;simp only [go_sem,sgOp,hlq]
  refine eK ?_;refine up 3 ?_;refine WA.drawnK mixed_ ty_ok hs (tbl:=[[],[0],[0,1],[0,1,2],[],[4],[4,5],[0,1,2,3,4,5,6],[0,1,2,3,4,5,6,7]]) (nb:=[1,2,6,7]) (by kernel_rfl) fun K hK=>?_;simp only [go_sem,sgOp,hst]
  refine eK ?_;refine up 2 ?_
  refine WA.drawnK mixed_ ty_ok hs (tbl:=[[],[],[1],[1,2],[0,1,2,3],[0,1,2,3,4],[0,1,2,3,4,5],[0,1,2,3,4,5],[0,1,2,3,4,5,6],[0,1,2,3,4,5,6,7,8]]) (nb:=[0,3,4]) (by kernel_rfl) fun K hK=>?_;simp only [go_sem,sgOp,h1,n5,n6,hd,hd3]
  refine eK ?_;refine up 4 ?_
  refine WA.drawnH mixed_ ty_ok hs (tbl:=[[],[],[1],[0,1,2],[],[4],[0,1,2,3],[0,1,2,3,4,5,6],[0,1,2,3,4,5,6,7]]) (nb:=[2,5,6,7]) (hk:=[[],[],[],[],[2016],[2016],[],[],[]]) (by kernel_rfl) fun K hK=>?_;simp only [go_sem,true_and]
  refine eK ?_;refine rE [rsX d st,ssA e c (n+1),.lit (.int .i64 0)] [] [.cell 4 65,.cell 5 55,.tmp 6] ?_;simp only [go_sem,sbT,td,rsX,ssA];all_goals exact agA
theorem openE_s (e c:List UInt8) (n:Int) (st:Int) (h1:e.length=16) (h2:c.length=16) (h3:0≤n∧n≤1099511627775) (hst:0≤st∧st≤65535) (hl:(rpE c n st).length≤4096) :
    FnS Tryz.prog 47 [ssA e c n,rsX (rpE c n st) st] [] (.tup [rsX [] st,ssA e c (n+1),.lit (.int .i64 0)]) []:=by
  have hs:=sgOp_ok (d:=[]) (objOE (octL st 2) (codU c (n+1) [] [stO st]) (oct2 hst).2 (codU_len _ _ _ _));rw [show ((153:Int),octL st 2)=stO st from rfl] at hs
  have hw:obW [stO st,(142,codU c (n+1) [] [stO st])]=rpE c n st:=rfl;rw [hw] at hs;have ok1:ObK [stO st]:=⟨by simp,fun x hx=>by
    rw [List.mem_singleton] at hx;subst hx;exact stO_ok st hst⟩
  have n1:(n == 1099511627776)=false:=beq_eq_false_iff_ne.2 (by omega);have n2:n≤1099511627776:=by omega
  have n5:0≤n+1:=by omega
  have n6:n+1≤1099511627776:=by omega
  generalize rpE c n st=W at hs hl hw;generalize hlq:[stO st]=lq at hs ok1;have hT:=Tr_fns lq;unfold ssA rsX;refine fo Tryz.func47 115 fun X hX=>?_;refine up 4 ?_;refine rK hs fun K hK=>?_;simp only [go_sem,sgOp,h1,h2,h3,n2,hl,hst]
  refine eK ?_;refine up 1 ?_;refine rK hs fun K hK=>?_;simp only [go_sem,n1]
  refine eK ?_;refine up 3 ?_;refine rK hs fun K hK=>?_;simp only [go_sem,sgOp,hT]
  refine eK ?_;refine up 4 ?_
  refine rK hs fun K hK=>?_;simp only [go_sem,sgOp,h1,h2,h3]
  refine eK ?_;refine up 1 ?_;refine rK hs fun K hK=>?_;simp only [go_sem,sgOp,h2,n5,n6,hT,ok1]
  refine eK ?_;refine rK hs fun K hK=>?_;simp only [go_sem,sgOp,hlq]
  refine eK ?_;refine up 3 ?_;refine WA.drawnK mixed_ ty_ok hs (tbl:=[[],[0],[0,1],[0,1,2],[],[4],[4,5],[0,1,2,3,4,5,6],[0,1,2,3,4,5,6,7]]) (nb:=[1,2,6,7]) (by kernel_rfl) fun K hK=>?_;simp only [go_sem,sgOp,hst]
  refine eK ?_;refine up 2 ?_
  refine WA.drawnK mixed_ ty_ok hs (tbl:=[[],[],[1],[1,2],[0,1,2,3],[0,1,2,3,4],[0,1,2,3,4,5],[0,1,2,3,4,5],[0,1,2,3,4,5,6],[0,1,2,3,4,5,6,7,8]]) (nb:=[0,3,4]) (by kernel_rfl) fun K hK=>?_;simp only [go_sem,sgOp,h1,n5,n6]
  refine eK ?_;refine up 4 ?_
  refine WA.drawnH mixed_ ty_ok hs (tbl:=[[],[],[1],[0,1,2],[],[4],[0,1,2,3],[0,1,2,3,4,5,6],[0,1,2,3,4,5,6,7]]) (nb:=[2,5,6,7]) (hk:=[[],[],[],[],[2016],[2016],[],[],[]]) (by kernel_rfl) fun K hK=>?_;simp only [go_sem,true_and]
  refine eK ?_;refine rE [rsX [] st,ssA e c (n+1),.lit (.int .i64 0)] [] [.cell 4 65,.cell 5 55,.tmp 6] ?_;simp only [go_sem,sbT,rsX,ssA];all_goals exact agA
end
theorem status_c (n:Int):FnS Tryz.prog 59 [.lit (.int .i64 n)] [] (rsX [] n) []:=by
  have hs:=sg0_ok;refine fo Tryz.func59 5 fun X hX=>?_;refine up 2 ?_;refine rE [rsX [] n] [] [.cell 2 65] ?_;simp only [go_sem,sbT,rsX];all_goals exact agA
theorem both_c (a b c d x:Int) (l:List UInt8):FnS Tryz.prog 190 [cmX a b c d l x] [] (.lit (.bool (bif c == 0 then d == 0 else false))) []:=by
  have hs:=sg0_ok;unfold cmX;refine fo Tryz.func190 11 fun X hX=>?_;refine up 2 ?_;refine rE [.lit (.bool (bif c == 0 then d == 0 else false))] [] [.tmp 2] ?_;simp only [go_sem,sbT];all_goals exact agA
def sgCl1:Sg:=fun f args ls =>
  match f,args,ls with
  | 46,[.by_ bs],[]=>some (.fr (.by_ bs),[],bs.length≤140737488355328)
  | _,_,_=>none
theorem sgCl1_ok:SgOK Tryz.prog sgCl1:=by
  intro f args ls r ls' vc h hvc;unfold sgCl1 at h;split at h <;> cases h
  · exact ⟨(fnOK Tryz.func46 (by decide) rfl),sclone_s _ hvc⟩
theorem clonesess_c (e c:List UInt8) (n:Int) (h1:e.length≤100000) (h2:c.length≤100000):FnS Tryz.prog 56 [ssA e c n] [] (ssA e c n) []:=by
  have hs:=sgCl1_ok;have t1:=List.take_of_length_le (Nat.le_refl e.length);have t2:=List.take_of_length_le (Nat.le_refl c.length);have b1:e.length≤140737488355328:=by omega
  have b2:c.length≤140737488355328:=by omega
  unfold ssA;refine fo Tryz.func56 12 fun X hX=>?_;refine up 1 ?_;refine WA.drawnK mixed_ ty_ok hs (tbl:=[[],[0],[0,1],[],[3],[0,1,2,3,4],[0,1,2,3,4],[0,1,2,3,4,5,6],[0,1,2,3,4,5,6,7],[0,1,2,3,4,5,6,7,8]]) (nb:=[1,2,4,5,7,9]) (by kernel_rfl) fun K hK=>?_;simp only [go_sem,sgCl1,b1,b2]
  refine eK ?_;refine up 1 ?_;refine rE [ssA e c n] [] [.cell 2 55] ?_;simp only [go_sem,sbT,t1,t2,ssA];all_goals exact agA
theorem clonecmd_c (a b c d x:Int) (l:List UInt8) (h:l.length≤100000):FnS Tryz.prog 57 [cmX a b c d l x] [] (cmX a b c d l x) []:=by
  have hs:=sgCl1_ok;have t1:=List.take_of_length_le (Nat.le_refl l.length);have b1:l.length≤140737488355328:=by omega
  unfold cmX;refine fo Tryz.func57 8 fun X hX=>?_;refine up 1 ?_;refine rK hs fun K hK=>?_;simp only [go_sem,sgCl1,b1]
  refine eK ?_;refine up 1 ?_;refine rE [cmX a b c d l x] [] [.cell 2 25] ?_;simp only [go_sem,sbT,t1,cmX];all_goals exact agA
end Go.Proofs.YtjjkfpbkmhfckaaGreatDoor
namespace Go.Proofs.YtjjkfpbkmhfckaaGreatDoor
open Go.RowKit Go.TravelBase Go.TravelAbs Go.ChangeShapes Go.WideShapes Go.ChangeAt Go.Deep
section
variable {H:Type} {enc:TypeId × Value→H} {W:World}
theorem opz_cm (fuel:Nat):OpnSz enc Tryz.prog W fuel 25 (fun x=>∃ (a b c d e:Int) (l:List UInt8),x=cmX a b c d l e):=by
  refine OpnSz.mono (OpnSz.structL (fun k x=>match k with | 4=>∃ bs,x = .by_ bs∧bs.length≤reachBytes | _=>∃ a,x = .lit (.int .i64 a)∧(Lit.int .i64 a).wf=true) Tryz.underlying25 (by kernel_rfl)
    ⟨fun n _=>(OpnAt.int Tryz.underlying3).sz,fun n _=>(OpnAt.int Tryz.underlying3).sz,fun n _=>(OpnAt.int Tryz.underlying3).sz,fun n _=>(OpnAt.int Tryz.underlying3).sz,fun n _=>.bytes Tryz.underlying23 Tryz.underlying5 (by kernel_rfl) (by kernel_rfl),fun n _=>(OpnAt.int Tryz.underlying3).sz,trivial⟩) fun x hx=>?_
  obtain ⟨ps,rfl,hl,hp⟩:=hx;match ps,hl with
  | [p0,p1,p2,p3,p4,p5],_ =>
    obtain ⟨a,rfl,_⟩:=hp 0 p0 rfl;obtain ⟨b,rfl,_⟩:=hp 1 p1 rfl;obtain ⟨c,rfl,_⟩:=hp 2 p2 rfl;obtain ⟨d,rfl,_⟩:=hp 3 p3 rfl;obtain ⟨l,rfl,_⟩:=hp 4 p4 rfl;obtain ⟨e,rfl,_⟩:=hp 5 p5 rfl;exact ⟨a,b,c,d,e,l,rfl⟩
end
end Go.Proofs.YtjjkfpbkmhfckaaGreatDoor
namespace Go.Proofs.YtjjkfpbkmhfckaaGreatDoor
open Go.RowKit Go.TravelBase Go.TravelAbs
section
attribute [local irreducible] digB keyB sealB chkB openB codeB enc1 padB cgO codU hdB obW
def exO:Ob:=(151,octL 0 1)
theorem oct01:octE 0 1=0∧(octL 0 1).length=1:=by
  have e:octE 0 1=0:=by
    have p7:((p256 (Int.toNat 1):Nat):Int)=256:=rfl;unfold octE;rw [if_neg (by omega),p7,if_neg (by omega)]
  refine ⟨e,?_⟩;unfold octL;rw [if_pos e];exact length_beS _ _
def wrE (c:List UInt8) (n ins p1 p2:Int):List UInt8:=obW [exO,(142,codU c (n+1) (hdB 12 ins p1 p2) [exO])]
theorem ok_ex:ObK [exO]:=⟨by simp,fun x hx=>by
    rw [List.mem_singleton] at hx;subst hx;exact ⟨.inr (.inl rfl),by show (octL 0 1).length≤100;rw [oct01.2];omega⟩⟩
theorem wrapE_s (e c:List UInt8) (n ins p1 p2:Int) (h1:e.length=16) (h2:c.length=16) (h3:0≤n∧n≤1099511627775) (hv:valC ⟨0,ins,p1,p2,[],256⟩=true) :
    FnS Tryz.prog 14 [ssA e c n,cmX 0 ins p1 p2 [] 256] [] (.tup [cmX 12 ins p1 p2 (wrE c n ins p1 p2) 65536,ssA e c (n+1),.lit (.int .i64 0)]) []:=by
  have hs:=sgWr_ok e c n ins p1 p2 [exO];have n1:(n == 1099511627776)=false:=beq_eq_false_iff_ne.2 (by omega);have n2:n≤1099511627776:=by omega
  have ok1:=ok_ex;have hm:[AV.agg [.lit (.int .i64 151),.by_ (octL 0 1),.lit (.slice none 0 0)]]=[exO].map fnA:=rfl;have hh1:=hdB_len 12 ins p1 p2;have ht:=List.take_of_length_le (Nat.le_refl (hdB 12 ins p1 p2).length);have hTC:TrC (.li 3 [fnA exO])=True:=eq_true (TrC_fns [exO]);have n5:0≤n+1:=by omega
  have n6:n+1≤1099511627776:=by omega
  have tw:=List.take_of_length_le (Nat.le_refl (wrE c n ins p1 p2).length);have hw:obW [exO,(142,codU c (n+1) (hdB 12 ins p1 p2) [exO])]=wrE c n ins p1 p2:=rfl;have a1:bits .and .i64 0 12=0:=by decide
  have a2:bits .or .i64 0 12=12:=by decide
  obtain ⟨o1,o2⟩:=oct01;have o3:List.take 1 (octL 0 1)=octL 0 1:=List.take_of_length_le (by omega);unfold ssA cmX;refine fo Tryz.func14 96 fun X hX=>?_;refine up 3 ?_;refine rK hs fun K hK=>?_;simp only [go_sem,sgWr,h1,h2,h3,n2,hv,a1,a2]
  refine eK ?_;refine up 1 ?_;refine rK hs fun K hK=>?_;simp only [go_sem,n1]
  refine eK ?_;refine up 2 ?_
  refine rK hs fun K hK=>?_;simp only [go_sem,sgWr,h1,h2,h3]
  refine eK ?_;refine rK hs fun K hK=>?_;simp only [go_sem,sgWr]
  refine eK ?_;refine up 8 ?_
  have w8:IntKind.i64.wrap (1*2 ^ (if ((8:Int)*1).toNat≤64 then ((8:Int)*1).toNat else 64))=256:=by decide
  have t8:Int.tmod 256 256=0:=by decide
  refine WA.drawnK mixed_ ty_ok hs (tbl:=[[],[0],[],[2],[2,3],[0,1,2,3,4],[],[0,1,2,3,4,5,6],[0,1,2,3,4,5,6,7],[0,1,2,3,4,5,6,7,8],[0,1,2,3,4,5,6,7,8],[0,1,2,3,4,5,6,7,8,9],[0,1,2,3,4,5,6,7,8,9,10,11]]) (nb:=[1,7]) (by kernel_rfl) fun K hK=>?_;simp only [go_sem,sgWr,o1,o2,o3,w8,t8]
  refine eK ?_;refine WA.regionE ty_ok hs fun K hK=>?_;simp only [go_sem,o2,o3]
  refine eN ?_
  refine WA.norm 2504 fun K hK=>?_;simp only [go_sem,o2,o3]
  refine eK ?_;refine up 1 ?_;refine rK hs fun K hK=>?_;simp only [go_sem,a2]
  refine eK ?_;refine up 1 ?_;refine WA.drawnH mixed_ ty_ok hs (tbl:=[[],[],[1],[],[0,1,2,3],[0,1,2,3,4],[0,1,2,3,4,5],[0,1,2,3,4,5],[0,1,2,3,4,5,6],[0,1,2,3,4,5,6,7,8]]) (nb:=[0,1,2,4]) (hk:=[[],[],[],[],[],[],[],[],[],[]]) (by kernel_rfl) fun K hK=>?_;simp only [go_sem,sgWr,h1,h2,h3,hm,ok1,hh1,ht,hTC,n5,n6,hw]
  refine eK ?_;refine up 5 ?_;refine WA.drawnH mixed_ ty_ok hs (tbl:=[[],[],[1],[0],[0,1,2,3],[0,1,2,3,4]]) (nb:=[0,2,3,4]) (hk:=[[],[2016],[2016],[],[],[]]) (by kernel_rfl) fun K hK=>?_;simp only [go_sem,true_and]
  refine eK ?_;refine rE [cmX 12 ins p1 p2 (wrE c n ins p1 p2) 65536,ssA e c (n+1),.lit (.int .i64 0)] [] [.cell 4 25,.cell 5 55,.tmp 6] ?_;simp only [go_sem,sbT,tw,cmX,ssA];all_goals exact agA
end
end Go.Proofs.YtjjkfpbkmhfckaaGreatDoor
