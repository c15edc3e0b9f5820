import Derived.Test.YtjjkfpbkmhfckaaGreatDoorK20
set_option linter.unusedVariables false
set_option linter.unusedSimpArgs false
set_option maxHeartbeats 1000000
set_option maxRecDepth 10000
namespace Go.Proofs.YtjjkfpbkmhfckaaGreatDoor
open Go.RowKit Go.TravelBase Go.TravelAbs
def tgK (t:Int):Prop:=t=135∨t=151∨t=153∨t=142
theorem tgK_v {t:Int} (h:tgK t):tagV t=true∧consT t=false∧longT t=false∧0<t∧t<256:=by
  rcases h with rfl | rfl | rfl | rfl <;> exact ⟨by decide,by decide,by decide,by decide,by decide⟩
abbrev Ob:=Int × List UInt8
def fnA (x:Ob):AV:=.agg [.lit (.int .i64 x.1),.by_ x.2,.lit (.slice none 0 0)]
def ObK (l:List Ob):Prop:=l.length≤10 ∧ ∀ x∈l,tgK x.1∧x.2.length≤100
def unO:AV→Ob
  | .agg [.lit (.int _ t),.by_ v,_]=>(t,v)
  | _=>(0,[])
theorem un_fns (l:List Ob):(l.map fnA).map unO=l:=by
  rw [List.map_map];exact List.map_id'' (fun _=>rfl) l
theorem Tr_fns (l:List Ob):Tr (.li 3 (l.map fnA))=True:=eq_true (Tr.li fun x hx y hy=>by
  obtain ⟨f,_,rfl⟩:=List.mem_map.1 hx;simp only [fnA,AV.cl,List.mem_cons,List.not_mem_nil,or_false] at hy;rcases hy with rfl | rfl | rfl
  · exact Tr.lit _
  · exact Tr.by_ _
  · exact Tr.lit _)
theorem fn_at {l:List Ob} {i:Nat} (h:i<l.length):(l.map fnA).getD i .any = .agg [.lit (.int .i64 l[i].1),.by_ l[i].2,.lit (.slice none 0 0)]:=by
  simp [List.getD,List.getElem?_eq_getElem h,fnA]
theorem chk0_s (d c:Int):FnS Tryz.prog 115 [.lit (.slice none 0 0),.lit (.int .i64 d),.ptr 0 0 0] [.li 1 [.lit (.int .i64 c)]] (.lit (.int .i64 0)) [.li 1 [.lit (.int .i64 c)]]:=by
  have hs:=sg0_ok;refine fo Tryz.func115 59 fun X hX=>?_;refine up 4 ?_;refine WA.loopW hX (fun k=>k) ((fun (i:Nat)=>⟨[(11,.lit (.slice none 0 0)),(12,.lit (.int .i64 0)),(13,.lit (.int .i64 0))],[(0,⟨.li 1 [.lit (.int .i64 c)],0,true⟩)],4000,59⟩:_→St)) (fun i=>0) (fun i=>True) (i0:=0) (trivial) (by simp only [go_sem,Int.natCast_add,true_and] <;> (try and_intros) <;> (try omega)) fun i hi=>?_
  refine up 2 ?_;refine WA.cond rfl (fun h=>absurd h (by simp)) (fun h=>?_);refine up 2 ?_;refine rE [.lit (.int .i64 0)] [.li 1 [.lit (.int .i64 c)]] [.tmp 6] ?_;simp only [go_sem,sbT]
def sgTc:Sg:=fun f args ls =>
  match f,args,ls with
  | 162,[.lit (.int .i64 x)],[]=>some (.lit (.bool (tagV x)),[],True)
  | 161,[.lit (.int .i64 x)],[]=>some (.lit (.bool (consT x)),[],True)
  | 115,[.lit (.slice none 0 0),.lit (.int .i64 d),.ptr 0 0 0],[.li 1 [.lit (.int .i64 c)]]=>some (.lit (.int .i64 0),[.li 1 [.lit (.int .i64 c)]],True)
  | _,_,_=>none
theorem sgTc_ok:SgOK Tryz.prog sgTc:=by
  intro f args ls r ls' vc h hvc;unfold sgTc at h;split at h <;> cases h
  · exact ⟨(fnOK Tryz.func162 (by decide) rfl),tvalid_s _⟩
  · exact ⟨(fnOK Tryz.func161 (by decide) rfl),cons_s _⟩
  · exact ⟨(fnOK Tryz.func115 (by decide) rfl),chk0_s _ _⟩
theorem tcheck_s (l:List Ob) (hl:ObK l):FnS Tryz.prog 115 [.li 3 (l.map fnA),.lit (.int .i64 1),.ptr 0 0 0] [.li 1 [.lit (.int .i64 0)]] (.lit (.int .i64 0)) [.li 1 [.lit (.int .i64 (l.length:Nat))]]:=by
  have hs:=sgTc_ok;obtain ⟨hn,hx⟩:=hl;have hT:=Tr_fns l;refine fo Tryz.func115 59 fun X hX=>?_;refine up 2 ?_;refine rK hs fun K hK=>?_;simp only [go_sem,List.length_map]
  refine eK ?_;refine up 1 ?_;refine WA.loopW hX (fun k=>k) ((fun (i:Nat)=>⟨[(1,.lit (.int .i64 1)),(2,.ptr 0 0 0),(11,.li 3 (l.map fnA)),(12,.lit (.int .i64 (l.length:Nat))),(13,.lit (.int .i64 (i:Nat)))],[(0,⟨.li 1 [.lit (.int .i64 (i:Nat))],0,true⟩)],4000,59⟩:_→St)) (fun i=>l.length-i) (fun i=>i≤l.length) (i0:=0) (Nat.zero_le _) (by simp only [go_sem,Int.natCast_add,Int.natCast_zero,hT] <;> (try and_intros) <;> (try omega)) fun i hi=>?_
  refine up 2 ?_;refine WA.cond rfl (fun h=>?_) (fun h=>?_)
  ·
    have h:i<l.length:=by first | (simp [true_and] at h;omega) | (simp [true_and] at h;exact h) | omega | simpa using h
    have g:=fn_at h;obtain ⟨hk,hv⟩:=hx _ (List.getElem_mem h);obtain ⟨k1,k2,k3,k4,k5⟩:=tgK_v hk;refine up 3 ?_;refine rK hs fun K hK=>?_;simp only [go_sem,g,List.length_map]
    refine eK ?_;refine up 1 ?_;refine rK hs fun K hK=>?_;simp only [go_sem,sgTc,k2]
    refine eK ?_;refine up 2 ?_;refine rK hs fun K hK=>?_;simp only [go_sem,sgTc,k1,Bool.not_true]
    refine eK ?_;refine WA.cond rfl (fun h=>absurd h (by simp)) (fun h=>?_);refine up 2 ?_;refine WA.cond rfl (fun h=>absurd h (by simp)) (fun h=>?_);refine up 1 ?_
    refine WA.cond rfl (fun h=>absurd h (by simp)) (fun h=>?_);refine up 1 ?_;refine WA.cond rfl (fun h=>absurd h (by simp)) (fun h=>?_);refine up 1 ?_
    refine rK hs fun K hK=>?_;simp only [go_sem,sgTc]
    refine eK ?_;refine up 1 ?_;refine WA.cond rfl (fun h=>absurd h (by simp)) (fun h=>?_);refine up 1 ?_
    refine WA.regionE ty_ok hs fun K hK=>?_;simp only [go_sem,true_and]
    (repeat refine sdA ?_);refine hK _ (roundE hX (fun k=>k) (j:=i+1) (by omega) (by first | omega | (dsimp only;omega) | (simp;omega)) (by simp only [go_sem,Int.natCast_add,hT] <;> (try and_intros) <;> (try omega)))
  ·
    have h:¬ i<l.length:=by first | (simp [true_and] at h;omega) | (simp [true_and] at h;exact h) | omega | simpa using h
    obtain rfl:i=l.length:=by omega
    refine up 2 ?_;refine rE [.lit (.int .i64 0)] [.li 1 [.lit (.int .i64 (l.length:Nat))]] [.tmp 6] ?_;simp only [go_sem,sbT]
def obB (x:Ob):List UInt8:=UInt8.ofNat (IntKind.u8.wrap x.1).toNat::UInt8.ofNat x.2.length::x.2
def obW:List Ob→List UInt8
  | []=>[]
  | x::r=>obB x++obW r
theorem obW_snoc (l:List Ob) (x:Ob):obW (l++[x])=obW l++obB x:=by
  induction l with
  | nil=>simp [obW]
  | cons y r ih=>rw [List.cons_append,obW,ih,obW,List.append_assoc]
theorem obB_len (x:Ob):(obB x).length=2+x.2.length:=by
  unfold obB;rw [List.length_cons,List.length_cons];omega
theorem obW_len (l:List Ob) (h:∀ x∈l,x.2.length≤100):(obW l).length≤102*l.length:=by
  induction l with
  | nil=>exact Nat.le_refl _
  | cons x r ih =>
    have h1:=ih fun y hy=>h y (by simp [hy]);have h2:=h x (by simp);rw [obW,List.length_append,obB_len,List.length_cons];omega
theorem tlen_s (n:Nat) (h:n<128):FnS Tryz.prog 163 [.lit (.int .i64 n)] [] (.fr (.by_ [UInt8.ofNat n])) []:=by
  have hs:=sg0_ok;have e:UInt8.ofNat (IntKind.u8.wrap (n:Int)).toNat=UInt8.ofNat n:=by
    rw [IntKind.wrap_u8];congr 1
    omega
  refine fo Tryz.func163 28 fun X hX=>?_;refine up 3 ?_;refine WA.cond rfl (fun h=>?_) (fun h=>absurd h (by simp;omega));refine rK hs fun K hK=>?_;simp only [go_sem,e]
  refine eK ?_;refine rE [.fr (.by_ [UInt8.ofNat n])] [] [.tmp 2] ?_;simp only [go_sem,sbT];all_goals exact agA
def sgTw:Sg:=fun f args ls =>
  match f,args,ls with
  | 161,[.lit (.int .i64 x)],[]=>some (.lit (.bool (consT x)),[],True)
  | 163,[.lit (.int .i64 n)],[]=>some (.fr (.by_ [UInt8.ofNat n.toNat]),[],0≤n∧n<128)
  | _,_,_=>none
theorem sgTw_ok:SgOK Tryz.prog sgTw:=by
  intro f args ls r ls' vc h hvc;unfold sgTw at h;split at h <;> cases h
  · exact ⟨(fnOK Tryz.func161 (by decide) rfl),cons_s _⟩
  · rename_i n;obtain ⟨k,rfl⟩:∃ k:Nat,n=k:=⟨n.toNat,by omega⟩;exact ⟨(fnOK Tryz.func163 (by decide) rfl),tlen_s k (by omega)⟩
theorem twrite_s (l:List Ob) (hl:ObK l):FnS Tryz.prog 116 [.li 3 (l.map fnA)] [] (.fr (.by_ (obW l))) []:=by
  have hs:=sgTw_ok;obtain ⟨hn,hx⟩:=hl;have hT:=Tr_fns l;refine fo Tryz.func116 47 fun X hX=>?_;refine up 2 ?_;refine WA.own0 3 (.by_ []) rfl rfl ?_;refine up 1 ?_;refine rK hs fun K hK=>?_;simp only [go_sem,List.length_map]
  refine eK ?_;refine up 1 ?_;have w0:obW []=[]:=rfl;refine WA.loopW hX (fun k=>if k=3000 then 2016 else k) ((fun (i:Nat)=>⟨[(3,.sl 3000 1 0 (obW (l.take i)).length),(7,.li 3 (l.map fnA)),(8,.lit (.int .i64 (l.length:Nat))),(9,.lit (.int .i64 (i:Nat)))],[(3000,⟨.by_ (obW (l.take i)),0,false⟩)],4000,47⟩:_→St)) (fun i=>l.length-i) (fun i=>i≤l.length) (i0:=0) (Nat.zero_le _) (by simp only [go_sem,Int.natCast_add,Int.natCast_zero,hT,w0,List.take_zero,List.length_nil] <;> (try and_intros) <;> (try omega)) fun i hi=>?_
  refine up 2 ?_;refine WA.cond rfl (fun h=>?_) (fun h=>?_)
  ·
    have h:i<l.length:=by first | (simp [true_and] at h;omega) | (simp [true_and] at h;exact h) | omega | simpa using h
    have g:=fn_at h;obtain ⟨hk,hv⟩:=hx _ (List.getElem_mem h);obtain ⟨k1,k2,k3,k4,k5⟩:=tgK_v hk;have ht:l.take (i+1)=l.take i++[l[i]]:=(List.take_append_getElem h).symm;have n1:=obW_snoc (l.take i) l[i];rw [← ht] at n1;have hW:=obW_len (l.take i) fun x hx'=>(hx x (List.mem_of_mem_take hx')).2;rw [List.length_take] at hW;have hWb:(obW (l.take i)).length≤1020:=by omega
    obtain ⟨W,hWe⟩:∃ W,obW (l.take i)=W:=⟨_,rfl⟩;rw [hWe] at n1 hWb;simp only [hWe];generalize l[i]=x at g hk hv k1 k2 k3 k4 k5 n1;obtain ⟨t,v⟩:=x;simp only at g hv k2 k5
    have lc:((v.length:Nat):Int).toNat=v.length:=Int.toNat_natCast _;refine up 3 ?_;refine rK hs fun K hK=>?_;simp only [go_sem,g,List.length_map]
    refine eK ?_;refine up 2 ?_;refine rK hs fun K hK=>?_;simp only [go_sem,sgTw,k2]
    refine eK ?_;refine WA.cond rfl (fun h=>absurd h (by simp)) (fun h=>?_);refine WA.skipT ?_;refine up 2 ?_;refine WA.cond rfl (fun h=>absurd h (by simp;omega)) (fun h=>?_);refine WA.skipT ?_;refine up 1 ?_;refine rK hs fun K hK=>?_;simp only [go_sem,sgTw,lc]
    refine eK ?_;have n2:W++[UInt8.ofNat (IntKind.u8.wrap t).toNat]++[UInt8.ofNat v.length]++v=obW (List.take (i+1) l):=by
      rw [n1];simp [obB]
    have n3:(obW (List.take (i+1) l)).length=W.length+1+1+v.length:=by
      rw [← n2];simp;omega
    refine WA.regionE ty_ok hs fun K hK=>?_;simp only [go_sem,true_and]
    (repeat refine sdA ?_);simp only [n2];with_reducible refine hK _ (WN.mk ?_)
    clear hK K;with_reducible repeat first | refine WN.t ?_ | refine WN.b ?_
    refine WA.regionE ty_ok hs fun K hK=>?_;simp only [go_sem,true_and]
    (repeat refine sdA ?_);refine hK _ (roundE hX (fun k=>if k=3000 then 4232 else k) (j:=i+1) (by omega) (by first | omega | (dsimp only;omega) | (simp;omega)) (by simp only [go_sem,Int.natCast_add,hT,n3] <;> (try and_intros) <;> (try omega)))
  ·
    have h:¬ i<l.length:=by first | (simp [true_and] at h;omega) | (simp [true_and] at h;exact h) | omega | simpa using h
    obtain rfl:i=l.length:=by omega
    simp only [List.take_length];refine up 2 ?_;refine rE [.fr (.by_ (obW l))] [] [.tmp 2] ?_;simp only [go_sem,sbT];all_goals exact agA
def sgTe:Sg:=fun f args ls =>
  match f,args,ls with
  | 115,[.li 3 xs,.lit (.int .i64 1),.ptr 0 0 0],[.li 1 [.lit (.int .i64 0)]]=>some (.lit (.int .i64 0),[.li 1 [.lit (.int .i64 (xs.length:Nat))]],∃ l,ObK l∧xs=l.map fnA)
  | 116,[.li 3 xs],[]=>some (.fr (.by_ (obW (xs.map unO))),[],∃ l,ObK l∧xs=l.map fnA)
  | _,_,_=>none
theorem sgTe_ok:SgOK Tryz.prog sgTe:=by
  intro f args ls r ls' vc h hvc;unfold sgTe at h;split at h <;> cases h
  · obtain ⟨l,h1,rfl⟩:=hvc;rw [List.length_map];exact ⟨(fnOK Tryz.func115 (by decide) rfl),tcheck_s l h1⟩
  · obtain ⟨l,h1,rfl⟩:=hvc;rw [un_fns];exact ⟨(fnOK Tryz.func116 (by decide) rfl),twrite_s l h1⟩
theorem tenc_s (l:List Ob) (hl:ObK l):FnS Tryz.prog 68 [.li 3 (l.map fnA)] [] (.tup [.fr (.by_ (obW l)),.lit (.int .i64 0)]) []:=by
  have hs:=sgTe_ok;have hn:=hl.1;have hT:=Tr_fns l;have hW:=obW_len l fun x hx=>(hl.2 x hx).2;have hex:(∃ m,ObK m∧l.map fnA=m.map fnA)=True:=eq_true ⟨l,hl,rfl⟩;refine fo Tryz.func68 20 fun X hX=>?_;refine up 3 ?_;refine rK hs fun K hK=>?_;simp only [go_sem,sgTe,hT,hex,List.length_map]
  refine eK ?_;refine up 1 ?_;refine WA.cond rfl (fun h=>absurd h (by simp)) (fun h=>?_);refine up 3 ?_;refine WA.cond rfl (fun h=>absurd h (by simp;omega)) (fun h=>?_);refine up 1 ?_
  refine rK hs fun K hK=>?_;simp only [go_sem,sgTe,hT,hex,un_fns]
  refine eK ?_;refine up 2 ?_;refine WA.cond rfl (fun h=>absurd h (by simp;omega)) (fun h=>?_);refine up 2 ?_;refine rE [.fr (.by_ (obW l)),.lit (.int .i64 0)] [] [.tmp 2,.tmp 3] ?_;simp only [go_sem,sbT];all_goals exact agA
section
attribute [local irreducible] digB keyB sealB chkB openB codeB enc1 padB
theorem oct7 {n:Int} (h:0≤n∧n≤1099511627777):octE n 7=0∧(octL n 7).length=7:=by
  have e:octE n 7=0:=by
    have p7:((p256 (Int.toNat 7):Nat):Int)=72057594037927936:=rfl;unfold octE;rw [if_neg (by omega),p7,if_neg (by omega)]
  refine ⟨e,?_⟩;unfold octL;rw [if_pos e];exact length_beS _ _
theorem oct2 {n:Int} (h:0≤n∧n≤65535):octE n 2=0∧(octL n 2).length=2:=by
  have e:octE n 2=0:=by
    have p7:((p256 (Int.toNat 2):Nat):Int)=65536:=rfl;unfold octE;rw [if_neg (by omega),p7,if_neg (by omega)]
  refine ⟨e,?_⟩;unfold octL;rw [if_pos e];exact length_beS _ _
def cntB (n:Int):List UInt8:=List.replicate 9 0++octL n 7
theorem cntB_len {n:Int} (h:0≤n∧n≤1099511627777):(cntB n).length=16:=by
  unfold cntB;rw [List.length_append,(oct7 h).2,List.length_replicate]
def unA (e c:List UInt8) (n:Int):AV:=.agg [.by_ e,.by_ c,.lit (.int .i64 n),.by_ (cntB n)]
def sgUn:Sg:=fun f args ls =>
  match f,args,ls with
  | 46,[.by_ bs],[]=>some (.fr (.by_ bs),[],bs.length≤140737488355328)
  | 36,[.lit (.int .i64 n),.lit (.int .i64 k)],[]=>some (.tup [.fr (.by_ (octL n k)),.lit (.int .i64 (octE n k))],[],0≤n∧n≤1099511627777∧0≤k∧k≤7)
  | 114,[.by_ k,.by_ b],[]=>some (.tup [.by_ (enc1 k b),.lit (.int .i64 0)],[],k.length=16∧b.length=16)
  | 66,[.by_ b],[]=>some (.fr (.by_ (padB b)),[],b.length≤1000000000)
  | _,_,_=>none
theorem sgUn_ok:SgOK Tryz.prog sgUn:=by
  intro f args ls r ls' vc h hvc;unfold sgUn at h;split at h <;> cases h
  · exact ⟨(fnOK Tryz.func46 (by decide) rfl),sclone_s _ hvc⟩
  · exact ⟨(fnOK Tryz.func36 (by decide) rfl),octets_s _ _ (by omega) (by omega)⟩
  · exact ⟨(fnOK Tryz.func114 (by decide) rfl),aesE_s _ _ hvc.1 hvc.2⟩
  · exact ⟨(fnOK Tryz.func66 (by decide) rfl),pad_s _ hvc⟩
theorem mnext_s (e c:List UInt8) (n:Int) (h1:e.length=16) (h2:c.length=16) (h3:0≤n∧n≤1099511627776):FnS Tryz.prog 34 [ssA e c n] [] (unA e c (n+1)) []:=by
  have hs:=sgUn_ok;obtain ⟨o1,o2⟩:=oct7 (n:=n+1) (by omega);have t1:List.take 16 e=e:=List.take_of_length_le (by omega);have t2:List.take 16 c=c:=List.take_of_length_le (by omega);have t3:List.take 7 (octL (n+1) 7)=octL (n+1) 7:=List.take_of_length_le (by omega);have n1:0≤n+1:=by omega
  have n2:n+1≤1099511627777:=by omega
  have hw:IntKind.i64.wrap (n+1)=n+1:=wrap_i64 (by omega) (by omega);unfold ssA;refine fo Tryz.func34 29 fun X hX=>?_;refine up 1 ?_;refine WA.drawnK mixed_ ty_ok hs (tbl:=[[],[0],[0,1],[],[3],[0,1,2,3,4],[],[6],[6,7],[0,1,2,3,4,5,6,7,8],[0,1,2,3,4,5,6,7,8,9],[],[0,1,2,3,4,5,6,7,8,9,10,11]]) (nb:=[1,2,4,5,7,12]) (by kernel_rfl) fun K hK=>?_;simp only [go_sem,sgUn,h1,h2,t1,t2,hw]
  refine eK ?_;refine rK hs fun K hK=>?_;simp only [go_sem,sgUn,hw,n1,n2,o1,o2,t3]
  refine eK ?_;refine rK hs fun K hK=>?_;simp only [go_sem,o2,t3]
  refine eK ?_;refine up 1 ?_;refine rE [unA e c (n+1)] [] [.cell 2 113] ?_;simp only [go_sem,sbT,unA,cntB];exact ⟨⟨by omega,by omega,by omega⟩,t1,t2,List.take_of_length_le (by simp;omega)⟩
theorem vector_s (e c:List UInt8) (n:Int) (h1:e.length=16) (h3:0≤n∧n≤1099511627777):FnS Tryz.prog 65 [unA e c n] [] (.by_ (enc1 e (cntB n))) []:=by
  have hs:=sgUn_ok;have h4:=cntB_len (n:=n) (by omega);unfold unA;refine fo Tryz.func65 15 fun X hX=>?_;refine up 1 ?_;refine rK hs fun K hK=>?_;simp only [go_sem,sgUn,h1,h4]
  refine eK ?_;refine up 1 ?_;refine rE [.by_ (enc1 e (cntB n))] [] [.tmp 2] ?_;simp only [go_sem,sbT];all_goals exact agA
def u8i (x:Int):UInt8:=UInt8.ofNat (IntKind.u8.wrap x).toNat
def hdB (a b c d:Int):List UInt8:=padB [u8i a,u8i b,u8i c,u8i d]
theorem head_s (a b c d x:Int) (l:List UInt8):FnS Tryz.prog 38 [.agg [.lit (.int .i64 a),.lit (.int .i64 b),.lit (.int .i64 c),.lit (.int .i64 d),.by_ l,.lit (.int .i64 x)]] [] (.fr (.by_ (hdB a b c d))) []:=by
  have hs:=sgUn_ok;refine fo Tryz.func38 17 fun X hX=>?_;refine up 1 ?_;refine rK hs fun K hK=>?_;simp only [go_sem,sgUn]
  refine eK ?_;refine rE [.fr (.by_ (hdB a b c d))] [] [.tmp 2] ?_;simp only [go_sem,sbT,hdB,u8i];all_goals exact agA
theorem status_s (n:Int) (h:0≤n∧n≤65535):FnS Tryz.prog 88 [.lit (.int .i64 n)] [] (fnA (153,octL n 2)) []:=by
  have hs:=sgUn_ok;obtain ⟨o1,o2⟩:=oct2 h;have t3:List.take 2 (octL n 2)=octL n 2:=List.take_of_length_le (by omega);have n1:n≤1099511627777:=by omega
  refine fo Tryz.func88 12 fun X hX=>?_;refine up 1 ?_;refine rK hs fun K hK=>?_;simp only [go_sem,sgUn,h.1,n1,o1,o2,t3]
  refine eK ?_;refine up 1 ?_;refine rE [fnA (153,octL n 2)] [] [.cell 2 119] ?_;simp only [go_sem,sbT,fnA,t3];all_goals exact agA
theorem block_s (x:List UInt8) (h:0<x.length) (h2:x.length % 16=0) (h6:x.length≤100000):FnS Tryz.prog 131 [.by_ (1::x)] [] (.lit (.bool true)) []:=by
  have hs:=sgUn_ok;have h3:(((x.length+1:Nat):Int)-1).tmod 16=0:=by
    rw [Int.tmod_eq_emod_of_nonneg (by omega)];omega
  have h4:decide (((x.length+1:Nat):Int) > 1)=true:=decide_eq_true (by omega);refine fo Tryz.func131 19 fun X hX=>?_;refine up 1 ?_;have h5:(((UInt8.toNat 1:Nat):Int) == 1)=true:=rfl;refine rK hs fun K hK=>?_;simp only [go_sem,List.length_cons,h3,h4,h5]
  refine eK ?_;refine rE [.lit (.bool true)] [] [.tmp 2] ?_;simp only [go_sem,sbT];all_goals exact agA
def vecB (e:List UInt8) (n:Int):List UInt8:=enc1 e (cntB n)
theorem vecB_len (e:List UInt8) (n:Int):(vecB e n).length=16:=enc1_len _ _
def sgCg:Sg:=fun f args ls =>
  match f,args,ls with
  | 65,[.agg [.by_ e,.by_ c,.lit (.int .i64 n),.by_ x]],[]=>some (.by_ (vecB e n),[],e.length=16∧0≤n∧n≤1099511627776∧x=cntB n)
  | 66,[.by_ b],[]=>some (.fr (.by_ (padB b)),[],b.length≤1000000000)
  | 64,[.by_ k,.by_ v,.by_ d],[]=>some (.tup [.fr (.by_ (sealB k v d)),.lit (.int .i64 0)],[],k.length=16∧v.length=16∧d.length % 16=0∧d.length≤1000000000)
  | _,_,_=>none
theorem sgCg_ok:SgOK Tryz.prog sgCg:=by
  intro f args ls r ls' vc h hvc;unfold sgCg at h;split at h <;> cases h
  · obtain ⟨h1,h2,h3,rfl⟩:=hvc;exact ⟨(fnOK Tryz.func65 (by decide) rfl),vector_s _ _ _ h1 (by omega)⟩
  · exact ⟨(fnOK Tryz.func66 (by decide) rfl),pad_s _ hvc⟩
  · exact ⟨(fnOK Tryz.func64 (by decide) rfl),seal_s _ _ _ hvc.1 hvc.2.1 hvc.2.2.1 hvc.2.2.2⟩
def cgO (e:List UInt8) (n:Int) (d:List UInt8):Ob:=(135,1::sealB e (vecB e n) (padB d))
theorem cgram0_s (e c:List UInt8) (n:Int):FnS Tryz.prog 35 [unA e c n,.lit (.slice none 0 0),.by_ []] [] (.lit (.slice none 0 0)) []:=by
  have hs:=sgCg_ok;unfold unA;refine fo Tryz.func35 31 fun X hX=>?_;refine up 3 ?_;refine WA.cond rfl (fun h=>?_) (fun h=>absurd h (by simp));refine up 1 ?_;refine rE [.lit (.slice none 0 0)] [] [.tmp 6] ?_;simp only [go_sem,sbT];all_goals exact agA
theorem cgram_s (e c:List UInt8) (n:Int) (d:List UInt8) (h1:e.length=16) (h3:0≤n∧n≤1099511627776) (h4:0<d.length) (h5:d.length≤1000):FnS Tryz.prog 35 [unA e c n,.lit (.slice none 0 0),.by_ d] [] (.fr (.li 3 [fnA (cgO e n d)])) []:=by
  have hs:=sgCg_ok;obtain ⟨p1,p2,p3⟩:=padB_len d;have p4:(padB d).length≤1000000000:=by omega
  have v1:=vecB_len e n;have l1:(sealB e (vecB e n) (padB d)).length=(padB d).length:=sealB_len _ _ _ p1;have t1:List.take (padB d).length (sealB e (vecB e n) (padB d))=sealB e (vecB e n) (padB d):=List.take_of_length_le (by omega);have t2:List.take (padB d).length (padB d)=padB d:=List.take_of_length_le (by omega);have d1:d.length≤1000000000:=by omega
  have d2:((d.length:Int) == 0)=false:=beq_eq_false_iff_ne.2 (by omega);unfold unA;refine fo Tryz.func35 31 fun X hX=>?_;refine up 2 ?_;refine rK hs fun K hK=>?_;simp only [go_sem,d2]
  refine eK ?_;refine WA.cond rfl (fun h=>absurd h (by simp)) (fun h=>?_);refine up 1 ?_
  refine WA.drawnK mixed_ ty_ok hs (tbl:=[[],[0],[0,1],[],[3],[],[3,4,5],[0,1,2,3,4,5,6],[0,1,2,3,4,5,6,7],[0,1,2,3,4,5,6,7,8],[0,1,2,3,4,5,6,7,8],[0,1,2,3,4,5,6,7,8,9],[0,1,2,3,4,5,6,7,8,9,10,11]]) (nb:=[2,3,4,6,7]) (by kernel_rfl) fun K hK=>?_;simp only [go_sem,sgCg,h1,h3,d1,v1,p1,p4,t2]
  refine eK ?_;refine rK hs fun K hK=>?_;simp only [go_sem,l1,t1]
  refine eK ?_;have t3:List.take (1+(padB d).length) (1::sealB e (vecB e n) (padB d))=1::sealB e (vecB e n) (padB d):=List.take_of_length_le (by rw [List.length_cons,l1];omega);refine WA.norm 2192 fun K hK=>?_;simp only [go_sem,l1,t3]
  refine eK ?_;refine rE [.fr (.li 3 [fnA (cgO e n d)])] [] [.tmp 6] ?_;simp only [go_sem,sbT,fnA,cgO,l1,t3];all_goals exact agA
end
section
attribute [local irreducible] tagV consT longT
def rdA (b:List UInt8) (p c:Int):AV:=.li 4 [.agg [.by_ b,.lit (.int .i64 p),.lit (.bool true),.lit (.int .i64 c)]]
theorem Tr_rd (b:List UInt8) (p c:Int):TrC (.li 4 [.agg [.by_ b,.lit (.int .i64 p),.lit (.bool true),.lit (.int .i64 c)]])=True:=eq_true (TrC.li fun x hx y hy=>by
  simp only [List.mem_singleton] at hx;subst hx;simp only [AV.cl,List.mem_cons,List.not_mem_nil,or_false] at hy;rcases hy with rfl | rfl | rfl | rfl <;> first | exact Tr.lit _ | exact Tr.by_ _)
def sgTr:Sg:=fun f args ls =>
  match f,args,ls with
  | 162,[.lit (.int .i64 x)],[]=>some (.lit (.bool (tagV x)),[],True)
  | 212,[.lit (.int .i64 x)],[]=>some (.lit (.bool (longT x)),[],True)
  | _,_,_=>none
theorem sgTr_ok:SgOK Tryz.prog sgTr:=by
  intro f args ls r ls' vc h hvc;unfold sgTr at h;split at h <;> cases h
  · exact ⟨(fnOK Tryz.func162 (by decide) rfl),tvalid_s _⟩
  · exact ⟨(fnOK Tryz.func212 (by decide) rfl),long_s _⟩
theorem ttag_s (b:List UInt8) (p:Nat) (c e t:Int) (hp:p<b.length) (hb:b.length≤100000) (he:(p:Int)<e) (ht:tgK t) (hby:((b.getD p 0).toNat:Int)=t):FnS Tryz.prog 253 [.ptr 0 0 0,.lit (.int .i64 e)] [rdA b p c] (.tup [.lit (.int .i64 t),.lit (.int .i64 0)]) [rdA b (p+1) c]:=by
  have hs:=sgTr_ok;obtain ⟨k1,k2,k3,k4,k5⟩:=tgK_v ht;have hT:=Tr_rd b;have hw:IntKind.i64.wrap t=t:=wrap_i64 (by omega) (by omega);unfold rdA;refine fo Tryz.func253 64 fun X hX=>?_;refine up 3 ?_;refine WA.cond rfl (fun h=>absurd h (by simp;omega)) (fun h=>?_);refine up 1 ?_
  refine WA.drawnK mixed_ ty_ok hs (tbl:=[[],[0],[0,1],[0,1,2],[],[4],[4,5],[4,5,6],[0,1,2,3,4,5,6,7],[0,1,2,3,4,5,6,7,8],[0,1,2,3,4,5,6,7,8,9],[0,1,2,3,4,5,6,7,8,9,10]]) (nb:=[3,7,9]) (by kernel_rfl) fun K hK=>?_;simp only [go_sem,hby,hp,hw]
  refine eK ?_;refine up 2 ?_;refine rK hs fun K hK=>?_;simp only [go_sem,sgTr,k3]
  refine eK ?_;refine WA.cond rfl (fun h=>absurd h (by simp)) (fun h=>?_);refine WA.skipT ?_;refine up 1 ?_;refine rK hs fun K hK=>?_;simp only [go_sem,sgTr,k1,Bool.not_true]
  refine eK ?_;refine WA.cond rfl (fun h=>absurd h (by simp)) (fun h=>?_);refine up 2 ?_;refine rE [.lit (.int .i64 t),.lit (.int .i64 0)] [.li 4 [.agg [.by_ b,.lit (.int .i64 ((p:Int)+1)),.lit (.bool true),.lit (.int .i64 c)]]] [.tmp 4,.tmp 5] ?_;simp only [go_sem,sbT,hT]
theorem tlenr_s (b:List UInt8) (p n:Nat) (c e:Int) (hp:p<b.length) (hb:b.length≤100000) (he:(p:Int)<e) (ht:n<128) (hby:(b.getD p 0).toNat=n):FnS Tryz.prog 254 [.ptr 0 0 0,.lit (.int .i64 e),.lit (.bool false)] [rdA b p c] (.tup [.lit (.int .i64 n),.lit (.int .i64 0)]) [rdA b (p+1) c]:=by
  have hs:=sg0_ok;have hT:=Tr_rd b;have hw:IntKind.i64.wrap ((n:Nat):Int)=n:=wrap_i64 (by omega) (by omega);unfold rdA;refine fo Tryz.func254 103 fun X hX=>?_;refine up 3 ?_;refine WA.cond rfl (fun h=>absurd h (by simp;omega)) (fun h=>?_);refine up 1 ?_
  refine WA.drawnK mixed_ ty_ok hs (tbl:=[[],[0],[0,1],[0,1,2],[],[4],[4,5],[4,5,6],[0,1,2,3,4,5,6,7],[0,1,2,3,4,5,6,7,8],[0,1,2,3,4,5,6,7,8,9],[0,1,2,3,4,5,6,7,8,9,10]]) (nb:=[3,7,9]) (by kernel_rfl) fun K hK=>?_;simp only [go_sem,hby,hp,hw]
  refine eK ?_;refine up 4 ?_;refine WA.cond rfl (fun h=>?_) (fun h=>absurd h (by simp;omega));refine up 1 ?_;refine rE [.lit (.int .i64 n),.lit (.int .i64 0)] [.li 4 [.agg [.by_ b,.lit (.int .i64 ((p:Int)+1)),.lit (.bool true),.lit (.int .i64 c)]]] [.tmp 6,.tmp 7] ?_;simp only [go_sem,sbT,hT]
def sgTo (b:List UInt8):Sg:=fun f args ls =>
  match f,args,ls with
  | 46,[.by_ bs],[]=>some (.fr (.by_ bs),[],bs.length≤140737488355328)
  | 161,[.lit (.int .i64 x)],[]=>some (.lit (.bool (consT x)),[],True)
  | 253,[.ptr 0 0 0,.lit (.int .i64 e)],[.li 4 [.agg [.by_ b',.lit (.int .i64 p),.lit (.bool true),.lit (.int .i64 c)]]] =>
    some (.tup [.lit (.int .i64 ((b.getD p.toNat 0).toNat:Int)),.lit (.int .i64 0)],[.li 4 [.agg [.by_ b,.lit (.int .i64 (p+1)),.lit (.bool true),.lit (.int .i64 c)]]],b'=b∧0≤p∧p<b.length∧b.length≤100000∧p<e∧tgK ((b.getD p.toNat 0).toNat:Int))
  | 254,[.ptr 0 0 0,.lit (.int .i64 e),.lit (.bool false)],[.li 4 [.agg [.by_ b',.lit (.int .i64 p),.lit (.bool true),.lit (.int .i64 c)]]] =>
    some (.tup [.lit (.int .i64 ((b.getD p.toNat 0).toNat:Int)),.lit (.int .i64 0)],[.li 4 [.agg [.by_ b,.lit (.int .i64 (p+1)),.lit (.bool true),.lit (.int .i64 c)]]],b'=b∧0≤p∧p<b.length∧b.length≤100000∧p<e∧(b.getD p.toNat 0).toNat<128)
  | _,_,_=>none
theorem sgTo_ok (b:List UInt8):SgOK Tryz.prog (sgTo b):=by
  intro f args ls r ls' vc h hvc;unfold sgTo at h;split at h <;> cases h
  · exact ⟨(fnOK Tryz.func46 (by decide) rfl),sclone_s _ hvc⟩
  · exact ⟨(fnOK Tryz.func161 (by decide) rfl),cons_s _⟩
  · obtain ⟨rfl,h1,h2,h3,h4,h5⟩:=hvc;rename_i e b p c;obtain ⟨k,rfl⟩:∃ k:Nat,p=k:=⟨p.toNat,by omega⟩;rw [Int.toNat_natCast] at h5 ⊢;exact ⟨(fnOK Tryz.func253 (by decide) rfl),ttag_s b k c e _ (by omega) h3 (by omega) h5 rfl⟩
  · obtain ⟨rfl,h1,h2,h3,h4,h5⟩:=hvc;rename_i e b p c;obtain ⟨k,rfl⟩:∃ k:Nat,p=k:=⟨p.toNat,by omega⟩;rw [Int.toNat_natCast] at h5 ⊢;exact ⟨(fnOK Tryz.func254 (by decide) rfl),tlenr_s b k _ c e (by omega) h3 (by omega) h5 rfl⟩
theorem tobj_s (b:List UInt8) (p n:Nat) (c:Nat) (e t:Int) (he:(p:Int)+2+n≤e) (hb:b.length≤100000) (heb:e≤b.length) (ht:tgK t) (hn:n≤100) (hc:c≤100) (hb0:((b.getD p 0).toNat:Int)=t) (hb1:(b.getD (p+1) 0).toNat=n) :
    FnS Tryz.prog 218 [.ptr 0 0 0,.lit (.int .i64 e),.lit (.int .i64 1)] [rdA b p c] (.tup [fnA (t,(b.drop (p+2)).take n),.lit (.int .i64 0)]) [rdA b (p+2+n:Nat) (c+1:Nat)]:=by
  have hs:=sgTo_ok b;obtain ⟨k1,k2,k3,k4,k5⟩:=tgK_v ht;have hT:=Tr_rd b;have q1:((p:Int)+1).toNat=p+1:=by omega
  have q2:(p:Int)<b.length:=by omega
  have q3:(p:Int)<e:=by omega
  have q4:(p:Int)+1<b.length:=by omega
  have q5:(p:Int)+1<e:=by omega
  have q6:(0:Int)≤(p:Int)+1:=by omega
  have q7:(0:Int)≤(p:Int):=by omega
  have q8:n<128:=by omega
  have q9:(p:Int)+1+1=((p+2:Nat):Int):=by omega
  unfold rdA fnA;refine fo Tryz.func218 128 fun X hX=>?_;refine up 1 ?_;refine rK hs fun K hK=>?_;simp only [go_sem,sgTo,hT,q2,q3,q7,hb,hb0,ht,Int.toNat_natCast]
  refine eK ?_;refine up 2 ?_;refine WA.cond rfl (fun h=>absurd h (by simp)) (fun h=>?_);refine up 1 ?_
  refine rK hs fun K hK=>?_;simp only [go_sem,sgTo,k2]
  refine eK ?_;refine rK hs fun K hK=>?_;simp only [go_sem,sgTo,hT,q1,q4,q5,q6,q8,q9,hb,hb1]
  refine eK ?_;refine up 2 ?_;refine WA.cond rfl (fun h=>absurd h (by simp)) (fun h=>?_);refine up 5 ?_;refine WA.cond rfl (fun h=>absurd h (by simp)) (fun h=>?_);refine up 1 ?_;refine WA.cond rfl (fun h=>absurd h (by simp;omega)) (fun h=>?_);refine up 1 ?_;refine WA.cond rfl (fun h=>absurd h (by simp;omega)) (fun h=>?_);refine up 5 ?_;refine WA.cond rfl (fun h=>absurd h (by first | (simp;done) | (simp;omega))) (fun h=>?_)
  refine up 1 ?_;refine WA.cond rfl (fun h=>absurd h (by simp)) (fun h=>?_);have r1:(p+2:Nat)+(n:Nat)=p+2+n:=rfl;have r2:((p+2:Nat):Int)+(n:Int)=((p+2+n:Nat):Int):=by omega
  have r3:p+2+n-(p+2)=n:=by omega
  have r4:p+2+n≤b.length:=by omega
  have r5:((b.drop (p+2)).take n).length=n:=by rw [List.length_take,List.length_drop];omega
  have r6:(c:Int)+1=((c+1:Nat):Int):=by omega
  have r7:List.take n (List.drop (p+2) b)=List.drop (p+2) (List.take (p+2+n) b):=by rw [List.drop_take,r3]
  have r8:p+2≤p+2+n:=Nat.le_add_right _ _;have r9:min n (b.length-(p+2))=n:=by omega
  have r10:n≤140737488355328:=by omega
  have r11:(List.drop (p+2) (List.take (p+2+n) b)).length=n:=by rw [← r7,r5]
  have r12:List.take n (List.drop (p+2) (List.take (p+2+n) b))=List.drop (p+2) (List.take (p+2+n) b):=List.take_of_length_le (by omega);refine WA.drawnH mixed_ ty_ok hs (tbl:=[[],[0],[0,1],[0,1,2],[],[4],[4,5],[4,5,6],[],[8],[8,9],[8,9,10],[],[8,9,10,11,12],[0,1,2,3,4,5,6,7,8,9,10,11,12,13],[0,1,2,3,4,5,6,7,8,9,10,11,12,13,14],[0,1,2,3,4,5,6,7,8,9,10,11,12,13,14,15],[0,1,2,3,4,5,6,7,8,9,10,11,12,13,14,15,16]]) (nb:=[3,7,11,15,17]) (hk:=[[],[],[],[],[],[],[],[],[],[],[],[],[],[],[],[],[],[]]) (by kernel_rfl) fun K hK=>?_;simp only [go_sem,sgTo,r2,r3,r4,r5,r8,r9,r10,Int.toNat_natCast]
  refine eK ?_;refine up 2 ?_;refine rE [.agg [.lit (.int .i64 t),.by_ ((b.drop (p+2)).take n),.lit (.slice none 0 0)],.lit (.int .i64 0)] [.li 4 [.agg [.by_ b,.lit (.int .i64 ((p+2+n:Nat):Int)),.lit (.bool true),.lit (.int .i64 ((c+1:Nat):Int))]]] [.cell 6 119,.tmp 7] ?_;simp only [go_sem,sbT,hT,r2,r3,r4,r6,r7,r12];all_goals exact Nat.le_refl _
def sgTl (b:List UInt8):Sg:=fun f args ls =>
  match f,args,ls with
  | 218,[.ptr 0 0 0,.lit (.int .i64 e),.lit (.int .i64 d)],[.li 4 [.agg [.by_ b',.lit (.int .i64 p),.lit (.bool true),.lit (.int .i64 c)]]] =>
    some (.tup [.agg [.lit (.int .i64 ((b.getD p.toNat 0).toNat:Int)),.by_ ((b.drop (p.toNat+2)).take (b.getD (p.toNat+1) 0).toNat),.lit (.slice none 0 0)],.lit (.int .i64 0)],
      [.li 4 [.agg [.by_ b,.lit (.int .i64 ((p.toNat+2+(b.getD (p.toNat+1) 0).toNat:Nat):Int)),.lit (.bool true),.lit (.int .i64 ((c.toNat+1:Nat):Int))]]],
      b'=b∧d=1∧0≤p∧p+2+((b.getD (p.toNat+1) 0).toNat:Int)≤e∧b.length≤100000∧e≤b.length∧tgK ((b.getD p.toNat 0).toNat:Int)∧(b.getD (p.toNat+1) 0).toNat≤100∧0≤c∧c≤100)
  | _,_,_=>none
theorem sgTl_ok (b:List UInt8):SgOK Tryz.prog (sgTl b):=by
  intro f args ls r ls' vc h hvc;unfold sgTl at h;split at h <;> cases h
  rename_i e d b' p c;obtain ⟨rfl,rfl,h1,h2,h3,h4,h5,h6,h7,h8⟩:=hvc;obtain ⟨k,rfl⟩:∃ k:Nat,p=k:=⟨p.toNat,by omega⟩;obtain ⟨j,rfl⟩:∃ j:Nat,c=j:=⟨c.toNat,by omega⟩;rw [Int.toNat_natCast] at h2 h5 h6 ⊢;rw [Int.toNat_natCast];exact ⟨(fnOK Tryz.func218 (by decide) rfl),tobj_s _ k _ j e _ h2 h3 h4 h5 h6 (by omega) rfl rfl⟩
theorem obB_at (pre:List UInt8) (x:Ob) (suf:List UInt8) (ht:tgK x.1) (hv:x.2.length≤100) :
    (((pre++obB x++suf).getD pre.length 0).toNat:Int)=x.1∧((pre++obB x++suf).getD (pre.length+1) 0).toNat=x.2.length∧((pre++obB x++suf).drop (pre.length+2)).take x.2.length=x.2:=by
  obtain ⟨_,_,_,k4,k5⟩:=tgK_v ht;obtain ⟨t,v⟩:=x;simp only at k4 k5 hv ⊢
  have e:pre++obB (t,v)++suf=pre++(UInt8.ofNat (IntKind.u8.wrap t).toNat::UInt8.ofNat v.length::(v++suf)):=by simp [obB]
  rw [e];refine ⟨?_,?_,?_⟩
  · have:(pre++(UInt8.ofNat (IntKind.u8.wrap t).toNat::UInt8.ofNat v.length::(v++suf))).getD pre.length 0=UInt8.ofNat (IntKind.u8.wrap t).toNat:=by simp [List.getD]
    rw [this,IntKind.wrap_u8,UInt8.toNat_ofNat'];omega
  · have:(pre++(UInt8.ofNat (IntKind.u8.wrap t).toNat::UInt8.ofNat v.length::(v++suf))).getD (pre.length+1) 0=UInt8.ofNat v.length:=by simp [List.getD]
    rw [this,UInt8.toNat_ofNat'];omega
  · have:(pre++(UInt8.ofNat (IntKind.u8.wrap t).toNat::UInt8.ofNat v.length::(v++suf))).drop (pre.length+2)=v++suf:=by simp
    rw [this,List.take_left]
theorem obW_at (l:List Ob) {i:Nat} (h:i<l.length):obW l=obW (l.take i)++obB l[i]++obW (l.drop (i+1)):=by
  have hc:∀ a b:List Ob,obW (a++b)=obW a++obW b:=by
    intro a b;induction a with
    | nil=>rfl
    | cons x r ih=>rw [List.cons_append,obW,ih,obW,List.append_assoc]
  have e:l=l.take i++(l[i]::l.drop (i+1)):=by simp
  conv=>lhs;rw [e]
  rw [hc,obW,List.append_assoc]
def unWf:Nat→List UInt8→List Ob
  | 0,_=>[]
  | _,[]=>[]
  | _,[_]=>[]
  | k+1,t::n::r=>((t.toNat:Int),r.take n.toNat)::unWf k (r.drop n.toNat)
def unW (b:List UInt8):List Ob:=unWf b.length b
theorem unWf_obW:∀ (l:List Ob) (k:Nat),(∀ x∈l,tgK x.1∧x.2.length≤100)→l.length≤k→unWf k (obW l)=l
  | [],0,_,_=>rfl
  | [],k+1,_,_=>rfl
  | x::r,0,_,h=>by simp at h
  | x::r,k+1,hx,h=>by
    obtain ⟨t,v⟩:=x;obtain ⟨ht,hv⟩:=hx (t,v) (by simp);obtain ⟨_,_,_,k4,k5⟩:=tgK_v ht;simp only at ht hv k4 k5
    have e1:(((UInt8.ofNat (IntKind.u8.wrap t).toNat).toNat:Nat):Int)=t:=by
      rw [IntKind.wrap_u8,UInt8.toNat_ofNat'];omega
    have e2:(UInt8.ofNat v.length).toNat=v.length:=by
      rw [UInt8.toNat_ofNat'];omega
    rw [obW,obB,List.cons_append,List.cons_append,unWf];simp only
    rw [e1,e2,List.take_left,List.drop_left,unWf_obW r k (fun y hy=>hx y (by simp [hy])) (by simpa using h)]
theorem unW_obW (l:List Ob) (h:ObK l):unW (obW l)=l:=by
  refine unWf_obW l _ h.2 ?_;clear h;induction l with
  | nil=>exact Nat.le_refl _
  | cons x r ih =>
    rw [obW,List.length_append,obB_len,List.length_cons];omega
theorem tobjs_s (l:List Ob) (hl:ObK l):FnS Tryz.prog 177 [.ptr 0 0 0,.lit (.int .i64 ((obW l).length:Nat)),.lit (.int .i64 1)] [rdA (obW l) 0 0] (.tup [.fr (.li 3 (l.map fnA)),.lit (.int .i64 0)]) [rdA (obW l) ((obW l).length:Nat) (l.length:Nat)]:=by
  obtain ⟨hn,hx⟩:=hl;have hW:=obW_len l fun x hx'=>(hx x hx').2;obtain ⟨B,hB⟩:∃ B,obW l=B:=⟨_,rfl⟩;have hs:=sgTl_ok B;have hT:=Tr_rd B;rw [hB] at hW ⊢;unfold rdA;refine fo Tryz.func177 32 fun X hX=>?_;refine up 2 ?_;refine WA.own0 8 (.li 3 []) rfl rfl ?_;refine up 2 ?_;have w0:obW []=[]:=rfl;have hTn:∀ k:List Ob,TrC (.li 3 (k.map fnA))=True:=fun k=>eq_true (TrC.li fun x hx y hy=>by
    obtain ⟨f,_,rfl⟩:=List.mem_map.1 hx;simp only [fnA,AV.cl,List.mem_cons,List.not_mem_nil,or_false] at hy;rcases hy with rfl | rfl | rfl
    · exact Tr.lit _
    · exact Tr.by_ _
    · exact Tr.lit _)
  refine WA.loopW hX (fun k=>if k=3000 then 2024 else k) ((fun (i:Nat)=>⟨[(0,.ptr 0 0 0),(1,.lit (.int .i64 (B.length:Nat))),(2,.lit (.int .i64 1)),(8,.sl 3000 3 0 i)],[(0,⟨.li 4 [.agg [.by_ B,.lit (.int .i64 ((obW (l.take i)).length:Nat)),.lit (.bool true),.lit (.int .i64 (i:Nat))]],0,true⟩),(3000,⟨.li 3 ((l.take i).map fnA),0,false⟩)],4000,32⟩:_→St)) (fun i=>l.length-i) (fun i=>i≤l.length) (i0:=0) (Nat.zero_le _) (by simp only [go_sem,Int.natCast_add,Int.natCast_zero,hT,w0,List.take_zero,List.length_nil,List.map_nil] <;> (try and_intros) <;> (try omega)) fun i hi=>?_
  refine up 2 ?_;refine WA.cond rfl (fun h=>?_) (fun h=>?_)
  ·
    have h:i<l.length:=by
      rcases Nat.lt_or_ge i l.length with h1 | h1
      · exact h1
      · rw [List.take_of_length_le h1,hB] at h;simp at h
    have g:=obW_at l h;obtain ⟨hk,hv⟩:=hx _ (List.getElem_mem h);obtain ⟨b1,b2,b3⟩:=obB_at (obW (l.take i)) l[i] (obW (l.drop (i+1))) hk hv;rw [← g,hB] at b1 b2 b3;have ht:l.take (i+1)=l.take i++[l[i]]:=(List.take_append_getElem h).symm;have n1:=obW_snoc (l.take i) l[i];rw [← ht] at n1;have n2:(obW (l.take (i+1))).length=(obW (l.take i)).length+2+l[i].2.length:=by rw [n1,List.length_append,obB_len];omega
    have n3:(l.take (i+1)).map fnA=(l.take i).map fnA++[.agg [.lit (.int .i64 l[i].1),.by_ l[i].2,.lit (.slice none 0 0)]]:=by rw [ht,List.map_append];rfl
    have n4:(obW (l.take i)).length+2+l[i].2.length≤B.length:=by
      have:B.length=((obW (l.take i)).length+(obB l[i]).length)+(obW (l.drop (i+1))).length:=by rw [← hB,g,List.length_append,List.length_append]
      rw [obB_len] at this;omega
    have n5:(i:Nat)≤100:=by omega
    have n6:B.length≤100000:=by omega
    have n7:((i:Nat):Int)≤100:=by omega
    have n8:(0:Int)≤((i:Nat):Int):=by omega
    have n9:((List.take i l).map fnA).length=i:=by rw [List.length_map,List.length_take];omega
    generalize l[i]=x at hk hv b1 b2 b3 n1 n2 n3 n4;obtain ⟨t,v⟩:=x;simp only at hk hv b1 b2 b3 n2 n3 n4
    obtain ⟨P,hP⟩:∃ P,(obW (l.take i)).length=P:=⟨_,rfl⟩;rw [hP] at b1 b2 b3 n2 n4;simp only [hP];have m1:((P:Nat):Int)+2+((v.length:Nat):Int)≤(B.length:Nat):=by omega
    have m2:(0:Int)≤(P:Nat):=by omega
    have m3:List.take v.length v=v:=List.take_length;refine up 2 ?_;refine rK hs fun K hK=>?_;simp only [go_sem,sgTl,hT,b1,b2,b3,m1,m2,hk,hv,n6,n7,n8,Int.toNat_natCast]
    refine eK ?_;refine up 2 ?_;refine WA.cond rfl (fun h=>absurd h (by simp)) (fun h=>?_);refine up 1 ?_
    have m4:=hTn (l.take i);refine WA.regionE ty_ok hs fun K hK=>?_;simp only [go_sem,n9]
    (repeat refine sdA ?_);simp only [← n3];refine hK _ (WN.mk ?_);clear hK K;repeat with_reducible refine WN.b ?_
    refine WN.round hX (fun k=>if k=3000 then 4168 else k) (j:=i+1) (by omega) (by first | omega | (dsimp only;omega) | (simp;omega)) (by simp only [go_sem,Int.natCast_add,hT,n2,hTn] <;> (try and_intros) <;> (try omega))
  ·
    have h:i=l.length:=by
      rcases Nat.lt_or_ge i l.length with h1 | h1
      · have g:=obW_at l h1;have hb:=obB_len l[i];have:B.length=((obW (l.take i)).length+(obB l[i]).length)+(obW (l.drop (i+1))).length:=by rw [← hB,g,List.length_append,List.length_append]
        simp at h;omega
      · omega
    subst h;have hTl:=hTn l;simp only [List.take_length,hB];refine up 2 ?_;refine rE [.fr (.li 3 (l.map fnA)),.lit (.int .i64 0)] [.li 4 [.agg [.by_ B,.lit (.int .i64 (B.length:Nat)),.lit (.bool true),.lit (.int .i64 (l.length:Nat))]]] [.tmp 6,.tmp 7] ?_;simp only [go_sem,sbT,hT,hTl,List.length_map]
end
end Go.Proofs.YtjjkfpbkmhfckaaGreatDoor
