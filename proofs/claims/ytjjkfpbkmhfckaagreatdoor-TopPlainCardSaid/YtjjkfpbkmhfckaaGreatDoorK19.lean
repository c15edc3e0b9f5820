import Derived.Test.YtjjkfpbkmhfckaaGreatDoorK18
import Derived.Test.YtjjkfpbkmhfckaaGreatDoorK06
import Derived.Test.YtjjkfpbkmhfckaaGreatDoorK10
set_option linter.unusedVariables false
set_option linter.unusedSimpArgs false
set_option maxHeartbeats 1000000
set_option maxRecDepth 10000
namespace Go.Proofs.YtjjkfpbkmhfckaaGreatDoor
open Go.RowKit Go.TravelBase Go.TravelAbs
theorem arg_s (key iv d:List UInt8) (h1:key.length=16) (h2:iv.length=16) (h3:d.length % 16=0):FnS Tryz.prog 110 [.by_ key,.by_ iv,.by_ d] [] (.lit (.int .i64 0)) []:=by
  have hs:=sg0_ok;have q:((d.length:Nat):Int).tmod 16=((d.length % 16:Nat):Int):=rfl;refine fo Tryz.func110 21 fun X hX=>?_;refine up 3 ?_;refine rK hs fun K hK=>?_;simp only [go_sem,h1,h2]
  refine eK ?_;refine WA.cond rfl (fun h=>absurd h (by simp)) (fun h=>?_);refine rK hs fun K hK=>?_;simp only [go_sem,q,h3]
  refine eK ?_;refine WA.cond rfl (fun h=>absurd h (by simp)) (fun h=>?_);refine up 2 ?_;refine rE [.lit (.int .i64 0)] [] [.tmp 6] ?_;simp only [go_sem,sbT];all_goals exact agA
def padB (d:List UInt8):List UInt8:=d++[128]++List.replicate ((16-(d.length+1) % 16) % 16) 0
def u32A (z:Int):AV:=.lit (.int .u32 z)
def wdI (bs:List UInt8):Int:=bits .or .u32 (bits .or .u32 (bits .or .u32 (IntKind.u32.wrap (IntKind.u32.wrap ((bs.getD 0 0).toNat:Int)*2 ^ 24)) (IntKind.u32.wrap (IntKind.u32.wrap ((bs.getD 1 0).toNat:Int)*2 ^ 16))) (IntKind.u32.wrap (IntKind.u32.wrap ((bs.getD 2 0).toNat:Int)*2 ^ 8))) (IntKind.u32.wrap ((bs.getD 3 0).toNat:Int))
theorem word_s (bs:List UInt8) (h:4≤bs.length):FnS Tryz.prog 136 [.by_ bs] [] (u32A (wdI bs)) []:=by
  have hs:=sg0_ok;refine fo Tryz.func136 25 fun X hX=>?_;refine up 1 ?_;refine WA.drawnK mixed_ ty_ok hs (tbl:=[[],[0],[0,1],[0,1,2],[0,1,2,3],[],[5],[5,6],[5,6,7],[5,6,7,8],[0,1,2,3,4,5,6,7,8,9],[],[11],[11,12],[11,12,13],[11,12,13,14],[0,1,2,3,4,5,6,7,8,9,10,11,12,13,14,15],[],[17],[17,18],[17,18,19],[0,1,2,3,4,5,6,7,8,9,10,11,12,13,14,15,16,17,18,19,20],[0,1,2,3,4,5,6,7,8,9,10,11,12,13,14,15,16,17,18,19,20,21]]) (nb:=[2,7,13,19]) (by kernel_rfl) fun K hK=>?_;simp only [go_sem,true_and]
  refine eK ?_;refine rE [u32A (wdI bs)] [] [.tmp 2] ?_;simp only [go_sem,sbT,u32A,wdI];all_goals exact agA
def w32 (z:Int):List UInt8:=[UInt8.ofNat (IntKind.u8.wrap (z.fdiv (2 ^ 24))).toNat,UInt8.ofNat (IntKind.u8.wrap (z.fdiv (2 ^ 16))).toNat,UInt8.ofNat (IntKind.u8.wrap (z.fdiv (2 ^ 8))).toNat,UInt8.ofNat (IntKind.u8.wrap z).toNat]
theorem bytesOf_s (z:Int):FnS Tryz.prog 94 [u32A z] [] (.fr (.by_ (w32 z))) []:=by
  have hs:=sg0_ok;unfold u32A;refine fo Tryz.func94 15 fun X hX=>?_;refine up 2 ?_;refine rE [.fr (.by_ (w32 z))] [] [.tmp 2] ?_;simp only [go_sem,sbT,w32];all_goals exact agA
def dg0:List Int:=[1779033703,3144134277,1013904242,2773480762,1359893119,2600822924,528734635,1541459225]
theorem start_s:FnS Tryz.prog 90 [] [] (.fr (.li 1 (dg0.map u32A))) []:=by
  have hs:=sg0_ok;have e:dg0.map u32A=[.lit (.int .u32 1779033703),.lit (.int .u32 3144134277),.lit (.int .u32 1013904242),.lit (.int .u32 2773480762),.lit (.int .u32 1359893119),.lit (.int .u32 2600822924),.lit (.int .u32 528734635),.lit (.int .u32 1541459225)]:=rfl;rw [e];refine fo Tryz.func90 2 fun X hX=>?_;refine up 2 ?_;refine rE [.fr (.li 1 [.lit (.int .u32 1779033703),.lit (.int .u32 3144134277),.lit (.int .u32 1013904242),.lit (.int .u32 2773480762),.lit (.int .u32 1359893119),.lit (.int .u32 2600822924),.lit (.int .u32 528734635),.lit (.int .u32 1541459225)])] [] [.tmp 0] ?_;simp only [go_sem,sbT];all_goals exact agA
def shK (k:Int):Int:=bits .and .u64 (IntKind.u64.wrap k) 31
theorem shK_r (k:Int):0≤shK k∧shK k≤31:=by
  have e:shK k=IntKind.u64.wrap ((BitVec.ofInt 64 (IntKind.u64.wrap k) &&& BitVec.ofInt 64 31).toNat:Int):=rfl;have h:(BitVec.ofInt 64 (IntKind.u64.wrap k) &&& BitVec.ofInt 64 31).toNat≤31:=by
    rw [BitVec.toNat_and];exact Nat.and_le_right
  rw [e,IntKind.wrap_u64];omega
def rolI (x k:Int):Int:=bits .or .u32 (IntKind.u32.wrap (x*2 ^ (if (shK k).toNat≤32 then (shK k).toNat else 32))) (x.fdiv (2 ^ (if (32-shK k).toNat≤32 then (32-shK k).toNat else 32)))
theorem rol_s (x k:Int):FnS Tryz.prog 135 [u32A x,.lit (.int .i64 k)] [] (u32A (rolI x k)) []:=by
  have hs:=sg0_ok;have hr:=shK_r k;have e:bits .and .u64 (IntKind.u64.wrap k) 31=shK k:=rfl;have hi:inR .u64 (32-shK k):=by
    unfold inR;rw [IntKind.wrap_u64];omega
  unfold u32A;refine fo Tryz.func135 17 fun X hX=>?_;refine up 1 ?_;refine rK hs fun K hK=>?_;simp only [go_sem,e]
  refine eK ?_;refine rK hs fun K hK=>?_;simp only [go_sem,e]
  refine eK ?_;refine rE [.lit (.int .u32 (rolI x k))] [] [.tmp 4] ?_;simp only [go_sem,sbT,rolI];all_goals exact agA
def sgRl:Sg:=fun f args ls =>
  match f,args,ls with
  | 135,[.lit (.int .u32 x),.lit (.int .i64 k)],[]=>some (.lit (.int .u32 (rolI x k)),[],True)
  | _,_,_=>none
theorem sgRl_ok:SgOK Tryz.prog sgRl:=by
  intro f args ls r ls' vc h hvc;unfold sgRl at h;split at h <;> cases h
  · exact ⟨(fnOK Tryz.func135 (by decide) rfl),rol_s _ _⟩
def rtI (x:Int) (l:List Int):Nat→Int
  | 0=>0
  | i+1=>bits .xor .u32 (rtI x l i) (rolI x (0-l.getD i 0))
theorem rot_c (x:Int) (l:List Int) (hl:l.length≤1000) (hl2:∀ y∈l,0≤y∧y≤100):FnS Tryz.prog 134 [u32A x,.li 1 (l.map iA)] [] (u32A (rtI x l l.length)) []:=by
  have hs:=sgRl_ok;unfold u32A;refine fo Tryz.func134 22 fun X hX=>?_;refine up 3 ?_;refine rK hs fun K hK=>?_;simp only [go_sem,List.length_map]
  refine eK ?_;refine up 1 ?_;have x0:rtI x l 0=0:=rfl;refine WA.loopW hX (fun k=>k) ((fun (i:Nat)=>⟨[(0,.lit (.int .u32 x)),(5,.lit (.int .u32 (rtI x l i))),(8,.li 1 (l.map iA)),(9,.lit (.int .i64 (l.length:Nat))),(10,.lit (.int .i64 (i:Nat)))],[],4000,22⟩:_→St)) (fun i=>l.length-i) (fun i=>i≤l.length) (i0:=0) (Nat.zero_le _) (by simp only [go_sem,Int.natCast_add,x0,Int.natCast_zero,Tr_ia] <;> (try and_intros) <;> (try omega)) fun i hi=>?_
  refine up 2 ?_;refine WA.cond rfl (fun h=>?_) (fun h=>?_)
  ·
    have h:i<l.length:=by first | (simp [true_and] at h;omega) | (simp [true_and] at h;exact h) | omega | simpa using h
    have g:(l.map iA).getD i .any = .lit (.int .i64 (l.getD i 0)):=by
      rw [ia_at h];simp [List.getD,List.getElem?_eq_getElem h]
    refine up 3 ?_;refine rK hs fun K hK=>?_;simp only [go_sem,g,List.length_map]
    refine eK ?_;have hz:0≤l.getD i 0∧l.getD i 0≤100:=by
      have e:l.getD i 0=l[i]:=by simp [List.getD,List.getElem?_eq_getElem h]
      rw [e];exact hl2 _ (List.getElem_mem h)
    have n1:rtI x l (i+1)=bits .xor .u32 (rtI x l i) (rolI x (0-l.getD i 0)):=rfl;refine WA.regionE ty_ok hs fun K hK=>?_;simp only [go_sem,sgRl]
    refine eN ?_
    refine WA.regionE ty_ok hs fun K hK=>?_;simp only [go_sem,true_and]
    (repeat refine sdA ?_);refine hK _ (roundE hX (fun k=>k) (j:=i+1) (by omega) (by first | omega | (dsimp only;omega) | (simp;omega)) (by simp only [go_sem,Int.natCast_add,n1,Tr_ia] <;> (try and_intros) <;> (try omega)))
  ·
    have h:¬ i<l.length:=by first | (simp [true_and] at h;omega) | (simp [true_and] at h;exact h) | omega | simpa using h
    obtain rfl:i=l.length:=by omega
    refine up 2 ?_;refine rE [.lit (.int .u32 (rtI x l l.length))] [] [.tmp 4] ?_;simp only [go_sem,sbT];all_goals exact agA
section
attribute [local irreducible] rtI wdI
def sgCp:Sg:=fun f args ls =>
  match f,args,ls with
  | 136,[.by_ bs],[]=>some (.lit (.int .u32 (wdI bs)),[],4≤bs.length)
  | 134,[.lit (.int .u32 x),.li 1 [.lit (.int .i64 a),.lit (.int .i64 b)]],[]=>some (.lit (.int .u32 (rtI x [a,b] 2)),[],(0≤a∧a≤100)∧(0≤b∧b≤100))
  | 134,[.lit (.int .u32 x),.li 1 [.lit (.int .i64 a),.lit (.int .i64 b),.lit (.int .i64 c)]],[]=>some (.lit (.int .u32 (rtI x [a,b,c] 3)),[],(0≤a∧a≤100)∧(0≤b∧b≤100)∧(0≤c∧c≤100))
  | _,_,_=>none
theorem sgCp_ok:SgOK Tryz.prog sgCp:=by
  intro f args ls r ls' vc h hvc;unfold sgCp at h;split at h <;> cases h
  · exact ⟨(fnOK Tryz.func136 (by decide) rfl),word_s _ hvc⟩
  · rename_i x a b;refine ⟨(fnOK Tryz.func134 (by decide) rfl),rot_c x [a,b] (by simp) fun y hy=>?_⟩;simp only [List.mem_cons,List.not_mem_nil,or_false] at hy;rcases hy with rfl | rfl <;> omega
  · rename_i x a b c;refine ⟨(fnOK Tryz.func134 (by decide) rfl),rot_c x [a,b,c] (by simp) fun y hy=>?_⟩;simp only [List.mem_cons,List.not_mem_nil,or_false] at hy;rcases hy with rfl | rfl | rfl <;> omega
theorem u32_at {ws:List Int} {i:Nat} (h:i<ws.length):(ws.map u32A).getD i (.lit (.int .u32 0)) = .lit (.int .u32 (ws.getD i 0)):=by
  simp [List.getD,List.getElem?_eq_getElem h,u32A]
theorem u32_set (ws:List Int) (i:Nat) (z:Int):(ws.map u32A).take i ++ .lit (.int .u32 z)::(ws.map u32A).drop (i+1)=((ws.take i++z::ws.drop (i+1)).map u32A):=by
  simp [u32A]
def kL:List Int:=((glL.getD 0 (0,[])).2).map fun v=>match v with
  | .int _ z=>z
  | _=>0
theorem kL_len:kL.length=64:=rfl
theorem glA_k:glA 0 = .ep (.agg (kL.map u32A)) 0:=by kernel_rfl
attribute [local irreducible] glA kL
theorem Tr_u32 (l:List Int):Tr (.li 1 (l.map u32A))=True:=eq_true (Tr.li fun x hx y hy=>by
  obtain ⟨z,_,rfl⟩:=List.mem_map.1 hx;simp only [u32A,AV.cl,List.mem_singleton] at hy;subst hy;exact Tr.lit _)
theorem TrC_u (l:List Int):TrC (.li 1 (l.map u32A))=True:=eq_true (TrC.li fun x hx y hy=>by
  obtain ⟨z,_,rfl⟩:=List.mem_map.1 hx;simp only [u32A,AV.cl,List.mem_singleton] at hy;subst hy;exact Tr.lit _)
theorem TrC_w (n:Nat) (l:List Int):TrC (.li n [.agg (l.map u32A)])=True:=eq_true (TrC.li fun x hx y hy=>by
  simp only [List.mem_singleton] at hx;subst hx;simp only [AV.cl] at hy;obtain ⟨z,_,rfl⟩:=List.mem_map.1 hy;exact Tr.lit _)
def wF (ws:List Int) (i:Nat):Int :=
  IntKind.u32.wrap (IntKind.u32.wrap (IntKind.u32.wrap (bits .xor .u32 (rtI (ws.getD (i-2) 0) [17,19] 2) ((ws.getD (i-2) 0).fdiv (2 ^ 10))+ws.getD (i-7) 0)+bits .xor .u32 (rtI (ws.getD (i-15) 0) [7,18] 2) ((ws.getD (i-15) 0).fdiv (2 ^ 3)))+ws.getD (i-16) 0)
def wS (blk:List UInt8):Nat→List Int
  | 0=>List.replicate 64 0
  | i+1=>(wS blk i).take i++(if i<16 then wdI (blk.drop (4*i)) else wF (wS blk i) i)::(wS blk i).drop (i+1)
theorem wS_len (blk:List UInt8):∀ i,i≤64→(wS blk i).length=64
  | 0,_=>List.length_replicate
  | i+1,h=>by
    have:=wS_len blk i (by omega);rw [wS,List.length_append,List.length_cons,List.length_take,List.length_drop];omega
def t1I (k w a4 a5 a6 a7:Int):Int :=
  IntKind.u32.wrap (IntKind.u32.wrap (IntKind.u32.wrap (IntKind.u32.wrap (a7+rtI a4 [6,11,25] 3)+bits .xor .u32 (bits .and .u32 a4 a5) (bits .and .u32 (bits .xor .u32 (if IntKind.u32.signed=true then -1 else IntKind.u32.max) a4) a6))+k)+w)
def t2I (a0 a1 a2:Int):Int :=
  IntKind.u32.wrap (rtI a0 [2,13,22] 3+bits .xor .u32 (bits .xor .u32 (bits .and .u32 a0 a1) (bits .and .u32 a0 a2)) (bits .and .u32 a1 a2))
def vF (k w:Int):List Int→List Int
  | [a0,a1,a2,a3,a4,a5,a6,a7]=>[IntKind.u32.wrap (t1I k w a4 a5 a6 a7+t2I a0 a1 a2),a0,a1,a2,IntKind.u32.wrap (a3+t1I k w a4 a5 a6 a7),a4,a5,a6]
  | _=>[0,0,0,0,0,0,0,0]
def vS (W st:List Int):Nat→List Int
  | 0=>st
  | i+1=>vF (kL.getD i 0) (W.getD i 0) (vS W st i)
theorem vF_len (k w:Int) (v:List Int):(vF k w v).length=8:=by
  unfold vF;split <;> rfl
theorem vS_len (W st:List Int) (h:st.length=8):∀ i,(vS W st i).length=8
  | 0=>h
  | i+1=>vF_len _ _ _
def oS (st v:List Int):Nat→List Int
  | 0=>List.replicate 8 0
  | i+1=>(oS st v i).set i (IntKind.u32.wrap (st.getD i 0+v.getD i 0))
theorem oS_len (st v:List Int):∀ i,i≤8→(oS st v i).length=8
  | 0,_=>List.length_replicate
  | i+1,h=>by rw [oS,List.length_set,oS_len st v i (by omega)]
def cpS (st:List Int) (blk:List UInt8):List Int:=oS st (vS (wS blk 64) st 64) 8
theorem compress_s (st:List Int) (blk:List UInt8) (h1:st.length=8) (h2:blk.length=64):FnS Tryz.prog 93 [.li 1 (st.map u32A),.by_ blk] [] (.tup [.fr (.li 1 ((cpS st blk).map u32A)),.lit (.int .i64 0)]) []:=by
  have hs:=sgCp_ok;refine fo Tryz.func93 171 fun X hX=>?_;refine up 2 ?_;refine rK hs fun K hK=>?_;simp only [go_sem,h1,h2,List.length_map]
  refine eK ?_;refine WA.cond rfl (fun h=>absurd h (by simp)) (fun h=>?_);refine up 6 ?_;have e0:(wS blk 0).map u32A=List.replicate 64 (.lit (.int .u32 0)):=rfl;have t0:=TrC_w 64 (wS blk 0);rw [e0] at t0;refine WA.loopW hX (fun k=>if k=3000 then 2088 else k) ((fun (i:Nat)=>⟨[(0,.li 1 (st.map u32A)),(1,.by_ blk),(6,.clo 134 []),(7,.ptr 3000 0 0),(27,.lit (.int .i64 (i:Nat)))],[(3000,⟨.li 64 [.agg ((wS blk i).map u32A)],0,false⟩)],4000,171⟩:_→St)) (fun i=>64-i) (fun i=>i≤64) (i0:=0) (Nat.zero_le _) (by simp only [go_sem,Int.natCast_add,Int.natCast_zero,Tr_u32,e0,t0,true_or] <;> (try and_intros) <;> (try omega)) fun i hi=>?_
  have hL:=wS_len blk i hi;refine up 2 ?_;refine WA.cond rfl (fun h=>?_) (fun h=>?_)
  ·
    have h:i<64:=by first | (simp [true_and] at h;omega) | (simp [true_and] at h;exact h) | omega | simpa using h
    refine up 6 ?_;refine WA.cond rfl (fun h'=>?_) (fun h'=>?_)
    ·
      have h':i<16:=by first | (simp [true_and] at h';omega) | (simp [true_and] at h';exact h') | omega | simpa using h'
      have q1:(4:Int)*(i:Int)=((4*i:Nat):Int):=by omega
      have q2:List.take 64 blk=blk:=List.take_of_length_le (by omega);have n1:wS blk (i+1)=(wS blk i).take i++wdI (blk.drop (4*i))::(wS blk i).drop (i+1):=by rw [wS,if_pos h']
      refine rK hs fun K hK=>?_;simp only [go_sem,sgCp,q1,q2,h2,hL,List.length_map]
      refine eK ?_;refine up 1 ?_
      simp only [List.append_assoc,List.cons_append,List.nil_append,u32_set,← n1];refine WA.regionE ty_ok hs fun K hK=>?_;simp only [go_sem,true_and]
      (repeat refine sdA ?_);refine hK _ (roundE hX (fun k=>k) (j:=i+1) (by omega) (by first | omega | (dsimp only;omega) | (simp;omega)) (by simp only [go_sem,Int.natCast_add,Tr_u32,TrC_w,true_or] <;> (try and_intros) <;> (try omega)))
    ·
      have h':¬ i<16:=by first | (simp [true_and] at h';omega) | (simp [true_and] at h';exact h') | omega | simpa using h'
      have q1:(i:Int)-15=((i-15:Nat):Int):=by omega
      have q2:(i:Int)-2=((i-2:Nat):Int):=by omega
      have q3:(i:Int)-7=((i-7:Nat):Int):=by omega
      have q4:(i:Int)-16=((i-16:Nat):Int):=by omega
      have g1:=u32_at (ws:=wS blk i) (i:=i-15) (by omega);have g2:=u32_at (ws:=wS blk i) (i:=i-2) (by omega);have g3:=u32_at (ws:=wS blk i) (i:=i-7) (by omega);have g4:=u32_at (ws:=wS blk i) (i:=i-16) (by omega);refine up 1 ?_
      refine WA.drawnK mixed_ ty_ok hs (tbl:=[[],[0],[0,1],[0,1,2],[],[4],[4,5],[4,5,6],[0,1,2,3],[0,1,2,3,4,5,6,7,8]]) (nb:=[3,7]) (by kernel_rfl) fun K hK=>?_;simp only [go_sem,q1,q2,hL,g1,g2,List.length_map]
      refine eK ?_;have n1:wS blk (i+1)=(wS blk i).take i++wF (wS blk i) i::(wS blk i).drop (i+1):=by rw [wS,if_neg h']
      have n2:IntKind.u32.wrap (IntKind.u32.wrap (IntKind.u32.wrap (bits .xor .u32 (rtI ((wS blk i).getD (i-2) 0) [17,19] 2) (((wS blk i).getD (i-2) 0).fdiv (2 ^ 10))+(wS blk i).getD (i-7) 0)+bits .xor .u32 (rtI ((wS blk i).getD (i-15) 0) [7,18] 2) (((wS blk i).getD (i-15) 0).fdiv (2 ^ 3)))+(wS blk i).getD (i-16) 0)=wF (wS blk i) i:=rfl;refine WA.drawn2 mixed_ ty_ok hs (tbl:=[[],[],[],[],[1,2,3],[],[5],[1,2,3,4,5,6],[],[8],[8,9],[8,9,10],[1,2,3,4,5,6,7,8,9,10,11],[],[],[],[1,2,3,4,13,14,15],[],[17],[1,2,3,4,13,14,15,16,17,18],[1,2,3,4,5,6,7,8,9,10,11,12,13,14,15,16,17,18,19],[],[21],[21,22],[21,22,23],[1,2,3,4,5,6,7,8,9,10,11,12,13,14,15,16,17,18,19,20,21,22,23,24],[0,1,2,3,4,5,6,7,8,9,10,11,12,13,14,15,16,17,18,19,20,21,22,23,24,25],[0,1,2,3,4,5,6,7,8,9,10,11,12,13,14,15,16,17,18,19,20,21,22,23,24,25,26]]) (nb:=[4,11,16,24,27]) (hk:=[[4144,4240],[],[],[],[],[4144,4240],[4144,4240],[4240],[4144,4240],[4144,4240],[4144,4240],[4144,4240],[4240],[4144],[4144],[4144],[],[4144,4240],[4144,4240],[],[],[4144,4240],[4144,4240],[4144,4240],[4144,4240],[],[],[]]) (by kernel_rfl) fun K hK=>?_;simp only [go_sem,sgCp,q3,q4,hL,g3,g4,List.length_map]
      (repeat refine sdA ?_);simp only [n2,List.append_assoc,List.cons_append,List.nil_append,u32_set,← n1];with_reducible refine hK _ (WN.mk ?_)
      clear hK K;with_reducible repeat first | refine WN.t ?_ | refine WN.b ?_
      refine WA.regionE ty_ok hs fun K hK=>?_;simp only [go_sem,true_and]
      (repeat refine sdA ?_);refine hK _ (roundE hX (fun k=>k) (j:=i+1) (by omega) (by first | omega | (dsimp only;omega) | (simp;omega)) (by simp only [go_sem,Int.natCast_add,Tr_u32,TrC_w,true_or] <;> (try and_intros) <;> (try omega)))
  ·
    have h:¬ i<64:=by first | (simp [true_and] at h;omega) | (simp [true_and] at h;exact h) | omega | simpa using h
    obtain rfl:i=64:=by omega
    have hcp:cpS st blk=oS st (vS (wS blk 64) st 64) 8:=rfl;generalize wS blk 64=W at hL hcp;refine up 1 ?_
    have t8:List.take 8 (st.map u32A)=st.map u32A:=List.take_of_length_le (by rw [List.length_map];omega);refine rK hs fun K hK=>?_;simp only [go_sem,h1,List.length_map,t8];refine And.intro ⟨fun y hy=>by obtain ⟨z,_,rfl⟩:=List.mem_map.1 hy;rfl,List.all_eq_true.2 fun y hy=>by obtain ⟨z,_,rfl⟩:=List.mem_map.1 hy;rfl⟩ ?_;refine hK _ ?_;clear hK K;refine up 3 ?_;have v0:vS W st 0=st:=rfl;refine WA.loopW hX (fun k=>if k=3001 then 4032 else k) ((fun (i:Nat)=>⟨[(0,.li 1 (st.map u32A)),(6,.clo 134 []),(7,.ptr 3000 0 0),(11,.ptr 3001 0 0),(78,.lit (.int .i64 (i:Nat)))],[(3000,⟨.li 64 [.agg (W.map u32A)],0,false⟩),(3001,⟨.li 8 [.agg ((vS W st i).map u32A)],0,false⟩)],5000,171⟩:_→St)) (fun i=>64-i) (fun i=>i≤64) (i0:=0) (Nat.zero_le _) (by simp only [go_sem,Int.natCast_add,Int.natCast_zero,Tr_u32,TrC_w,true_or,v0] <;> (try and_intros) <;> (try omega)) fun i hi=>?_
    have lv:(vS W st i).length=8:=vS_len W st h1 i;obtain ⟨a0,a1,a2,a3,a4,a5,a6,a7,ev⟩:∃ a0 a1 a2 a3 a4 a5 a6 a7,vS W st i=[a0,a1,a2,a3,a4,a5,a6,a7]:=by
      match vS W st i,lv with
      | [a0,a1,a2,a3,a4,a5,a6,a7],_=>exact ⟨a0,a1,a2,a3,a4,a5,a6,a7,rfl⟩
    have nv:vS W st (i+1)=vF (kL.getD i 0) (W.getD i 0) (vS W st i):=rfl;rw [ev] at nv;simp only [ev,List.map_cons,List.map_nil,u32A];refine up 2 ?_;refine WA.cond rfl (fun h=>?_) (fun h=>?_)
    ·
      have h:i<64:=by first | (simp [true_and] at h;omega) | (simp [true_and] at h;exact h) | omega | simpa using h
      have g1:=u32_at (ws:=W) (i:=i) (by omega);have g2:=u32_at (ws:=kL) (i:=i) (by rw [kL_len];omega);have g3:(kL.map u32A).getD i .any = .lit (.int .u32 (kL.getD i 0)):=by
        have h2:i<kL.length:=by rw [kL_len];omega
        simp [List.getD,List.getElem?_eq_getElem h2,u32A]
      refine up 4 ?_;refine WA.drawnK mixed_ ty_ok hs (tbl:=[[],[0],[],[2],[0,1],[0,1,2,3,4]]) (nb:=[1,3]) (by kernel_rfl) fun K hK=>?_;simp only [go_sem,true_and]
      refine eK ?_;have n1:t1I (kL.getD i 0) (W.getD i 0) a4 a5 a6 a7=IntKind.u32.wrap (IntKind.u32.wrap (IntKind.u32.wrap (IntKind.u32.wrap (a7+rtI a4 [6,11,25] 3)+bits .xor .u32 (bits .and .u32 a4 a5) (bits .and .u32 (bits .xor .u32 (if IntKind.u32.signed=true then -1 else IntKind.u32.max) a4) a6))+kL.getD i 0)+W.getD i 0):=rfl;refine WA.drawnH mixed_ ty_ok hs (tbl:=[[],[0],[],[],[],[2,3,4],[0,1,2,3,4,5],[],[],[8],[7,8,9],[],[11],[],[13],[11,12,13,14],[7,8,9,10,11,12,13,14,15],[0,1,2,3,4,5,6,7,8,9,10,11,12,13,14,15,16],[],[18],[18,19],[0,1,2,3,4,5,6,7,8,9,10,11,12,13,14,15,16,17,18,19,20],[],[22],[22,23],[0,1,2,3,4,5,6,7,8,9,10,11,12,13,14,15,16,17,18,19,20,21,22,23,24],[0,1,2,3,4,5,6,7,8,9,10,11,12,13,14,15,16,17,18,19,20,21,22,23,24,25]]) (nb:=[1,5,9,14,20,24]) (hk:=[[5104],[5104],[],[],[],[],[],[5104],[5104],[5104],[5104],[5104],[5104],[5104],[5104],[5104],[5104],[],[5104],[5104],[5104],[],[5104],[5104],[5104],[],[]]) (by kernel_rfl) fun K hK=>?_;simp only [go_sem,sgCp,hL,kL_len,glA_k,g1,g2,g3,List.length_map]
      refine eK ?_;simp only [← n1];have n2:t2I a0 a1 a2=IntKind.u32.wrap (rtI a0 [2,13,22] 3+bits .xor .u32 (bits .xor .u32 (bits .and .u32 a0 a1) (bits .and .u32 a0 a2)) (bits .and .u32 a1 a2)):=rfl;refine WA.drawnH mixed_ ty_ok hs (tbl:=[[],[],[],[0,1,2],[],[],[5],[4,5,6],[],[],[9],[8,9,10],[4,5,6,7,8,9,10,11],[],[13],[],[15],[13,14,15,16],[4,5,6,7,8,9,10,11,12,13,14,15,16,17],[0,1,2,3,4,5,6,7,8,9,10,11,12,13,14,15,16,17,18],[0,1,2,3,4,5,6,7,8,9,10,11,12,13,14,15,16,17,18,19]]) (nb:=[3,6,10,14,16]) (hk:=[[],[],[],[],[5304],[5304],[5304],[5304],[5304],[5304],[5304],[5304],[5304],[5304],[5304],[5304],[5304],[5304],[5304],[],[]]) (by kernel_rfl) fun K hK=>?_;simp only [go_sem,sgCp]
      refine eK ?_;simp only [← n2];refine up 1 ?_
      refine WA.regionE ty_ok hs fun K hK=>?_;simp only [go_sem,true_and]
      (repeat refine sdA ?_);refine hK _ (roundE hX (fun k=>k) (j:=i+1) (by omega) (by first | omega | (dsimp only;omega) | (simp;omega)) (by simp only [go_sem,Int.natCast_add,Tr_u32,TrC_w,true_or,nv,vF,List.map_cons,List.map_nil,u32A] <;> (try and_intros) <;> (try omega)))
    ·
      have h:¬ i<64:=by first | (simp [true_and] at h;omega) | (simp [true_and] at h;exact h) | omega | simpa using h
      obtain rfl:i=64:=by omega
      have hv:(vS W st 64).map u32A=[.lit (.int .u32 a0),.lit (.int .u32 a1),.lit (.int .u32 a2),.lit (.int .u32 a3),.lit (.int .u32 a4),.lit (.int .u32 a5),.lit (.int .u32 a6),.lit (.int .u32 a7)]:=by rw [ev];rfl
      simp only [← hv];clear ev nv hv;generalize vS W st 64=V at lv hcp;refine up 5 ?_;have o0:(oS st V 0).map u32A=List.replicate 8 (.lit (.int .u32 0)):=rfl;have o1:=TrC_u (oS st V 0);rw [o0] at o1;refine WA.loopW hX (fun k=>if k=3002 then 5008 else k) ((fun (i:Nat)=>⟨[(0,.li 1 (st.map u32A)),(11,.ptr 3001 0 0),(17,.sl 3002 1 0 8),(154,.lit (.int .i64 8)),(155,.lit (.int .i64 (i:Nat)))],[(3001,⟨.li 8 [.agg (V.map u32A)],0,false⟩),(3002,⟨.li 1 ((oS st V i).map u32A),0,false⟩)],6000,171⟩:_→St)) (fun i=>8-i) (fun i=>i≤8) (i0:=0) (Nat.zero_le _) (by simp only [go_sem,Int.natCast_add,Int.natCast_zero,Tr_u32,TrC_w,true_or,o0,o1] <;> (try and_intros) <;> (try omega)) fun i hi=>?_
      have lo:=oS_len st V i hi;refine up 2 ?_;refine WA.cond rfl (fun h=>?_) (fun h=>?_)
      ·
        have h:i<8:=by first | (simp [true_and] at h;omega) | (simp [true_and] at h;exact h) | omega | simpa using h
        have g1:=u32_at (ws:=V) (i:=i) (by omega);have g2:(st.map u32A).getD i .any = .lit (.int .u32 (st.getD i 0)):=by
          have h2:i<st.length:=by omega
          simp [List.getD,List.getElem?_eq_getElem h2,u32A]
        have g3:((oS st V i).map u32A).getD i .any = .lit (.int .u32 ((oS st V i).getD i 0)):=by
          have h2:i<(oS st V i).length:=by omega
          simp [List.getD,List.getElem?_eq_getElem h2,u32A]
        have no:(oS st V (i+1)).map u32A=((oS st V i).map u32A).set i (.lit (.int .u32 (IntKind.u32.wrap (st.getD i 0+V.getD i 0)))):=by rw [oS,List.map_set];rfl
        refine up 4 ?_;refine WA.drawn2 mixed_ ty_ok hs (tbl:=[[],[],[],[],[2,3],[2,3,4],[],[6],[6,7],[2,3,4,5,6,7,8],[0,1,2,3,4,5,6,7,8,9],[0,1,2,3,4,5,6,7,8,9,10]]) (nb:=[5,8,11]) (hk:=[[],[],[],[],[],[],[],[],[],[],[],[]]) (by kernel_rfl) fun K hK=>?_;simp only [go_sem,lv,lo,h1,g1,g2,g3,List.length_map]
        (repeat refine sdA ?_);simp only [← no];with_reducible refine hK _ (WN.mk ?_)
        clear hK K;with_reducible repeat first | refine WN.t ?_ | refine WN.b ?_
        refine WA.regionE ty_ok hs fun K hK=>?_;simp only [go_sem,true_and]
        (repeat refine sdA ?_);refine hK _ (roundE hX (fun k=>k) (j:=i+1) (by omega) (by first | omega | (dsimp only;omega) | (simp;omega)) (by simp only [go_sem,Int.natCast_add,Tr_u32,TrC_w,TrC_u,true_or] <;> (try and_intros) <;> (try omega)))
      ·
        have h:¬ i<8:=by first | (simp [true_and] at h;omega) | (simp [true_and] at h;exact h) | omega | simpa using h
        obtain rfl:i=8:=by omega
        rw [← hcp] at lo;simp only [← hcp];refine up 2 ?_;refine rE [.fr (.li 1 ((cpS st blk).map u32A)),.lit (.int .i64 0)] [] [.tmp 4,.tmp 5] ?_;simp only [go_sem,sbT,TrC_u,lo,List.length_map];all_goals exact agA
theorem cpS_len (st:List Int) (blk:List UInt8):(cpS st blk).length=8:=by
  unfold cpS;exact oS_len _ _ 8 (Nat.le_refl _)
end
def dbS (bs:List UInt8):Nat→List UInt8 × Int
  | 0=>(List.replicate 16 0,0)
  | i+1=>((dbS bs i).1.set (15-i) (UInt8.ofNat (bits .or .u8 (IntKind.u8.wrap (((bs.getD (15-i) 0).toNat:Int)*2 ^ 1)) (dbS bs i).2).toNat),((bs.getD (15-i) 0).toNat:Int).fdiv (2 ^ 7))
theorem dbS_len (bs:List UInt8):∀ i,(dbS bs i).1.length=16
  | 0=>List.length_replicate
  | i+1=>by rw [dbS,List.length_set,dbS_len bs i]
theorem or8_r (x y:Int):0≤bits .or .u8 x y∧bits .or .u8 x y<256:=by
  have e:bits .or .u8 x y=IntKind.u8.wrap ((BitVec.ofInt 8 x ||| BitVec.ofInt 8 y).toNat:Int):=rfl;rw [e,IntKind.wrap_u8];omega
def dbM (bs:List UInt8):List UInt8:=if (dbS bs 16).2=1 then (dbS bs 16).1.set 15 ((dbS bs 16).1.getD 15 0 ^^^ 135) else (dbS bs 16).1
theorem dbM_len (bs:List UInt8):(dbM bs).length=16:=by
  unfold dbM;split
  · rw [List.length_set,dbS_len]
  · exact dbS_len bs 16
theorem double_s (bs:List UInt8) (hb:bs.length=16):FnS Tryz.prog 182 [.by_ bs] [] (.fr (.by_ (dbM bs))) []:=by
  have hs:=sg0_ok;refine fo Tryz.func182 34 fun X hX=>?_;refine up 6 ?_;have r0:[(0:UInt8),0,0,0,0,0,0,0,0,0,0,0,0,0,0,0]=(dbS bs 0).1:=rfl;have r1:List.replicate 16 (0:UInt8)=(dbS bs 0).1:=rfl;have r2:(dbS bs 0).2=0:=rfl;refine WA.loopW hX (fun k=>if k=3000 then 2008 else k) ((fun (i:Nat)=>⟨[(0,.by_ bs),(3,.sl 3000 1 0 16),(4,.lit (.int .u8 (dbS bs i).2)),(5,.lit (.int .i64 (15-(i:Nat))))],[(3000,⟨.by_ (dbS bs i).1,0,false⟩)],4000,34⟩:_→St)) (fun i=>16-i) (fun i=>i≤16) (i0:=0) (Nat.zero_le _) (by simp only [go_sem,Int.natCast_add,r0,r1,r2,Int.natCast_zero,Int.sub_zero] <;> (try and_intros) <;> (try omega)) fun i hi=>?_
  have hL:=dbS_len bs i;refine up 2 ?_;refine WA.cond rfl (fun h=>?_) (fun h=>?_)
  ·
    have h:i<16:=by first | (simp [true_and] at h;omega) | (simp [true_and] at h;exact h) | omega | simpa using h
    have q7:((15:Int)-((i:Nat):Int)).toNat=15-i:=by omega
    have n1:dbS bs (i+1)=((dbS bs i).1.set (15-i) (UInt8.ofNat (bits .or .u8 (IntKind.u8.wrap (((bs.getD (15-i) 0).toNat:Int)*2 ^ 1)) (dbS bs i).2).toNat),((bs.getD (15-i) 0).toNat:Int).fdiv (2 ^ 7)):=rfl;obtain ⟨a,ha⟩:∃ a,dbS bs i=a:=⟨_,rfl⟩;simp only [ha] at hL n1 ⊢;refine up 3 ?_;have hor:=or8_r (IntKind.u8.wrap (((bs.getD (15-i) 0).toNat:Int)*2 ^ 1)) a.2;refine rK hs fun K hK=>?_;simp only [go_sem,hL,hb,q7]
    refine eK ?_;refine WA.regionE ty_ok hs fun K hK=>?_;simp only [go_sem,hL,hb,q7]
    refine eN ?_
    refine WA.regionE ty_ok hs fun K hK=>?_;simp only [go_sem,true_and]
    (repeat refine sdA ?_);refine hK _ (roundE hX (fun k=>k) (j:=i+1) (by omega) (by first | omega | (dsimp only;omega) | (simp;omega)) (by simp only [go_sem,Int.natCast_add,n1] <;> (try and_intros) <;> (try omega)))
  ·
    have h:¬ i<16:=by first | (simp [true_and] at h;omega) | (simp [true_and] at h;exact h) | omega | simpa using h
    obtain rfl:i=16:=by omega
    have hM:=dbM_len bs;obtain ⟨a,ha⟩:∃ a,dbS bs 16=a:=⟨_,rfl⟩;have hd:dbM bs=if a.2=1 then a.1.set 15 (a.1.getD 15 0 ^^^ 135) else a.1:=by rw [← ha];rfl
    have e135:bits .xor .u8 ((a.1.getD 15 0).toNat:Int) 135=((a.1.getD 15 0 ^^^ 135).toNat:Int):=xor_u8 _ 135;rw [ha] at hL ⊢;refine up 3 ?_;refine WA.cond rfl (fun h'=>?_) (fun h'=>?_)
    ·
      have h':a.2=1:=by first | (simp [true_and] at h';omega) | (simp [true_and] at h';exact h') | omega | simpa using h'
      rw [if_pos h'] at hd;rw [hd] at hM ⊢;refine WA.regionE ty_ok hs fun K hK=>?_;simp only [go_sem,hL,e135]
      refine eN ?_
      refine rK hs fun K hK=>?_;simp only [go_sem,hL,hM]
      refine eK ?_;refine rE [.fr (.by_ (a.1.set 15 (a.1.getD 15 0 ^^^ 135)))] [] [.tmp 2] ?_;simp only [go_sem,sbT,hL,hM,List.length_set];all_goals exact agA
    ·
      have h':¬ a.2=1:=by first | (simp [true_and] at h';omega) | (simp [true_and] at h';exact h') | omega | simpa using h'
      rw [if_neg h'] at hd;rw [hd];refine up 1 ?_
      refine rK hs fun K hK=>?_;simp only [go_sem,hL]
      refine eK ?_;refine rE [.fr (.by_ a.1)] [] [.tmp 2] ?_;simp only [go_sem,sbT,hL];all_goals exact agA
def padK (d:List UInt8) (k:Nat):List UInt8:=d++128::List.replicate k 0
theorem padK_len (d:List UInt8) (k:Nat):(padK d k).length=d.length+1+k:=by
  simp only [padK,List.length_append,List.length_cons,List.length_replicate];omega
theorem padK_z (d:List UInt8) {k i:Nat} (h:i<k):(padK d k).getD (d.length+k-i) 0=0:=by
  unfold padK;simp only [List.getD];rw [List.getElem?_append_right (by omega),show d.length+k-i-d.length=(k-i-1)+1 by omega,List.getElem?_cons_succ,List.getElem?_replicate,if_pos (by omega)];rfl
theorem padK_o (d:List UInt8) (k:Nat):(padK d k).getD d.length 0=128:=by
  unfold padK;simp [List.getD]
theorem padK_take (d:List UInt8) (k:Nat):(padK d k).take d.length=d:=by
  unfold padK;exact List.take_left' rfl
theorem unpad_s (d:List UInt8) (k:Nat) (hk:k≤15) (hm:(d.length+1+k) % 16=0) (hd:d.length≤1000000000):FnS Tryz.prog 132 [.by_ (padK d k)] [] (.tup [.fr (.by_ d),.lit (.int .i64 0)]) []:=by
  have hs:=sgCl_ok;have hc:d.length≤140737488355328:=by omega
  have hL:=padK_len d k;have hT:=padK_take d k;have q:(((d.length+1+k:Nat)):Int).tmod 16=(((d.length+1+k) % 16:Nat):Int):=rfl;refine fo Tryz.func132 36 fun X hX=>?_;refine up 2 ?_;refine rK hs fun K hK=>?_;simp only [go_sem,hL,q,hm]
  refine eK ?_;refine WA.cond rfl (fun h=>absurd h (by simp;omega)) (fun h=>?_);refine up 2 ?_;refine rK hs fun K hK=>?_;simp only [go_sem,hL]
  refine eK ?_;refine up 1 ?_;refine WA.loopW hX (fun k=>k) ((fun (i:Nat)=>⟨[(0,.by_ (padK d k)),(4,.lit (.int .i64 ((d.length:Nat)+(k:Nat)-(i:Nat))))],[],4000,36⟩:_→St)) (fun i=>k-i) (fun i=>i≤k) (i0:=0) (Nat.zero_le _) (by simp only [go_sem,Int.natCast_add,Int.natCast_zero,Int.sub_zero] <;> (try and_intros) <;> (try omega)) fun i hi=>?_
  refine up 1 ?_;refine rK hs fun K hK=>?_;simp only [go_sem,hL]
  refine eK ?_;refine WA.cond rfl (fun h=>?_) (fun h=>absurd h (by simp;omega));have q7:(((d.length:Nat):Int)+((k:Nat):Int)-((i:Nat):Int)).toNat=d.length+k-i:=by omega
  refine up 3 ?_;have c0:((UInt8.toNat 0:Nat):Int)=0:=rfl;have c128:((UInt8.toNat 128:Nat):Int)=128:=rfl;rcases Nat.lt_or_ge i k with h2 | h2
  · have z1:=padK_z d h2;refine rK hs fun K hK=>?_;simp only [go_sem,hL,q7,z1,c0]
    refine eK ?_;refine up 2 ?_;refine WA.cond rfl (fun h'=>?_) (fun h'=>absurd h' (by simp));refine up 1 ?_
    refine WA.regionE ty_ok hs fun K hK=>?_;simp only [go_sem,true_and]
    (repeat refine sdA ?_);refine hK _ (roundE hX (fun k=>k) (j:=i+1) (by omega) (by first | omega | (dsimp only;omega) | (simp;omega)) (by simp only [go_sem,Int.natCast_add,true_and] <;> (try and_intros) <;> (try omega)))
  · obtain rfl:i=k:=by omega
    have z1:=padK_o d i;have q8:(((d.length:Nat):Int)+((i:Nat):Int)-((i:Nat):Int)).toNat=d.length:=by omega
    refine rK hs fun K hK=>?_;simp only [go_sem,hL,q8,z1,c128]
    refine eK ?_;refine up 2 ?_;refine WA.cond rfl (fun h'=>absurd h' (by simp)) (fun h'=>?_);refine up 1 ?_;refine WA.cond rfl (fun h'=>?_) (fun h'=>absurd h' (by simp));refine rK hs fun K hK=>?_;simp only [go_sem,sgCl,hL,q8,hT,hc]
    refine eK ?_;refine rE [.fr (.by_ d),.lit (.int .i64 0)] [] [.tmp 2,.tmp 3] ?_;simp only [go_sem,sbT];all_goals exact agA
theorem Tr_chk (b:List UInt8) (x:AV) (hx:Tr x) (hx1:x.cl=[x]) (f:Nat):Tr (.clo f [.ep (.by_ b) 0,.ep x 0]):=by
  refine Tr.clo fun y hy=>?_;simp only [List.mem_cons,List.not_mem_nil,or_false] at hy;rcases hy with rfl | rfl
  · exact Tr.ep fun z hz=>by simp only [AV.cl,List.mem_singleton] at hz;subst hz;exact Tr.by_ _
  · exact Tr.ep fun z hz=>by rw [hx1] at hz;simp only [List.mem_singleton] at hz;subst hz;exact hx
theorem chunk_s (b:List UInt8) (n:Nat) (hn:0<n) (hm:n≤1000):FnS Tryz.prog 91 [.by_ b,.lit (.int .i64 n)] [] (.clo 133 [.ep (.by_ b) 0,.ep (.lit (.int .i64 n)) 0]) []:=by
  have hs:=sg0_ok;refine fo Tryz.func91 9 fun X hX=>?_;refine up 1 ?_;refine WA.normP 2 fun K hK=>?_;simp only [go_sem]
  refine eK ?_;refine WA.normP 3 fun K hK=>?_;simp only [go_sem]
  refine eK ?_;refine up 2 ?_;refine WA.cond rfl (fun h=>absurd h (by simp;omega)) (fun h=>?_);refine up 2 ?_;refine rE [.clo 133 [.ep (.by_ b) 0,.ep (.lit (.int .i64 n)) 0]] [] [.tmp 4] ?_;simp only [go_sem,sbT];exact Tr_chk _ _ (Tr.lit _) rfl _
theorem pad_s (b:List UInt8) (hb:b.length≤1000000000):FnS Tryz.prog 66 [.by_ b] [] (.fr (.by_ (padB b))) []:=by
  have hs:=sgCl_ok;have hc:b.length≤140737488355328:=by omega
  refine fo Tryz.func66 15 fun X hX=>?_;refine up 1 ?_;refine rK hs fun K hK=>?_;simp only [go_sem,sgCl,hc]
  refine eK ?_;have h16:=Nat.mod_lt (b.length+1) (show 0<16 by decide);have q0:((b.length+1:Nat):Int).tmod 16=(((b.length+1) % 16:Nat):Int):=rfl;have q1:((16:Int)-(((b.length+1) % 16:Nat):Int)).tmod 16=(((16-(b.length+1) % 16) % 16:Nat):Int):=by
    rw [show (16:Int)-(((b.length+1) % 16:Nat):Int)=((16-(b.length+1) % 16:Nat):Int) by omega];rfl
  have h17:=Nat.mod_lt (16-(b.length+1) % 16) (show 0<16 by decide);refine rK hs fun K hK=>?_;simp only [go_sem,q0,q1,Int.toNat_natCast]
  refine eK ?_;refine rE [.fr (.by_ (padB b))] [] [.tmp 2] ?_;simp only [go_sem,sbT,padB];all_goals exact agA
section
attribute [local irreducible] w32 cpS
def sgDp:Sg:=fun f args ls =>
  match f,args,ls with
  | 46,[.by_ bs],[]=>some (.fr (.by_ bs),[],bs.length≤140737488355328)
  | 91,[.by_ bs,.lit (.int .i64 n)],[]=>some (.clo 133 [.ep (.by_ bs) 0,.ep (.lit (.int .i64 n)) 0],[],0<n∧n≤1000)
  | 94,[.lit (.int .u32 z)],[]=>some (.fr (.by_ (w32 z)),[],True)
  | _,_,_=>none
theorem sgDp_ok:SgOK Tryz.prog sgDp:=by
  intro f args ls r ls' vc h hvc;unfold sgDp at h;split at h <;> cases h
  · exact ⟨(fnOK Tryz.func46 (by decide) rfl),sclone_s _ hvc⟩
  · rename_i bs n;obtain ⟨h1,h2⟩:=hvc;obtain ⟨k,rfl⟩:∃ k:Nat,n=k:=⟨n.toNat,by omega⟩;exact ⟨(fnOK Tryz.func91 (by decide) rfl),chunk_s _ k (by omega) (by omega)⟩
  · exact ⟨(fnOK Tryz.func94 (by decide) rfl),bytesOf_s _⟩
theorem w32_len (z:Int):(w32 z).length=4:=by
  unfold w32;rfl
theorem take_w32 (z:Int):List.take 4 (w32 z)=w32 z:=List.take_of_length_le (by rw [w32_len];exact Nat.le_refl _)
def dpK (n:Nat):Nat:=(119-n % 64) % 64
def dpZ (b:List UInt8) (i:Nat):List UInt8:=b++[128]++List.replicate i 0
theorem dpZ_succ (b:List UInt8) (i:Nat):dpZ b i++[0]=dpZ b (i+1):=by
  simp [dpZ,List.replicate_succ']
theorem dpZ_len (b:List UInt8) (i:Nat):(dpZ b i).length=b.length+1+i:=by
  simp [dpZ];omega
def dpB (b:List UInt8):List UInt8 :=
  dpZ b (dpK b.length)++w32 (IntKind.u32.wrap ((8*(b.length:Int)).fdiv (2 ^ 32)))++w32 (IntKind.u32.wrap (8*(b.length:Int)))
theorem dpB_len (b:List UInt8):(dpB b).length % 64=0∧(dpB b).length≤b.length+100:=by
  have h1:=w32_len (IntKind.u32.wrap ((8*(b.length:Int)).fdiv (2 ^ 32)));have h2:=w32_len (IntKind.u32.wrap (8*(b.length:Int)));have hk:dpK b.length=(119-b.length % 64) % 64:=rfl;unfold dpB;rw [List.length_append,List.length_append,h1,h2,dpZ_len];omega
theorem dpad_s (b:List UInt8) (hb:b.length≤100000000):FnS Tryz.prog 92 [.by_ b] [] (.fr (.by_ (dpB b))) []:=by
  have hs:=sgDp_ok;have hc:b.length≤140737488355328:=by omega
  have hk:dpK b.length=(119-b.length % 64) % 64:=rfl;refine fo Tryz.func92 30 fun X hX=>?_;refine up 1 ?_;refine rK hs fun K hK=>?_;simp only [go_sem,sgDp,hc]
  refine eK ?_;refine up 2 ?_;have z0:dpZ b 0=b++[128]:=by simp [dpZ]
  refine WA.loopW hX (fun k=>if k=3000 then 2032 else k) ((fun (i:Nat)=>⟨[(0,.by_ b),(3,.sl 3000 1 0 (b.length+1+i))],[(3000,⟨.by_ (dpZ b i),0,false⟩)],4000,30⟩:_→St)) (fun i=>dpK b.length-i) (fun i=>i≤dpK b.length) (i0:=0) (Nat.zero_le _) (by simp only [go_sem,Int.natCast_add,z0,Nat.add_zero] <;> (try and_intros) <;> (try omega)) fun i hi=>?_
  have hl:=dpZ_len b i;have q0:((b.length+1+i:Nat):Int).tmod 64=(((b.length+1+i) % 64:Nat):Int):=rfl;refine up 1 ?_;refine rK hs fun K hK=>?_;simp only [go_sem,q0]
  refine eK ?_;refine WA.cond rfl (fun h=>?_) (fun h=>?_)
  ·
    have h2:(b.length+1+i) % 64 ≠ 56:=by
      intro e;rw [e] at h;simp at h
    refine up 2 ?_;have n1:=dpZ_succ b i;refine WA.regionE ty_ok hs fun K hK=>?_;simp only [go_sem,hl]
    (repeat refine sdA ?_);simp only [n1];refine hK _ (WN.mk ?_);clear hK K;repeat with_reducible refine WN.b ?_
    refine WN.round hX (fun k=>if k=3000 then 4048 else k) (j:=i+1) (by omega) (by first | omega | (dsimp only;omega) | (simp;omega)) (by simp only [go_sem,Int.natCast_add,Nat.add_assoc] <;> (try and_intros) <;> (try omega))
  ·
    have h2:(b.length+1+i) % 64=56:=by
      by_cases e:(b.length+1+i) % 64=56
      · exact e
      · exfalso;simp at h;omega
    obtain rfl:i=dpK b.length:=by omega
    have w1:IntKind.u64.wrap ((b.length:Nat):Int)=b.length:=wrap_u64 (by omega) (by omega);have w2:inR .u64 (8*((b.length:Nat):Int))=True:=eq_true (wrap_u64 (by omega) (by omega));have hdp:dpB b=dpZ b (dpK b.length)++w32 (IntKind.u32.wrap ((8*(b.length:Int)).fdiv (2 ^ 32)))++w32 (IntKind.u32.wrap (8*(b.length:Int))):=rfl;refine up 1 ?_
    refine rK hs fun K hK=>?_;simp only [go_sem,w1,w2]
    refine eK ?_;refine rK hs fun K hK=>?_;simp only [go_sem,sgDp,hl,w32_len,take_w32]
    refine eK ?_;have hl2:=dpB_len b;have hl3:(dpB b).length=b.length+1+dpK b.length+4+4:=by
      rw [hdp,List.length_append,List.length_append,w32_len,w32_len,hl]
    refine rE [.fr (.by_ (dpB b))] [] [.tmp 2] ?_;simp only [go_sem,sbT,hdp,w32_len,hl,List.length_append];all_goals exact agA
def unU:AV→Int
  | .lit (.int _ z)=>z
  | _=>0
theorem un_u32 (l:List Int):(l.map u32A).map unU=l:=by
  rw [List.map_map];exact List.map_id'' (fun _=>rfl) l
def sgDs:Sg:=fun f args ls =>
  match f,args,ls with
  | 90,[],[]=>some (.fr (.li 1 (dg0.map u32A)),[],True)
  | 92,[.by_ bs],[]=>some (.fr (.by_ (dpB bs)),[],bs.length≤100000000)
  | 91,[.by_ bs,.lit (.int .i64 n)],[]=>some (.clo 133 [.ep (.by_ bs) 0,.ep (.lit (.int .i64 n)) 0],[],0<n∧n≤1000)
  | 94,[.lit (.int .u32 z)],[]=>some (.fr (.by_ (w32 z)),[],True)
  | 93,[.li 1 l,.by_ blk],[]=>some (.tup [.fr (.li 1 ((cpS (l.map unU) blk).map u32A)),.lit (.int .i64 0)],[],(l.map unU).map u32A=l∧(l.map unU).length=8∧blk.length=64)
  | _,_,_=>none
theorem sgDs_ok:SgOK Tryz.prog sgDs:=by
  intro f args ls r ls' vc h hvc;unfold sgDs at h;split at h <;> cases h
  · exact ⟨(fnOK Tryz.func90 (by decide) rfl),start_s⟩
  · exact ⟨(fnOK Tryz.func92 (by decide) rfl),dpad_s _ hvc⟩
  · rename_i bs n;obtain ⟨h1,h2⟩:=hvc;obtain ⟨k,rfl⟩:∃ k:Nat,n=k:=⟨n.toNat,by omega⟩;exact ⟨(fnOK Tryz.func91 (by decide) rfl),chunk_s _ k (by omega) (by omega)⟩
  · exact ⟨(fnOK Tryz.func94 (by decide) rfl),bytesOf_s _⟩
  · rename_i l blk;obtain ⟨h1,h2,h3⟩:=hvc;have:=compress_s (l.map unU) blk h2 h3;rw [h1] at this;exact ⟨(fnOK Tryz.func93 (by decide) rfl),this⟩
def dgS (l:List (List UInt8)):List Int:=l.foldl cpS dg0
theorem dgS_succ (l:List (List UInt8)) (x:List UInt8):dgS (l++[x])=cpS (dgS l) x:=by
  unfold dgS;rw [List.foldl_append];rfl
theorem dgS_len (l:List (List UInt8)):(dgS l).length=8:=by
  rcases List.eq_nil_or_concat l with rfl | ⟨r,x,rfl⟩
  · rfl
  · rw [List.concat_eq_append,dgS_succ];exact cpS_len _ _
def wsB (l:List Int):Nat→List UInt8
  | 0=>[]
  | i+1=>wsB l i++w32 (l.getD i 0)
theorem wsB_len (l:List Int):∀ i,(wsB l i).length=4*i
  | 0=>rfl
  | i+1=>by rw [wsB,List.length_append,wsB_len l i,w32_len];omega
def digB (b:List UInt8):List UInt8:=wsB (dgS (pieces 64 (dpB b) ((dpB b).length / 64))) 8
theorem digB_len (b:List UInt8):(digB b).length=32:=wsB_len _ 8
def sumH (pre:List (List UInt8)):List (Nat × Blk):=[(0,⟨.li 1 [.sl 3000 1 0 8],0,false⟩),(3000,⟨.li 1 ((dgS pre).map u32A),0,false⟩)]
def sumT (d:List UInt8):List (Nat × AV):=[(3,.ptr 0 0 0),(11,.clo 133 [.ep (.by_ d) 0,.ep (.lit (.int .i64 64)) 0])]
theorem sum_s (b:List UInt8) (hb:b.length≤100000000):FnS Tryz.prog 48 [.by_ b] [] (.fr (.by_ (digB b))) []:=by
  have hs:=sgDs_ok;obtain ⟨d1,d2⟩:=dpB_len b;refine FnS.ofX Tryz.func48 rfl (N:=31) rfl (by simp) (by simp) fun X hX hE=>?_;simp only [tmArgs,lentH,Nat.reduceAdd];have hdg:digB b=wsB (dgS (pieces 64 (dpB b) ((dpB b).length / 64))) 8:=rfl;have l0:dg0.length=8:=rfl;have hT:=TrC_u dg0;obtain ⟨D0,hD0⟩:∃ D0,dg0=D0:=⟨_,rfl⟩;simp only [hD0] at l0 hT;refine up 1 ?_;refine rK hs fun K hK=>?_;simp only [go_sem,sgDs,hD0,l0,List.length_map]
  refine eK ?_;refine up 1 ?_;obtain ⟨d,hd⟩:∃ d,dpB b=d:=⟨_,rfl⟩;rw [hd] at d1 d2 hdg;have hC:=eq_true (Tr_chk d (.lit (.int .i64 64)) (Tr.lit _) rfl 133);refine rK hs fun K hK=>?_;simp only [go_sem,sgDs,hb,hd,hC,hT,List.take_length]
  refine eK ?_;have hk:d.length=d.length / 64*64:=by omega
  refine WA.chunk hX hE (n:=64) (k:=d.length / 64) (bs:=d) (sz:=31) 1 (fun k=>if k=0 then 2016 else if k=3000 then 2008 else k) (sumT d) sumH 4000 (by decide) hk (by omega) rfl rfl ⟨rfl,rfl,rfl⟩ (by decide) ?wk ?tm ?bx ?ln ?kl ?body ?rest
  case wk =>
    have e1:dgS []=D0:=hD0;simp only [sumH,sumT,e1,go_sem,hC,hT,true_or]
  case tm=>exact ⟨.inl ⟨0,0,0,rfl,by decide⟩,.inr (of_eq_true hC),trivial⟩
  case bx =>
    intro q hq;obtain rfl:q=0:=by omega
    exact ⟨_,rfl,Nat.zero_le _,Nat.zero_lt_one⟩
  case ln=>exact fun pre=>lk_ln rfl
  case kl=>exact fun pre=>lk_hi rfl
  case body =>
    intro l X' hX pre x hx hlen hpre;have e0:=dgS_succ pre x;have l1:=dgS_len pre;have l2:=cpS_len (dgS pre) x;have t1:=TrC_u (dgS pre);have tk:List.take 8 ((dgS pre).map u32A)=(dgS pre).map u32A:=List.take_of_length_le (by rw [List.length_map,l1];exact Nat.le_refl _);refine WR.block ?_;simp only [sumH,sumT];refine WR.regionE ty_ok hs RQ.outB rfl fun K hK=>?_;simp only [go_sem,sgDs,t1,tk,un_u32,l1,l2,hx,TrC_u,List.length_map]
    (repeat refine sdA ?_);refine hK _ (RQ.b (RQ.mk hX (fun k=>if k=3000 then 4016 else k) 4000 (by simp only [go_sem,Int.natCast_add,e0,sumH,TrC_u,true_or] <;> (try and_intros) <;> (try omega))))
  case rest =>
    intro X' hX;have l1:=dgS_len (pieces 64 d (d.length / 64));simp only [sumH,sumT];obtain ⟨V,hV⟩:∃ V,dgS (pieces 64 d (d.length / 64))=V:=⟨_,rfl⟩;rw [hV] at l1 hdg;simp only [hV];refine up 1 ?_;refine WA.own0 5 (.by_ []) rfl rfl ?_;refine up 1 ?_;refine rK hs fun K hK=>?_;simp only [go_sem,l1,List.length_map]
    refine eK ?_;refine up 1 ?_;have w0:wsB V 0=[]:=rfl;refine WA.loopW hX (fun k=>if k=3001 then 4008 else k) ((fun (i:Nat)=>⟨[(5,.sl 3001 1 0 (4*i)),(19,.sl 3000 1 0 8),(20,.lit (.int .i64 8)),(21,.lit (.int .i64 (i:Nat)))],[(3000,⟨.li 1 (V.map u32A),0,false⟩),(3001,⟨.by_ (wsB V i),0,false⟩)],5000,31⟩:_→St)) (fun i=>8-i) (fun i=>i≤8) (i0:=0) (Nat.zero_le _) (by simp only [go_sem,Int.natCast_add,w0,Int.natCast_zero,Nat.mul_zero,TrC_u,true_or] <;> (try and_intros) <;> (try omega)) fun i hi=>?_
    have hl:=wsB_len V i;refine up 2 ?_;refine WA.cond rfl (fun h=>?_) (fun h=>?_)
    ·
      have h:i<8:=by first | (simp [true_and] at h;omega) | (simp [true_and] at h;exact h) | omega | simpa using h
      have g2:(V.map u32A).getD i .any = .lit (.int .u32 (V.getD i 0)):=by
        have h2:i<V.length:=by omega
        simp [List.getD,List.getElem?_eq_getElem h2,u32A]
      have n1:wsB V (i+1)=wsB V i++w32 (V.getD i 0):=rfl;refine up 3 ?_;refine rK hs fun K hK=>?_;simp only [go_sem,g2,l1,List.length_map]
      refine eK ?_;refine WA.regionE ty_ok hs fun K hK=>?_;simp only [go_sem,sgDs,hl,w32_len,take_w32]
      refine eN ?_
      refine WA.regionE ty_ok hs fun K hK=>?_;simp only [go_sem,true_and]
      (repeat refine sdA ?_);refine hK _ (roundE hX (fun k=>if k=3001 then 5056 else k) (j:=i+1) (by omega) (by first | omega | (dsimp only;omega) | (simp;omega)) (by simp only [go_sem,Int.natCast_add,n1,TrC_u,true_or,Nat.mul_add] <;> (try and_intros) <;> (try omega)))
    ·
      have h:¬ i<8:=by first | (simp [true_and] at h;omega) | (simp [true_and] at h;exact h) | omega | simpa using h
      obtain rfl:i=8:=by omega
      refine up 2 ?_;refine rE [.fr (.by_ (digB b))] [] [.tmp 2] ?_;simp only [go_sem,sbT,hdg,hl];all_goals exact agA
end
section
attribute [local irreducible] digB
def sgDv:Sg:=fun f args ls =>
  match f,args,ls with
  | 77,[.li 1 [.by_ a,.by_ b]],[]=>some (.fr (.by_ (a++b)),[],a.length+b.length≤140737488355328)
  | 77,[.li 1 [.by_ a,.by_ b,.by_ c]],[]=>some (.fr (.by_ (a++b++c)),[],a.length+b.length+c.length≤140737488355328)
  | 48,[.by_ a],[]=>some (.fr (.by_ (digB a)),[],a.length≤100000000)
  | _,_,_=>none
theorem sgDv_ok:SgOK Tryz.prog sgDv:=by
  intro f args ls r ls' vc h hvc;unfold sgDv at h;split at h <;> cases h
  · rename_i a b;have:=concat_s [a,b] (by simp [sumL];omega) (by simp);refine ⟨(fnOK Tryz.func77 (by decide) rfl),?_⟩;simpa [flatL] using this
  · rename_i a b c;have:=concat_s [a,b,c] (by simp [sumL];omega) (by simp);refine ⟨(fnOK Tryz.func77 (by decide) rfl),?_⟩;simpa [flatL] using this
  · exact ⟨(fnOK Tryz.func48 (by decide) rfl),sum_s _ hvc⟩
theorem with_s (b m:List UInt8) (h:b.length+m.length≤100000000):FnS Tryz.prog 181 [.by_ b,.by_ m] [] (.fr (.by_ (digB (b++m)))) []:=by
  have hs:=sgDv_ok;have hd:=digB_len (b++m);refine fo Tryz.func181 10 fun X hX=>?_;refine up 1 ?_;have hl:b.length+m.length≤140737488355328:=by omega
  have hl2:(b++m).length≤100000000:=by rw [List.length_append];exact h
  have ht:List.take (b.length+m.length) (b++m)=b++m:=List.take_of_length_le (by rw [List.length_append];exact Nat.le_refl _);refine rK hs fun K hK=>?_;simp only [go_sem,sgDv,hl,ht,List.length_append,h]
  refine eK ?_;refine rE [.fr (.by_ (digB (b++m)))] [] [.tmp 4] ?_;simp only [go_sem,sbT,hd];all_goals exact agA
theorem oct4 {n:Int} (h:0≤n∧n≤65535):octE n 4=0∧(octL n 4).length=4:=by
  have e:octE n 4=0:=by
    have p4:((p256 (Int.toNat 4):Nat):Int)=4294967296:=rfl;unfold octE;rw [if_neg (by omega),p4,if_neg (by omega)]
  refine ⟨e,?_⟩;unfold octL;rw [if_pos e];exact length_beS _ _
def keyB (secret:List UInt8) (use:Int):List UInt8:=(digB (secret++octL use 4)).take 16
theorem keyB_len (secret:List UInt8) (use:Int):(keyB secret use).length=16:=by
  unfold keyB;rw [List.length_take,digB_len];rfl
def sgDk:Sg:=fun f args ls =>
  match f,args,ls with
  | 181,[.by_ a,.by_ b],[]=>some (.fr (.by_ (digB (a++b))),[],a.length+b.length≤100000000)
  | 36,[.lit (.int .i64 n),.lit (.int .i64 k)],[]=>some (.tup [.fr (.by_ (octL n k)),.lit (.int .i64 (octE n k))],[],(0≤n∧n≤65535)∧k=4)
  | _,_,_=>none
theorem sgDk_ok:SgOK Tryz.prog sgDk:=by
  intro f args ls r ls' vc h hvc;unfold sgDk at h;split at h <;> cases h
  · exact ⟨(fnOK Tryz.func181 (by decide) rfl),with_s _ _ hvc⟩
  · obtain ⟨h,rfl⟩:=hvc;exact ⟨(fnOK Tryz.func36 (by decide) rfl),octets_s _ _ (by omega) (by omega)⟩
theorem key_s (secret:List UInt8) (use:Int) (h:secret.length≤10000000) (hu:0≤use∧use≤65535):FnS Tryz.prog 138 [.by_ secret,.lit (.int .i64 use)] [] (.tup [.by_ (keyB secret use),.lit (.int .i64 0)]) []:=by
  have hs:=sgDk_ok;obtain ⟨o1,o2⟩:=oct4 hu;have hd:=digB_len (secret++octL use 4);have hk:keyB secret use=(digB (secret++octL use 4)).take 16:=rfl;have ht:List.take 32 (digB (secret++octL use 4))=digB (secret++octL use 4):=List.take_of_length_le (by omega);have h3:secret.length+4≤100000000:=by omega
  have ho:List.take 4 (octL use 4)=octL use 4:=List.take_of_length_le (by omega);refine fo Tryz.func138 23 fun X hX=>?_;refine up 3 ?_;refine WA.cond rfl (fun h=>?_) (fun h=>?_)
  · exfalso;simp at h;omega
  refine up 1 ?_
  refine rK hs fun K hK=>?_;simp only [go_sem,sgDk,o1,o2,hu]
  refine eK ?_;refine rK hs fun K hK=>?_;simp only [go_sem,sgDk,o1,o2,hd,ht,ho,h3,byL]
  refine eK ?_;refine rE [.by_ (keyB secret use),.lit (.int .i64 0)] [] [.tmp 4,.tmp 5] ?_;simp only [go_sem,sbT,hk];all_goals exact agA
def drwB (seed:List UInt8):List UInt8:=digB (seed++1::octL 0 4)
def nxtB (seed:List UInt8):List UInt8:=digB (seed++[0])
theorem draw_s (seed:List UInt8) (n:Nat) (h:seed.length≤10000000) (hn:1≤n∧n≤32):FnS Tryz.prog 224 [.by_ seed,.lit (.int .i64 n)] [] (.tup [.by_ ((drwB seed).take n),.fr (.by_ (nxtB seed)),.lit (.int .i64 0)]) []:=by
  have hs:=sgDk_ok;obtain ⟨o1,o2⟩:=oct4 (n:=0) (by omega);have hd:=digB_len (seed++1::octL 0 4);have hd2:=digB_len (seed++[0]);have hk:drwB seed=digB (seed++1::octL 0 4):=rfl;have hk2:nxtB seed=digB (seed++[0]):=rfl;have ht:List.take 32 (digB (seed++1::octL 0 4))=digB (seed++1::octL 0 4):=List.take_of_length_le (by omega);have ho:List.take 4 (octL 0 4)=octL 0 4:=List.take_of_length_le (by omega);have hl5:(1::octL 0 4).length=5:=by rw [List.length_cons,o2]
  have ht5:List.take 5 (1::octL 0 4)=1::octL 0 4:=List.take_of_length_le (by omega);have h5:seed.length+5≤100000000:=by omega
  have h1:seed.length+1≤100000000:=by omega
  refine fo Tryz.func224 41 fun X hX=>?_;refine up 3 ?_;refine WA.cond rfl (fun h=>?_) (fun h=>?_)
  · exfalso;simp at h;omega
  refine up 4 ?_;refine WA.own0 4 (.by_ []) rfl rfl ?_;refine WA.loopW hX (fun k=>if k=3000 then 2080 else k) ((fun (i:Nat)=>⟨[(0,.by_ seed),(1,.lit (.int .i64 n)),(4,.sl 3000 1 0 (32*i)),(7,.lit (.int .i64 (i:Nat)))],[(3000,⟨.by_ (if i=0 then [] else drwB seed),0,false⟩)],4000,41⟩:_→St)) (fun i=>1-i) (fun i=>i≤1) (i0:=0) (Nat.zero_le _) (by simp only [go_sem,Int.natCast_add,Int.natCast_zero,if_true,Nat.mul_zero] <;> (try and_intros) <;> (try omega)) fun i hi=>?_
  refine up 1 ?_;rcases (show i=0∨i=1 by omega) with rfl | rfl
  ·
    simp only [if_true];refine rK hs fun K hK=>?_;simp only [go_sem,Nat.mul_zero]
    refine eK ?_;refine WA.cond rfl (fun h=>?_) (fun h=>?_)
    ·
      refine up 3 ?_;refine rK hs fun K hK=>?_;simp only [go_sem,sgDk,o1,o2,Int.natCast_zero]
      refine eK ?_;refine WA.regionE ty_ok hs fun K hK=>?_;simp only [go_sem,sgDk,o1,o2,ho,ht5,hl5,hd,ht,h5]
      (repeat refine sdA ?_);simp only [← hk];have e1:¬ ((0:Nat)+1=0):=by omega
      with_reducible refine hK _ (WN.mk ?_)
      clear hK K;with_reducible repeat first | refine WN.t ?_ | refine WN.b ?_
      refine WA.regionE ty_ok hs fun K hK=>?_;simp only [go_sem,true_and]
      (repeat refine sdA ?_);refine hK _ (roundE hX (fun k=>if k=3000 then 4136 else k) (j:=0+1) (by omega) (by first | omega | (dsimp only;omega) | (simp;omega)) (by simp only [go_sem,Int.natCast_add,if_neg e1,Int.natCast_zero,Int.natCast_one] <;> (try and_intros) <;> (try omega)))
    ·
      exfalso;simp at h;omega
  ·
    have e1:¬ ((1:Nat)=0):=by omega
    simp only [if_neg e1];have hdr:(drwB seed).length=32:=by rw [hk,hd]
    have ht2:List.take 32 (drwB seed)=drwB seed:=List.take_of_length_le (by omega);have q1:((32*1:Nat):Int)=32:=rfl;have q2:(32*1:Nat)=32:=rfl;simp only [q2];refine up 1 ?_;refine WA.cond rfl (fun h=>?_) (fun h=>?_)
    · exfalso;simp at h;omega
    refine up 1 ?_
    have n1:(0:Int)≤(n:Int):=by omega
    have n2:(n:Int)≤32:=by omega
    have hnl:(nxtB seed).length=32:=by rw [hk2,hd2]
    refine WA.drawnH mixed_ ty_ok hs (tbl:=[[],[],[],[0,1,2],[],[],[4,5],[0,1,2,3,4,5,6],[0,1,2,3,4,5,6,7],[0,1,2,3,4,5,6,7,8]]) (nb:=[3,6]) (hk:=[[4072],[4072],[4072],[4072],[3000],[3000],[3000],[],[],[]]) (by kernel_rfl) fun K hK=>?_;simp only [go_sem,sgDk,h1,hdr,ht2,n1,n2,byL,← hk2,Int.toNat_natCast]
    refine eK ?_;simp only [hnl];refine rE [.by_ ((drwB seed).take n),.fr (.by_ (nxtB seed)),.lit (.int .i64 0)] [] [.tmp 4,.tmp 5,.tmp 6] ?_;simp only [go_sem,sbT,hnl];all_goals exact agA
theorem drwB_len (seed:List UInt8):(drwB seed).length=32:=digB_len _
theorem nxtB_len (seed:List UInt8):(nxtB seed).length=32:=digB_len _
end
section
attribute [local irreducible] Tab encR expK xorB enc1 dec1 cphA
def sgMd (key:List UInt8):Sg:=fun f args ls =>
  match f,args,ls with
  | 46,[.by_ bs],[]=>some (.fr (.by_ bs),[],bs.length≤140737488355328)
  | 91,[.by_ bs,.lit (.int .i64 n)],[]=>some (.clo 133 [.ep (.by_ bs) 0,.ep (.lit (.int .i64 n)) 0],[],0<n∧n≤1000)
  | 110,[.by_ k,.by_ iv,.by_ d],[]=>some (.lit (.int .i64 0),[],k.length=16∧iv.length=16∧d.length % 16=0)
  | 113,[.by_ a,.by_ b],[]=>some (.fr (.by_ (xorB a b)),[],a.length≤b.length∧a.length≤1000000000)
  | 111,[.by_ k],[]=>some (.ep (cphA k) 0,[],k.length=16)
  | 112,[.ep x 0,.by_ b],[]=>some (.by_ (enc1 key b),[],x=cphA key∧key.length=16∧b.length=16)
  | 140,[.ep x 0,.by_ b],[]=>some (.by_ (dec1 key b),[],x=cphA key∧key.length=16∧b.length=16)
  | _,_,_=>none
theorem sgMd_ok (key:List UInt8):SgOK Tryz.prog (sgMd key):=by
  intro f args ls r ls' vc h hvc;unfold sgMd at h;split at h <;> cases h
  · exact ⟨(fnOK Tryz.func46 (by decide) rfl),sclone_s _ hvc⟩
  · rename_i bs n;obtain ⟨h1,h2⟩:=hvc;obtain ⟨k,rfl⟩:∃ k:Nat,n=k:=⟨n.toNat,by omega⟩;exact ⟨(fnOK Tryz.func91 (by decide) rfl),chunk_s _ k (by omega) (by omega)⟩
  · exact ⟨(fnOK Tryz.func110 (by decide) rfl),arg_s _ _ _ hvc.1 hvc.2.1 hvc.2.2⟩
  · exact ⟨(fnOK Tryz.func113 (by decide) rfl),combineM_s _ _ hvc.1 hvc.2⟩
  · exact ⟨(fnOK Tryz.func111 (by decide) rfl),ready_s _ hvc⟩
  · obtain ⟨rfl,h1,h2⟩:=hvc;exact ⟨(fnOK Tryz.func112 (by decide) rfl),enc1_s _ _ h1 h2⟩
  · obtain ⟨rfl,h1,h2⟩:=hvc;exact ⟨(fnOK Tryz.func140 (by decide) rfl),dec1_s _ _ h1 h2⟩
def slF (key:List UInt8) (s:List UInt8 × List UInt8) (x:List UInt8):List UInt8 × List UInt8:=(enc1 key (xorB x s.1),s.2++enc1 key (xorB x s.1))
def slR (key iv:List UInt8) (l:List (List UInt8)):List UInt8 × List UInt8:=l.foldl (slF key) (iv,[])
theorem slR_succ (key iv:List UInt8) (l:List (List UInt8)) (x:List UInt8):slR key iv (l++[x])=slF key (slR key iv l) x:=by
  unfold slR;rw [List.foldl_append];rfl
theorem slR_lens (key iv:List UInt8) (hiv:iv.length=16) (l:List (List UInt8)):(slR key iv l).1.length=16∧(slR key iv l).2.length=16*l.length:=by
  suffices h:∀ (l:List (List UInt8)) (s:List UInt8 × List UInt8) (n:Nat),s.1.length=16→s.2.length=16*n→(l.foldl (slF key) s).1.length=16∧(l.foldl (slF key) s).2.length=16*(n+l.length) by
    have:=h l (iv,[]) 0 hiv rfl;rw [Nat.zero_add] at this;exact this
  intro l;induction l with
  | nil=>exact fun s n h1 h2=>⟨h1,h2⟩
  | cons x r ih =>
    intro s n h1 h2;have:=ih (slF key s x) (n+1) (enc1_len _ _) (by show (s.2++enc1 key (xorB x s.1)).length=_;rw [List.length_append,enc1_len,h2];omega);rw [List.length_cons,show n+(r.length+1)=n+1+r.length by omega];exact this
def sealB (key iv d:List UInt8):List UInt8:=(slR key iv (pieces 16 d (d.length / 16))).2
def sealH (key iv:List UInt8) (pre:List (List UInt8)):List (Nat × Blk) :=
  [(0,⟨.li 1 [.by_ (slR key iv pre).1],0,false⟩),(1,⟨.li 1 [.ep (cphA key) 0],0,false⟩),(2,⟨.li 1 [.sl 3000 1 0 (16*pre.length)],0,false⟩),(3000,⟨.by_ (slR key iv pre).2,0,false⟩)]
def sealT (d:List UInt8):List (Nat × AV):=[(4,.ptr 0 0 0),(9,.ptr 1 0 0),(10,.ptr 2 0 0),(22,.clo 133 [.ep (.by_ d) 0,.ep (.lit (.int .i64 16)) 0])]
theorem seal_s (key iv d:List UInt8) (h1:key.length=16) (h2:iv.length=16) (h3:d.length % 16=0) (h4:d.length≤1000000000):FnS Tryz.prog 64 [.by_ key,.by_ iv,.by_ d] [] (.tup [.fr (.by_ (sealB key iv d)),.lit (.int .i64 0)]) []:=by
  have hs:=sgMd_ok key;have hT:=Tr_cph key 0;refine FnS.ofX Tryz.func64 rfl (N:=33) rfl (by simp) (by simp) fun X hX hE=>?_;simp only [tmArgs,lentH,Nat.reduceAdd];refine up 2 ?_;refine rK hs fun K hK=>?_;simp only [go_sem,sgMd,h1,h2,h3]
  refine eK ?_;refine up 1 ?_;refine WA.cond rfl (fun h=>absurd h (by simp)) (fun h=>?_);refine up 1 ?_
  refine rK hs fun K hK=>?_;simp only [go_sem,sgMd,h1,hT]
  refine eK ?_;refine up 2 ?_;have hC:=eq_true (Tr_chk d (.lit (.int .i64 16)) (Tr.lit _) rfl 133);refine rK hs fun K hK=>?_;simp only [go_sem,sgMd,hT,hC]
  refine eK ?_;refine ownC 2112 1 0 (.lit (.slice none 0 0)) (.by_ []) rfl rfl rfl (x':=.sl 2136 1 0 0) rfl ?_;have hk:d.length=d.length / 16*16:=by omega
  refine WA.chunk hX hE (n:=16) (k:=d.length / 16) (bs:=d) (sz:=33) 3 (fun k=>if k=0 then 2000 else if k=1 then 2096 else if k=2 then 2112 else if k=3000 then 2136 else k) (sealT d) (sealH key iv) 4000 (by decide) hk (by omega) rfl rfl ⟨rfl,rfl,rfl⟩ (by decide) ?wk ?tm ?bx ?ln ?kl ?body ?rest
  case wk =>
    have e1:(slR key iv []).1=iv:=rfl;have e2:(slR key iv []).2=[]:=rfl;simp only [sealH,sealT,e1,e2,go_sem,hC,List.length_nil,Nat.mul_zero];exact .inr (of_eq_true hT)
  case tm=>exact ⟨.inl ⟨0,0,0,rfl,by decide⟩,.inl ⟨1,0,0,rfl,by decide⟩,.inl ⟨2,0,0,rfl,by decide⟩,.inr (of_eq_true hC),trivial⟩
  case bx =>
    intro q hq;rcases (show q=0∨q=1∨q=2 by omega) with rfl | rfl | rfl
    · exact ⟨_,rfl,Nat.zero_le _,Nat.zero_lt_one⟩
    · exact ⟨_,rfl,Nat.zero_le _,Nat.zero_lt_one⟩
    · exact ⟨_,rfl,Nat.zero_le _,Nat.zero_lt_one⟩
  case ln=>exact fun pre=>lk_ln rfl
  case kl=>exact fun pre=>lk_hi rfl
  case body =>
    intro l X' hX pre x hx hlen hpre;have e0:=slR_succ key iv pre x;obtain ⟨l1,l2⟩:=slR_lens key iv h2 pre;have hlx:x.length≤(slR key iv pre).1.length:=by omega
    have hlx2:x.length≤1000000000:=by omega
    have lx:(xorB x (slR key iv pre).1).length=16:=by rw [xorB_len,hx]
    refine WR.block ?_;simp only [sealH,sealT];have htk:List.take 16 (xorB x (slR key iv pre).1)=xorB x (slR key iv pre).1:=List.take_of_length_le (by omega);have hbd:16*pre.length+16≤1000000000:=by omega
    have le:=enc1_len key (xorB x (slR key iv pre).1);refine WR.drawnK mixed_ ty_ok hs (tbl:=[[],[],[],[1,2],[0,1,2,3],[0,1,2,3,4]]) (nb:=[0,2,3,4,5]) (hk:=[[],[],[],[],[],[]]) RQ.outB rfl (by kernel_rfl) fun K hK=>?_;simp only [go_sem,sgMd,hT,hlx,hlx2,lx,h1,htk]
    refine eK ?_;refine WR.regionE ty_ok hs RQ.outB rfl fun K hK=>?_;simp only [go_sem,le,l2]
    (repeat refine sdA ?_);refine hK _ (RQ.b (RQ.mk hX (fun k=>if k=3000 then 4064 else k) 4000 (by simp only [go_sem,Int.natCast_add,e0,slF,sealH,List.length_append,List.length_singleton,hT,or_true] <;> (try and_intros) <;> (try omega))))
  case rest =>
    intro X' hX;have l2:=(slR_lens key iv h2 (pieces 16 d (d.length / 16))).2;simp only [sealH,sealT];refine up 1 ?_;refine rE [.fr (.by_ (sealB key iv d)),.lit (.int .i64 0)] [] [.tmp 6,.tmp 7] ?_;simp only [go_sem,sbT,sealB,l2];all_goals exact agA
end
end Go.Proofs.YtjjkfpbkmhfckaaGreatDoor
