/-
  What is proved: the law 'TopPlain' holds of the given program: for every input the call returns true, and each argument reads afterwards as it read before; where the listed package variable reads as the program's text lays it when the call begins (the card ties that to the text).
-/
import Derived.Test.YtjjkfpbkmhfckaaGreatDoorK27
import Derived.Test.YtjjkfpbkmhfckaaGreatDoorK28
import Derived.Test.YtjjkfpbkmhfckaaGreatDoorK29
import Derived.Test.YtjjkfpbkmhfckaaGreatDoorK25
import Derived.Test.YtjjkfpbkmhfckaaGreatDoorK24
import Derived.Test.YtjjkfpbkmhfckaaGreatDoorK30
import Derived.Test.YtjjkfpbkmhfckaaGreatDoorK06
import Derived.Test.YtjjkfpbkmhfckaaGreatDoorK16
set_option linter.unusedVariables false
set_option linter.unusedSimpArgs false
set_option maxHeartbeats 1000000
set_option maxRecDepth 10000
namespace Go.Proofs.YtjjkfpbkmhfckaaGreatDoor
open Go.RowKit Go.TravelBase Go.TravelAbs
section
attribute [local irreducible] digB keyB sealB chkB openB codeB enc1 padB drwB nxtB seedB msB ctrN seX recB
theorem wr_val {ins p1 p2:Int} {w:List UInt8} (h1:0≤ins∧ins≤255) (h2:0≤p1∧p1≤255) (h3:0≤p2∧p2≤255) (hw:w.length≤1000):valC ⟨12,ins,p1,p2,w,65536⟩=true:=by
  unfold valC ValC;simp;omega
theorem wrD_len (e c:List UInt8) (n ins p1 p2:Int) (d:List UInt8) (hd:d.length≤70):(wrD e c n ins p1 p2 d).length≤1000:=by
  have:=obW_len [cgO e (n+1) d,(142,codU c (n+1) (hdB 12 ins p1 p2) [cgO e (n+1) d])] fun x hx=>by
    simp only [List.mem_cons,List.not_mem_nil,or_false] at hx;rcases hx with rfl | rfl
    · exact cgO_len e (n+1) d hd
    · show (chkB _ _).length≤100;rw [chkB_len];omega
  have h2:(wrD e c n ins p1 p2 d).length≤102*2:=this;omega
theorem wrE_len (c:List UInt8) (n ins p1 p2:Int):(wrE c n ins p1 p2).length≤1000:=by
  have:=obW_len [exO,(142,codU c (n+1) (hdB 12 ins p1 p2) [exO])] fun x hx=>by
    simp only [List.mem_cons,List.not_mem_nil,or_false] at hx;rcases hx with rfl | rfl
    · exact (ok_ex.2 exO (by simp)).2
    · show (chkB _ _).length≤100;rw [chkB_len];omega
  have h2:(wrE c n ins p1 p2).length≤102*2:=this;omega
theorem rpE_len (c:List UInt8) (n st:Int) (h:0≤st∧st≤65535):(rpE c n st).length≤4096:=by
  have:=obW_len [stO st,(142,codU c (n+1) [] [stO st])] fun x hx=>by
    simp only [List.mem_cons,List.not_mem_nil,or_false] at hx;rcases hx with rfl | rfl
    · exact (stO_ok st h).2
    · show (chkB _ _).length≤100;rw [chkB_len];omega
  have h2:(rpE c n st).length≤102*2:=this;omega
theorem rpD_len (e c:List UInt8) (n:Int) (d:List UInt8) (st:Int) (hd:d.length≤70) (h:0≤st∧st≤65535):(rpD e c n d st).length≤4096:=by
  have:=obW_len [cgO e (n+1) d,stO st,(142,codU c (n+1) [] [cgO e (n+1) d,stO st])] fun x hx=>by
    simp only [List.mem_cons,List.not_mem_nil,or_false] at hx;rcases hx with rfl | rfl | rfl
    · exact cgO_len e (n+1) d hd
    · exact (stO_ok st h).2
    · show (chkB _ _).length≤100;rw [chkB_len];omega
  have h2:(rpD e c n d st).length≤102*3:=this;omega
def StK (pr ur:Int) (pin:List UInt8) (s:Ch.Sto) (x:Chp):Prop:=ChpK x∧KeptK x pr ur pin s∧x.on=true
theorem KeptK.mem {x y:Chp} {pr ur:Int} {pin:List UInt8} {s:Ch.Sto} (h:KeptK x pr ur pin s) (h0:y.m0=x.m0) (h1:y.m1=x.m1):KeptK y pr ur pin s:=⟨h.r,by rw [h0,h1];exact h.l,by rw [h0,h1];exact h.e⟩
theorem pow_k {p:Per} {s:Ch.Sto} (h:NewK p s):StK p.pr p.ur p.pin s (powX (newX p s)):=by
  obtain ⟨h1,h2,h3⟩:=new_mem h;refine ⟨⟨h1.p,h1.m0,h1.m1,h1.seed,Nat.zero_le _,Nat.zero_le _,Nat.zero_le _⟩,h2.mem rfl rfl,rfl⟩
def chX (x:Chp) (pr ur:Int) (pin:List UInt8) (s:Ch.Sto):Chp:=(challenged (nonced (mc0 x pr ur pin s))).x
theorem chal_a (x:Chp) {pr ur:Int} {pin:List UInt8} {s:Ch.Sto} (h:StK pr ur pin s x) (hsec:x.sec=false) :
    FnS Tryz.prog 13 [chpA x,cmX 0 132 0 0 [] 8,.lit (.int .i64 (-1))] [] (.tup [chpA (chX x pr ur pin s),rsX ((drwB x.seed).take 8) 36864,.lit (.bool true)]) []∧StK pr ur pin s (chX x pr ur pin s):=by
  obtain ⟨hk,hx,hon⟩:=h;have hm:=mc0_ok pr ur pin s hk;have hsd:=hk.seed;have h3:MOK (nonced (mc0 x pr ur pin s)):=hm;have h2:MOK (challenged (nonced (mc0 x pr ur pin s))):=hm;have hc:=challenge_c (nonced (mc0 x pr ur pin s)) 0 132 h3 (by show x.seed.length≤10000000;omega);have he:=execute_c (nonced (mc0 x pr ur pin s)) (challenged (nonced (mc0 x pr ur pin s))) 0 132 0 0 8 [] _ 36864 _ 2 h3 h2 (fnOK Tryz.func148 (by decide) rfl) (fun V=>rfl) hc;have ha:=T2.answer_pln (mc0 x pr ur pin s) _ 132 0 0 8 [] _ _ hm h2 (by decide) hsec (chain_c (mc0 x pr ur pin s) _ 132 0 0 8 [] _ _ hm h2 he);refine ⟨Answer_c x pr ur pin s hk hx hon 0 132 0 0 8 [] _ h2 _ _ ha,⟨hk.p,hk.m0,hk.m1,?_,hk.e,hk.c,?_⟩,hx.mem rfl rfl,hon⟩
  · show (nxtB x.seed).length≤1000;rw [nxtB_len];omega
  · show ((drwB x.seed).take 8).length≤1000;rw [List.length_take,drwB_len];omega
def exX (x:Chp) (pr ur:Int) (pin:List UInt8) (s:Ch.Sto) (own half:List UInt8):Chp :=
  (begun (forgot (drawn (nonced (mc0 x pr ur pin s)))) ⟨1,true,false,false,0⟩ (keyB (seX ((drwB x.seed).take 16) half) 1) (keyB (seX ((drwB x.seed).take 16) half) 2) (ctrN x.nonce own)).x
theorem extn_a (x:Chp) {pr ur:Int} {pin:List UInt8} {s:Ch.Sto} (own half:List UInt8) (h:StK pr ur pin s x) (hsec:x.sec=false) (hbas:x.p.basic=true) (hz:(x.p.zone.toList == (ByteArray.mk #[]).toList)=false) (hzl:x.p.zone.data.toList.length≤1000) (hn:x.nonce.length=8) (ho:own.length=8) (hh:half.length=16) :
    FnS Tryz.prog 13 [chpA x,cmX 0 130 0 0 (msB (seedB x.p.zone.data.toList) own x.nonce half) 40,.lit (.int .i64 (-1))] [] (.tup [chpA (exX x pr ur pin s own half),rsX (msB (seedB x.p.zone.data.toList) x.nonce own ((drwB x.seed).take 16)) 36864,.lit (.bool true)]) []∧StK pr ur pin s (exX x pr ur pin s own half):=by
  obtain ⟨hk,hx,hon⟩:=h;have hm:=mc0_ok pr ur pin s hk;have hsd:=hk.seed;have h3:MOK (nonced (mc0 x pr ur pin s)):=hm;have h2:MOK (begun (forgot (drawn (nonced (mc0 x pr ur pin s)))) ⟨1,true,false,false,0⟩ (keyB (seX ((drwB x.seed).take 16) half) 1) (keyB (seX ((drwB x.seed).take 16) half) 2) (ctrN x.nonce own)):=hm;have hc:=external_c (nonced (mc0 x pr ur pin s)) 0 130 own half h3 (by show x.seed.length≤10000000;omega) ho hh hsec hbas hz hzl hn;have he:=execute_c (nonced (mc0 x pr ur pin s)) _ 0 130 0 0 40 _ _ 36864 _ 3 h3 h2 (fnOK Tryz.func149 (by decide) rfl) (fun V=>rfl) hc;have hv:valC ⟨0,130,0,0,msB (seedB x.p.zone.data.toList) own x.nonce half,40⟩=true:=by
    have hl:(msB (seedB x.p.zone.data.toList) own x.nonce half).length=40:=msB_len ho hn hh;unfold valC ValC;simp [hl]
  have ha:=T2.answer_pln (mc0 x pr ur pin s) _ 130 0 0 40 _ _ _ hm h2 hv hsec (chain_c (mc0 x pr ur pin s) _ 130 0 0 40 _ _ _ hm h2 he);refine ⟨Answer_c x pr ur pin s hk hx hon 0 130 0 0 40 _ _ h2 _ _ ha,⟨hk.p,hk.m0,hk.m1,?_,?_,?_,Nat.zero_le _⟩,hx.mem rfl rfl,hon⟩
  · show (nxtB x.seed).length≤1000;rw [nxtB_len];omega
  · show (keyB _ _).length≤1000;rw [keyB_len];omega
  · show (keyB _ _).length≤1000;rw [keyB_len];omega
end
section
attribute [local irreducible] digB keyB sealB chkB openB codeB enc1 padB drwB nxtB seedB msB ctrN seX recB wrD wrE rpD rpE
structure SesK (pr ur:Int) (pin:List UInt8) (s:Ch.Sto) (x:Chp):Prop where
  k:StK pr ur pin s x
  sec:x.sec=true
  e:x.e.length=16
  c:x.c.length=16
  n:0≤x.n∧x.n≤4294967400
def lnS (x:Chp):Ln:=⟨x,x.e,x.c,x.n,true⟩
def slX (x:Chp) (pr ur:Int) (pin:List UInt8) (s:Ch.Sto) (d:List UInt8):Chp:=(sessd (namS (nonced (sessd (mc0 x pr ur pin s) x.e x.c (x.n+1))) d) x.e x.c (x.n+1+1)).x
theorem sel_a (x:Chp) {pr ur:Int} {pin:List UInt8} {s:Ch.Sto} (d:List UInt8) (h:SesK pr ur pin s x) (hd:0<d.length) (hd2:d.length≤70) (hE:Fil.namE d x.p.root x.p.apps=0) :
    FnS Tryz.prog 13 [chpA x,cmX 12 164 4 12 (wrD x.e x.c x.n 164 4 12 d) 65536,.lit (.int .i64 (-1))] [] (.tup [chpA (slX x pr ur pin s d),rsX (rpE x.c (x.n+1) 36864) 36864,.lit (.bool true)]) []∧StK pr ur pin s (slX x pr ur pin s d):=by
  obtain ⟨⟨hk,hx,hon⟩,hsec,he,hc,hn⟩:=h;have hm:=mc0_ok pr ur pin s hk;have h1:MOK (nonced (sessd (mc0 x pr ur pin s) x.e x.c (x.n+1))):=hm;have h0:MOK (sessd (mc0 x pr ur pin s) x.e x.c (x.n+1)):=hm;have h2:MOK (namS (nonced (sessd (mc0 x pr ur pin s) x.e x.c (x.n+1))) d):=hm;have h3:MOK (sessd (namS (nonced (sessd (mc0 x pr ur pin s) x.e x.c (x.n+1))) d) x.e x.c (x.n+1+1)):=hm;have a1:=selects_c (nonced (sessd (mc0 x pr ur pin s) x.e x.c (x.n+1))) 0 164 (-1) d h1 hE;have a2:=execute_c _ _ 0 164 4 12 (-1) d _ 36864 _ 0 h1 h2 (fnOK Tryz.func146 (by decide) rfl) (fun V=>rfl) a1;have a3:=chain_c (sessd (mc0 x pr ur pin s) x.e x.c (x.n+1)) _ 164 4 12 (-1) d _ _ h0 h2 a2;have a4:=secure_c (namS (nonced (sessd (mc0 x pr ur pin s) x.e x.c (x.n+1))) d) x.e x.c (x.n+1) [] 36864 _ _ _ h2 rfl (replyE_s x.e x.c (x.n+1) 36864 he hc ⟨by omega,by omega⟩ (by decide));have hv:=wr_val (ins:=164) (p1:=4) (p2:=12) (by decide) (by decide) (by decide) (wrD_len x.e x.c x.n 164 4 12 d hd2);have a5:=T2.answer_sec (mc0 x pr ur pin s) _ _ 164 4 12 4 12 65536 (-1) _ d (x.n+1) _ _ _ _ hm h2 h3 hv hsec (unwrapD_s x.e x.c x.n 164 4 12 d he hc ⟨by omega,by omega⟩ hv hd hd2) a3 a4;exact ⟨Answer_c x pr ur pin s hk hx hon 12 164 4 12 65536 _ _ h3 _ _ a5,⟨hk.p,hk.m0,hk.m1,hk.seed,hk.e,hk.c,Nat.zero_le _⟩,hx.mem rfl rfl,hon⟩
theorem sel_k (x:Chp) {pr ur:Int} {pin:List UInt8} {s:Ch.Sto} (d:List UInt8) (h:SesK pr ur pin s x) (hn:x.n≤4294967390) (h2:StK pr ur pin s (slX x pr ur pin s d)):SesK pr ur pin s (slX x pr ur pin s d):=⟨h2,h.sec,h.e,h.c,by have:=h.n;exact ⟨by show 0≤x.n+1+1;omega,by show x.n+1+1≤4294967400;omega⟩⟩
theorem choose_d (x:Chp) {pr ur:Int} {pin:List UInt8} {s:Ch.Sto} (h:SesK pr ur pin s x) (hE:Fil.namE [160,0,0] x.p.root x.p.apps=0) :
    FnS Tryz.prog 11 [.ptr 0 0 0] [.li 64 [lnA (lnS x)]] (.lit (.bool true)) [.li 64 [lnA (lnS (slX x pr ur pin s [160,0,0]))]]:=by
  obtain ⟨a1,a2⟩:=sel_a x [160,0,0] h (by decide) (by decide) hE;have hn:=h.n;refine choose_t (lnS x) (lnS (slX x pr ur pin s [160,0,0])) h.k.1.p.ok a2.1.p.ok ?_;exact send_sec (lnS x) (slX x pr ur pin s [160,0,0]) 0 164 4 12 (-1) [160,0,0] 12 164 4 12 65536 _ (x.n+1) (x.n+1+1) _ _ [] 36864 h.k.1.p.ok a2.1.p.ok rfl
    (wrapD_s x.e x.c x.n 164 4 12 [160,0,0] h.e h.c ⟨by omega,by omega⟩ (by decide) (by decide) (by decide)) a1
    (openE_s x.e x.c (x.n+1) 36864 h.e h.c ⟨by omega,by omega⟩ (by decide) (rpE_len _ _ _ (by decide)))
def rdX (x:Chp) (pr ur:Int) (pin:List UInt8) (s:Ch.Sto):Chp:=(sessd (shS (nonced (sessd (mc0 x pr ur pin s) x.e x.c (x.n+1))) 1) x.e x.c (x.n+1+1)).x
theorem rd_a (x:Chp) {pr ur:Int} {pin:List UInt8} {s:Ch.Sto} (r:List UInt8) (h:SesK pr ur pin s x) (hE:Fil.fndE (Fil.shortF 1) x.p.root x.p.apps x.app x.file=0) (hS:Fil.selE x.p.root x.p.apps (Fil.fndA (Fil.shortF 1) x.p.root x.p.apps x.app x.file) (Fil.fndF (Fil.shortF 1) x.p.root x.p.apps x.app x.file)=0)
    (hA:Fil.alw (Fil.selF x.p.root x.p.apps (Fil.fndA (Fil.shortF 1) x.p.root x.p.apps x.app x.file) (Fil.fndF (Fil.shortF 1) x.p.root x.p.apps x.app x.file)).level (Fil.selF x.p.root x.p.apps (Fil.fndA (Fil.shortF 1) x.p.root x.p.apps x.app x.file) (Fil.fndF (Fil.shortF 1) x.p.root x.p.apps x.app x.file)).right ⟨x.st.pw,x.st.b1,x.st.chip,x.st.term,x.st.rights⟩=true)
    (hR:Fil.rdE x.p.root x.p.apps (Fil.fndA (Fil.shortF 1) x.p.root x.p.apps x.app x.file) (Fil.fndF (Fil.shortF 1) x.p.root x.p.apps x.app x.file) ⟨x.st.pw,x.st.b1,x.st.chip,x.st.term,x.st.rights⟩ 0 256=0)
    (hr:Fil.rdB x.p.root x.p.apps (Fil.fndA (Fil.shortF 1) x.p.root x.p.apps x.app x.file) (Fil.fndF (Fil.shortF 1) x.p.root x.p.apps x.app x.file) ⟨x.st.pw,x.st.b1,x.st.chip,x.st.term,x.st.rights⟩ 0 256=r) (hl0:0<r.length) (hl:r.length≤70) :
    FnS Tryz.prog 13 [chpA x,cmX 12 176 129 0 (wrE x.c x.n 176 129 0) 65536,.lit (.int .i64 (-1))] [] (.tup [chpA (rdX x pr ur pin s),rsX (rpD x.e x.c (x.n+1) r 25218) 25218,.lit (.bool true)]) []∧StK pr ur pin s (rdX x pr ur pin s):=by
  obtain ⟨⟨hk,hx,hon⟩,hsec,he,hc,hn⟩:=h;have hm:=mc0_ok pr ur pin s hk;have h1:MOK (nonced (sessd (mc0 x pr ur pin s) x.e x.c (x.n+1))):=hm;have h0:MOK (sessd (mc0 x pr ur pin s) x.e x.c (x.n+1)):=hm;have h2:MOK (shS (nonced (sessd (mc0 x pr ur pin s) x.e x.c (x.n+1))) 1):=hm;have h3:MOK (sessd (shS (nonced (sessd (mc0 x pr ur pin s) x.e x.c (x.n+1))) 1) x.e x.c (x.n+1+1)):=hm;have hD:shD (nonced (sessd (mc0 x pr ur pin s) x.e x.c (x.n+1))) 1 256=r:=hr;have a1:=read_c (nonced (sessd (mc0 x pr ur pin s) x.e x.c (x.n+1))) 0 176 h1 hE hS hA hR (by rw [hD];omega);rw [hD] at a1;have a2:=execute_c _ _ 0 176 129 0 256 [] _ 25218 _ 1 h1 h2 (fnOK Tryz.func147 (by decide) rfl) (fun V=>rfl) a1;have a3:=chain_c (sessd (mc0 x pr ur pin s) x.e x.c (x.n+1)) _ 176 129 0 256 [] _ _ h0 h2 a2;have a4:=secure_c (shS (nonced (sessd (mc0 x pr ur pin s) x.e x.c (x.n+1))) 1) x.e x.c (x.n+1) r 25218 _ _ _ h2 rfl (replyD_s x.e x.c (x.n+1) r 25218 he hc ⟨by omega,by omega⟩ (by decide) hl0 hl);have hv:=wr_val (ins:=176) (p1:=129) (p2:=0) (by decide) (by decide) (by decide) (wrE_len x.c x.n 176 129 0);have a5:=T2.answer_sec (mc0 x pr ur pin s) _ _ 176 129 0 129 0 65536 256 _ [] (x.n+1) _ _ _ _ hm h2 h3 hv hsec (unwrapE_s x.e x.c x.n 176 129 0 he hc ⟨by omega,by omega⟩ hv) a3 a4;exact ⟨Answer_c x pr ur pin s hk hx hon 12 176 129 0 65536 _ _ h3 _ _ a5,⟨hk.p,hk.m0,hk.m1,hk.seed,hk.e,hk.c,Nat.zero_le _⟩,hx.mem rfl rfl,hon⟩
def sesX (p:Per) (s:Ch.Sto) (own half:List UInt8):Chp:=exX (chX (powX (newX p s)) p.pr p.ur p.pin s) p.pr p.ur p.pin s own half
theorem enter_d (p:Per) (s:Ch.Sto) (own half:List UInt8) (h:NewK p s) (hb:p.basic=true) (hz:(p.zone.toList == (ByteArray.mk #[]).toList)=false) (hzl:p.zone.data.toList.length≤1000) (ho:own.length=8) (hh:half.length=16) :
    FnS Tryz.prog 9 [.ptr 0 0 0,.lit (.string p.zone),.by_ own,.by_ half] [.li 64 [lnA (ln0 p s)]] (.lit (.bool true)) [.li 64 [lnA (lnS (sesX p s own half))]]∧SesK p.pr p.ur p.pin s (sesX p s own half)∧(sesX p s own half).n≤4294967296:=by
  have h0:=pow_k h;obtain ⟨a1,a2⟩:=chal_a (powX (newX p s)) h0 rfl;have hn:(chX (powX (newX p s)) p.pr p.ur p.pin s).nonce.length=8:=by
    show ((drwB p.seed).take 8).length=8;rw [List.length_take,drwB_len];omega
  obtain ⟨b1,b2⟩:=extn_a (chX (powX (newX p s)) p.pr p.ur p.pin s) own half a2 rfl hb hz hzl hn ho hh;have hhc:((drwB (chX (powX (newX p s)) p.pr p.ur p.pin s).seed).take 16).length=16:=by
    rw [List.length_take,drwB_len];omega
  have hr:=ctrN_r (chX (powX (newX p s)) p.pr p.ur p.pin s).nonce own hn ho;refine ⟨?_,⟨b2,rfl,keyB_len _ _,keyB_len _ _,⟨hr.1,?_⟩⟩,hr.2⟩
  · refine enter_t (ln0 p s) ⟨chX (powX (newX p s)) p.pr p.ur p.pin s,[],[],0,false⟩ ⟨sesX p s own half,[],[],0,false⟩ p.zone own half (chX (powX (newX p s)) p.pr p.ur p.pin s).nonce _ (sesX p s own half).e (sesX p s own half).c (sesX p s own half).n (by omega) h0.1.p.ok a2.1.p.ok b2.1.p.ok ?_ ?_ ?_ (finish_s (hc:=(drwB (chX (powX (newX p s)) p.pr p.ur p.pin s).seed).take 16) (seedB_len _) hn ho hh hhc)
    · exact send_pln (ln0 p s) (chX (powX (newX p s)) p.pr p.ur p.pin s) 0 132 0 0 8 [] _ _ h0.1.p.ok a2.1.p.ok rfl a1
    · exact send_pln ⟨chX (powX (newX p s)) p.pr p.ur p.pin s,[],[],0,false⟩ (sesX p s own half) 0 130 0 0 40 _ _ _ a2.1.p.ok b2.1.p.ok rfl b1
    · exact ask_s (seedB_len _) hn ho hh
  · have h9:(sesX p s own half).n≤4294967296:=hr.2;omega
end
theorem exactly_s (L:AV) (b:Int) (a:Nat) (hd:DcOK L b) (h2:a≤1000000):FnS Tryz.prog 10 [.ptr 0 0 0,.lit (.int .i64 (a:Nat))] [.li 2 [.agg [L,.lit (.int .i64 b)]]] (.fr (.by_ (byD L a b))) [.li 2 [.agg [L,.lit (.int .i64 (byZ L a b))]]]:=by
  have hs:=sgD_ok;have hT:=hd.tr;refine fo Tryz.func10 19 fun X hX=>?_;refine up 2 ?_;refine WA.own0 5 (.by_ []) rfl rfl ?_;refine up 3 ?_;refine WA.loopW hX (fun k=>if k=3000 then 2016 else k) ((fun (i:List UInt8 × Nat × Int)=>⟨[(0,.ptr 0 0 0),(1,.lit (.int .i64 (a:Nat))),(5,.sl 3000 1 0 i.1.length),(6,.lit (.int .i64 (i.1.length:Nat)))],[(3000,⟨.by_ i.1,0,false⟩),(0,⟨.li 2 [.agg [L,.lit (.int .i64 i.2.2)]],0,true⟩)],4000,19⟩:_→St)) (fun i=>i.2.1) (fun i=>(i.1++byD L i.2.1 i.2.2=byD L a b∧byZ L i.2.1 i.2.2=byZ L a b)∧i.1.length+i.2.1=a∧DcOK L i.2.2) (i0:=([],a,b)) (⟨⟨rfl,rfl⟩,by simp,hd⟩) (by simp only [go_sem,Int.natCast_add,hT] <;> (try and_intros) <;> (try omega)) fun ⟨bs,n,z⟩ hi=>?_
  simp only at hi
  obtain ⟨⟨hi1,hi2⟩,hi,hd2⟩:=hi;refine up 2 ?_;refine WA.cond rfl (fun h=>?_) (fun h=>?_)
  ·
    refine up 1 ?_
    have h6:0<n:=by have:=of_decide_eq_true h;omega
    clear h;have hd3:=dc_nx hd2;have u1:byD L n z=byt (nxI L z 256)::byD L (n-1) (nxZ L z):=by
      obtain ⟨m,rfl⟩:∃ m,n=m+1:=⟨n-1,by omega⟩;rfl
    have u2:byZ L n z=byZ L (n-1) (nxZ L z):=by
      obtain ⟨m,rfl⟩:∃ m,n=m+1:=⟨n-1,by omega⟩;rfl
    refine up 2 ?_;refine WA.regionE ty_ok hs fun K hK=>?_;simp only [go_sem,sgD,hd2,hT]
    refine eN ?_
    refine WA.regionE ty_ok hs fun K hK=>?_;simp only [go_sem,true_and]
    (repeat refine sdA ?_);refine hK _ (roundE hX (fun k=>if k=3000 then 4064 else k) (j:=(bs++[byt (nxI L z 256)],n-1,nxZ L z)) (⟨⟨by rw [← hi1,u1];simp,by rw [← hi2,u2]⟩,by simp;omega,hd3⟩) (by first | omega | (dsimp only;omega) | (simp;omega)) (by simp only [go_sem,Int.natCast_add,hT,byt,List.length_append,List.length_cons,List.length_nil] <;> (try and_intros) <;> (try omega)))
  ·
    refine up 1 ?_
    have h6:n=0:=by have:=of_decide_eq_false h;omega
    subst h6;simp only [byD,byZ,List.append_nil] at hi1 hi2;rw [← hi1,← hi2];refine up 1 ?_;refine rE [.fr (.by_ bs)] [.li 2 [.agg [L,.lit (.int .i64 z)]]] [.tmp 4] ?_;simp only [go_sem,hT]
theorem roll_n:FnS Tryz.prog 6 [.lit (.slice none 0 0)] [] (.fr (.opt true (.li 2 [.agg [.li 1 [],.lit (.int .i64 0)]]))) [] :=
  FnS.wkArg (a:=[]) (b:=[]) (Wk.li 1 (by decide)) (roll_s [] (Tr_ia []))
theorem dc_nil:DcOK (.li 1 []) 0:=⟨[],rfl,fun _ h=>by simp at h,by decide,by decide,by decide⟩
section
def pA:Per:=mkP [] [] [] [] [] [] [] [] 0 0 true 0 0 0 0 []
def sA:Ch.Sto:=⟨[ptD 0 0],0⟩
theorem made_nil:Made []:=⟨by decide,fun i h=>by simp at h⟩
theorem mada_nil:Mada []:=⟨by decide,fun i h=>by simp at h⟩
theorem newA:NewK pA sA:=desk_new made_nil mada_nil (by decide) (by decide) (by decide) (by decide) (by decide) (by decide) (by decide) (by decide) (by decide) (by decide) (by decide) (by decide)
theorem makeA:FnS Tryz.prog 7 [.ptr 0 0 0] [.li 2 [.agg [.li 1 [],.lit (.int .i64 0)]]] (.agg (perL pA)) [.li 2 [.agg [.li 1 [],.lit (.int .i64 0)]]] :=
  make_d (.li 1 []) 0 0 0 0 0 0 0 0 0 0 0 0 0 0 0 0 dc_nil rfl rfl rfl rfl rfl rfl rfl rfl rfl rfl rfl rfl rfl rfl rfl
def xA:Chp:=sesX pA sA (List.replicate 8 0) (List.replicate 16 0)
def xB:Chp:=slX xA pA.pr pA.ur pA.pin sA [160,0,0]
def xC:Chp:=rdX xB pA.pr pA.ur pA.pin sA
attribute [local irreducible] digB keyB sealB chkB openB codeB enc1 padB drwB nxtB seedB msB ctrN seX recB wrD wrE rpD rpE
theorem valA:Fil.val pA.root pA.apps=0:=newA.fv
theorem namA_A:Fil.namE [160,0,0] pA.root pA.apps=0∧Fil.namA [160,0,0] pA.root pA.apps=0∧Fil.namF [160,0,0] pA.root pA.apps = -1:=desk_name (rt:=[]) (ap:=[]) (b0:=[]) (b1:=[]) (b2:=[]) (b3:=[]) (b4:=[]) (b5:=[]) valA
theorem enterA:FnS Tryz.prog 9 [.ptr 0 0 0,.lit (.string pA.zone),.by_ (List.replicate 8 0),.by_ (List.replicate 16 0)] [.li 64 [lnA (ln0 pA sA)]] (.lit (.bool true)) [.li 64 [lnA (lnS xA)]]∧SesK pA.pr pA.ur pA.pin sA xA∧xA.n≤4294967296 :=
  enter_d pA sA (List.replicate 8 0) (List.replicate 16 0) newA rfl (by decide +kernel) (by decide +kernel) rfl rfl
theorem chooseA:FnS Tryz.prog 11 [.ptr 0 0 0] [.li 64 [lnA (lnS xA)]] (.lit (.bool true)) [.li 64 [lnA (lnS xB)]]:=choose_d xA enterA.2.1 namA_A.1
theorem sesB:SesK pA.pr pA.ur pA.pin sA xB:=sel_k xA [160,0,0] enterA.2.1 (by have:=enterA.2.2;omega) (sel_a xA [160,0,0] enterA.2.1 (by decide) (by decide) namA_A.1).2
theorem readA:FnS Tryz.prog 15 [.ptr 0 0 0,.lit (.int .i64 1),.lit (.int .i64 256)] [.li 64 [lnA (lnS xB)]] (.tup [.by_ [1],.lit (.int .i64 25218)]) [.li 64 [lnA (lnS xC)]]:=by
  have ha:xB.app=0:=namA_A.2.1;have hf:xB.file = -1:=namA_A.2.2;have hB:=sesB;have hn:=hB.n;have e1:Fil.fndA (Fil.shortF 1) xB.p.root xB.p.apps xB.app xB.file=0:=by rw [ha,hf];show Fil.fndA (Fil.shortF 1) pA.root pA.apps 0 (-1)=0;decide +kernel
  have e2:Fil.fndF (Fil.shortF 1) xB.p.root xB.p.apps xB.app xB.file=0:=by rw [ha,hf];show Fil.fndF (Fil.shortF 1) pA.root pA.apps 0 (-1)=0;decide +kernel
  obtain ⟨a1,a2⟩:=rd_a xB [1] hB (by rw [ha,hf];show Fil.fndE (Fil.shortF 1) pA.root pA.apps 0 (-1)=0;decide +kernel) (by rw [e1,e2];show Fil.selE pA.root pA.apps 0 0=0;decide +kernel)
    (by rw [e1,e2];show Fil.alw (Fil.selF pA.root pA.apps 0 0).level (Fil.selF pA.root pA.apps 0 0).right ⟨1,true,false,false,0⟩=true;decide +kernel)
    (by rw [e1,e2];show Fil.rdE pA.root pA.apps 0 0 ⟨1,true,false,false,0⟩ 0 256=0;decide +kernel)
    (by rw [e1,e2];show Fil.rdB pA.root pA.apps 0 0 ⟨1,true,false,false,0⟩ 0 256=[1];decide +kernel) (by decide) (by decide)
  refine read_t (lnS xB) (lnS xC) [1] (by decide) hB.k.1.p.ok a2.1.p.ok ?_;exact send_sec (lnS xB) xC 0 176 129 0 256 [] 12 176 129 0 65536 _ (xB.n+1) (xB.n+1+1) _ _ [1] 25218 hB.k.1.p.ok a2.1.p.ok rfl
    (wrapE_s xB.e xB.c xB.n 176 129 0 hB.e hB.c ⟨by omega,by omega⟩ (by decide)) a1
    (openD_s xB.e xB.c (xB.n+1) [1] 25218 hB.e hB.c ⟨by omega,by omega⟩ (by decide) (by decide) (by decide) (rpD_len _ _ _ _ _ (by decide) (by decide)))
end
section
attribute [local irreducible] digB keyB sealB chkB openB codeB enc1 padB drwB nxtB seedB msB ctrN seX recB wrD wrE rpD rpE lnA
def sgA1:Sg:=fun f args ls =>
  match f,args,ls with
  | 6,[.lit (.slice none 0 0)],[]=>some (.fr (.opt true (.li 2 [.agg [.li 1 [],.lit (.int .i64 0)]])),[],True)
  | 7,[.ptr 0 0 0],[.li 2 [x]]=>some (.agg (perL pA),[.li 2 [.agg [.li 1 [],.lit (.int .i64 0)]]],x = .agg [.li 1 [],.lit (.int .i64 0)])
  | 8,[.agg l],[]=>some (.tup [.fr (.opt true (.li 64 [lnA (ln0 pA sA)])),.lit (.bool true)],[],l=perL pA)
  | 9,[.ptr 0 0 0,.lit (.string z),.by_ a,.by_ b],[.li 64 [x]]=>some (.lit (.bool true),[.li 64 [lnA (lnS xA)]],z=pA.zone∧a=List.replicate 8 0∧b=List.replicate 16 0∧x=lnA (ln0 pA sA))
  | _,_,_=>none
theorem sgA1_ok:SgOK Tryz.prog sgA1:=by
  intro f args ls r ls' vc h hvc;unfold sgA1 at h;split at h <;> cases h
  · exact ⟨(fnOK Tryz.func6 (by decide) rfl),roll_n⟩
  · subst hvc;exact ⟨(fnOK Tryz.func7 (by decide) rfl),makeA⟩
  · subst hvc;exact ⟨(fnOK Tryz.func8 (by decide) rfl),start_t pA sA newA⟩
  · obtain ⟨rfl,rfl,rfl,rfl⟩:=hvc;exact ⟨(fnOK Tryz.func9 (by decide) rfl),enterA.1⟩
def sgA2:Sg:=fun f args ls =>
  match f,args,ls with
  | 9,[.ptr 0 0 0,.lit (.string z),.by_ a,.by_ b],[.li 64 [x]]=>some (.lit (.bool true),[.li 64 [lnA (lnS xA)]],z=pA.zone∧a=List.replicate 8 0∧b=List.replicate 16 0∧x=lnA (ln0 pA sA))
  | 11,[.ptr 0 0 0],[.li 64 [x]]=>some (.lit (.bool true),[.li 64 [lnA (lnS xB)]],x=lnA (lnS xA))
  | 15,[.ptr 0 0 0,.lit (.int .i64 a),.lit (.int .i64 b)],[.li 64 [x]]=>some (.tup [.by_ [1],.lit (.int .i64 25218)],[.li 64 [lnA (lnS xC)]],a=1∧b=256∧x=lnA (lnS xB))
  | 16,[.by_ a,.by_ b],[]=>some (.lit (.bool (decide (a=b))),[],True)
  | _,_,_=>none
theorem sgA2_ok:SgOK Tryz.prog sgA2:=by
  intro f args ls r ls' vc h hvc;unfold sgA2 at h;split at h <;> cases h
  · obtain ⟨rfl,rfl,rfl,rfl⟩:=hvc;exact ⟨(fnOK Tryz.func9 (by decide) rfl),enterA.1⟩
  · subst hvc;exact ⟨(fnOK Tryz.func11 (by decide) rfl),chooseA⟩
  · obtain ⟨rfl,rfl,rfl⟩:=hvc;exact ⟨(fnOK Tryz.func15 (by decide) rfl),readA⟩
  · exact ⟨(fnOK Tryz.func16 (by decide) rfl),rsame_s _ _⟩
theorem awake_t:FnS Tryz.prog 5 [] [] (.lit (.bool true)) []:=by
  have hs:=sgA1_ok;have o1:=eq_true newA.k.ok.1;have o2:=eq_true newA.k.ok.2;have g0:=eq_true (TrC_ln (l:=ln0 pA sA) newA.k.ok);have g1:=eq_true (TrC_ln (l:=lnS xA) enterA.2.1.k.1.p.ok);have g2:=eq_true (TrC_ln (l:=lnS xB) sesB.k.1.p.ok);have g3:=eq_true (TrC_ln (l:=lnS xC) (show PerOK xC.p from newA.k.ok))
  have hA:pA.apps.map Fil.apA=[.agg [.by_ [160,0,0],.li 5 [.agg [.lit (.int .i64 257),.lit (.int .i64 1),.by_ [1],.lit (.int .i64 1),.lit (.int .i64 0)],.agg [.lit (.int .i64 259),.lit (.int .i64 3),.by_ [3],.lit (.int .i64 3),.lit (.int .i64 0)],.agg [.lit (.int .i64 260),.lit (.int .i64 4),.by_ [4],.lit (.int .i64 3),.lit (.int .i64 1)],.agg [.lit (.int .i64 270),.lit (.int .i64 14),.by_ [14],.lit (.int .i64 2),.lit (.int .i64 0)],.agg [.lit (.int .i64 286),.lit (.int .i64 30),.by_ [],.lit (.int .i64 0),.lit (.int .i64 0)]]]]:=rfl;refine fo Tryz.func5 49 fun X hX=>?_;refine up 1 ?_;refine rK hs fun K hK=>?_;simp only [go_sem,sgA1,perL,o1,o2,Fil.Tr_fls,Fil.Tr_aps]
  refine eK ?_;refine rK hs fun K hK=>?_;simp only [go_sem,sgA1,perL,o1,o2,g0,Fil.Tr_fls,Fil.Tr_aps]
  refine eK ?_;refine (fun (hs:SgOK Tryz.prog sgA2)=>?_) sgA2_ok;refine up 1 ?_;refine WA.drawnK mixed_ ty_ok hs (tbl:=[[],[0],[0,1],[0,1,2],[0,1,2],[0,1,2,4],[0,1,2],[0,1,2],[0,1,2,3,4,5,6,7],[0,1,2,3,4,5,6,7,8],[0,1,2,3,4,5,6,7,8,9],[0,1,2,3,4,5,6,7,8,9,10],[0,1,2,3,4,5,6,7,8,9,10,11],[0,1,2,3,4,5,6,7,8,9,10,11,12],[0,1,2,3,4,5,6,7,8,9,10,11,12,13],[0,1,2,3,4,5,6,7,8,9,10,11,12,13,14]]) (nb:=[5,8,13]) (by kernel_rfl) fun K hK=>?_;simp only [go_sem,sgA2,g0,g1,g2]
  refine eK ?_;refine up 2 ?_
  refine rK hs fun K hK=>?_;simp only [go_sem,sgA2,g2,g3]
  refine eK ?_;have z2:((25218:Int) == 25218)=true:=by decide
  refine rK hs fun K hK=>?_;simp only [go_sem,sgA2,hA,z2]
  refine eK ?_;refine rE [.lit (.bool true)] [] [.tmp 0] ?_;simp only [go_sem,sbT]
end
section
attribute [local irreducible] digB keyB sealB chkB openB codeB enc1 padB drwB nxtB seedB msB ctrN seX recB wrD wrE rpD rpE lnA byD byZ
theorem forg_k {x:Chp} {pr ur:Int} {pin:List UInt8} {s:Ch.Sto} (h:StK pr ur pin s x):StK pr ur pin s (forgotX x):=⟨⟨h.1.p,h.1.m0,h.1.m1,h.1.seed,Nat.zero_le _,Nat.zero_le _,h.1.nonce⟩,h.2.1.mem rfl rfl,h.2.2⟩
theorem inv_a (x:Chp) {pr ur:Int} {pin:List UInt8} {s:Ch.Sto} (k ins p1 p2 e:Int) (d:List UInt8) (h:StK pr ur pin s x) (hv:valC ⟨k,ins,p1,p2,d,e⟩=false):FnS Tryz.prog 13 [chpA x,cmX k ins p1 p2 d e,.lit (.int .i64 (-1))] [] (.tup [chpA (forgotX x),rsX [] 26368,.lit (.bool true)]) []:=by
  have hm:=mc0_ok pr ur pin s h.1;exact Answer_c x pr ur pin s h.1 h.2.1 h.2.2 k ins p1 p2 e d (forgot (mc0 x pr ur pin s)) hm _ _ (T2.answer_inv (mc0 x pr ur pin s) k ins p1 p2 e d hm hv)
theorem mis_a (x:Chp) {pr ur:Int} {pin:List UInt8} {s:Ch.Sto} (k ins p1 p2 e:Int) (d:List UInt8) (h:StK pr ur pin s x) (hsec:x.sec=true) (hv:valC ⟨k,ins,p1,p2,d,e⟩=true) (hk:(bits .and .i64 k 12 != 12)=true):FnS Tryz.prog 13 [chpA x,cmX k ins p1 p2 d e,.lit (.int .i64 (-1))] [] (.tup [chpA (forgotX x),rsX [] 27015,.lit (.bool true)]) []:=by
  have hm:=mc0_ok pr ur pin s h.1;exact Answer_c x pr ur pin s h.1 h.2.1 h.2.2 k ins p1 p2 e d (forgot (mc0 x pr ur pin s)) hm _ _ (T2.answer_mis (mc0 x pr ur pin s) k ins p1 p2 e d hm hv hsec hk)
theorem cls_a (x:Chp) {pr ur:Int} {pin:List UInt8} {s:Ch.Sto} (ins p1 p2 e:Int) (d:List UInt8) (h:StK pr ur pin s x) (hsec:x.sec=false) (hv:valC ⟨12,ins,p1,p2,d,e⟩=true):FnS Tryz.prog 13 [chpA x,cmX 12 ins p1 p2 d e,.lit (.int .i64 (-1))] [] (.tup [chpA x,rsX [] 28160,.lit (.bool true)]) []:=by
  have hm:=mc0_ok pr ur pin s h.1;exact Answer_c x pr ur pin s h.1 h.2.1 h.2.2 12 ins p1 p2 e d (mc0 x pr ur pin s) hm _ _ (T2.answer_cls (mc0 x pr ur pin s) 12 ins p1 p2 e d hm hv hsec (by decide))
def sgT1 (L:AV) (zd:Int) (p:Per) (s:Ch.Sto):Sg:=fun f args ls =>
  match f,args,ls with
  | 4,[.li 1 xs],[]=>some (.lit (.bool (decide ((xs.length:Int)≤400))),[],True)
  | 5,[],[]=>some (.lit (.bool true),[],True)
  | 6,[.li 1 xs],[]=>some (.fr (.opt true (.li 2 [.agg [.li 1 xs,.lit (.int .i64 0)]])),[],Tr (.li 1 xs)=True)
  | 7,[.ptr 0 0 0],[.li 2 [x]]=>some (.agg (perL p),[.li 2 [.agg [L,.lit (.int .i64 zd)]]],x = .agg [L,.lit (.int .i64 0)])
  | 8,[.agg l],[]=>some (.tup [.fr (.opt true (.li 64 [lnA (ln0 p s)])),.lit (.bool true)],[],l=perL p)
  | _,_,_=>none
theorem sgT1_ok {L:AV} {zd:Int} {p:Per} {s:Ch.Sto} (hM:FnS Tryz.prog 7 [.ptr 0 0 0] [.li 2 [.agg [L,.lit (.int .i64 0)]]] (.agg (perL p)) [.li 2 [.agg [L,.lit (.int .i64 zd)]]]) (hN:NewK p s):SgOK Tryz.prog (sgT1 L zd p s):=by
  intro f args ls r ls' vc h hvc;unfold sgT1 at h;split at h <;> cases h
  · exact ⟨(fnOK Tryz.func4 (by decide) rfl),light_s _⟩
  · exact ⟨(fnOK Tryz.func5 (by decide) rfl),awake_t⟩
  · exact ⟨(fnOK Tryz.func6 (by decide) rfl),roll_s _ hvc⟩
  · subst hvc;exact ⟨(fnOK Tryz.func7 (by decide) rfl),hM⟩
  · subst hvc;exact ⟨(fnOK Tryz.func8 (by decide) rfl),start_t p s hN⟩
def sgT2 (L:AV) (zd:Int) (p:Per) (s:Ch.Sto) (x2 x3:Chp):Sg:=fun f args ls =>
  match f,args,ls with
  | 5,[],[]=>some (.lit (.bool true),[],True)
  | 10,[.ptr 0 0 0,.lit (.int .i64 n)],[.li 2 [.agg [K,.lit (.int .i64 z)]]]=>some (.fr (.by_ (byD K n.toNat z)),[.li 2 [.agg [K,.lit (.int .i64 (byZ K n.toNat z))]]],DcOK K z∧0≤n∧n≤1000)
  | 9,[.ptr 0 0 0,.lit (.string z),.by_ a,.by_ b],[.li 64 [x]]=>some (.lit (.bool true),[.li 64 [lnA (lnS x2)]],z=p.zone∧a=byD L 8 zd∧b=byD L 16 (byZ L 8 zd)∧x=lnA (ln0 p s))
  | 11,[.ptr 0 0 0],[.li 64 [x]]=>some (.lit (.bool true),[.li 64 [lnA (lnS x3)]],x=lnA (lnS x2))
  | _,_,_=>none
theorem sgT2_ok {L:AV} {zd:Int} {p:Per} {s:Ch.Sto} {x2 x3:Chp} (hE:FnS Tryz.prog 9 [.ptr 0 0 0,.lit (.string p.zone),.by_ (byD L 8 zd),.by_ (byD L 16 (byZ L 8 zd))] [.li 64 [lnA (ln0 p s)]] (.lit (.bool true)) [.li 64 [lnA (lnS x2)]])
    (hC:FnS Tryz.prog 11 [.ptr 0 0 0] [.li 64 [lnA (lnS x2)]] (.lit (.bool true)) [.li 64 [lnA (lnS x3)]]):SgOK Tryz.prog (sgT2 L zd p s x2 x3):=by
  intro f args ls r ls' vc h hvc;unfold sgT2 at h;split at h <;> cases h
  · exact ⟨(fnOK Tryz.func5 (by decide) rfl),awake_t⟩
  · rename_i n K z;obtain ⟨h1,h2,h3⟩:=hvc;refine ⟨(fnOK Tryz.func10 (by decide) rfl),?_⟩;have:=exactly_s K z n.toNat h1 (by omega);rwa [Int.toNat_of_nonneg h2] at this
  · obtain ⟨rfl,rfl,rfl,rfl⟩:=hvc;exact ⟨(fnOK Tryz.func9 (by decide) rfl),hE⟩
  · subst hvc;exact ⟨(fnOK Tryz.func11 (by decide) rfl),hC⟩
def sgT3 (x3 x4:Chp) (k ins p1 p2 e:Int) (d:List UInt8) (st:Int) (w:List UInt8) (n2:Int):Sg:=fun f args ls =>
  match f,args,ls with
  | 12,[.agg [.lit (.int .i64 a1),.lit (.int .i64 a2),.lit (.int .i64 a3),.lit (.int .i64 a4),.by_ a5,.lit (.int .i64 a6)]],[]=>some (.lit (.bool (valC ⟨a1,a2,a3,a4,a5,a6⟩)),[],True)
  | _,_,_=>none
theorem sgT3_ok {x3 x4:Chp} {k ins p1 p2 e:Int} {d:List UInt8} {st:Int} {w:List UInt8} {n2:Int}:SgOK Tryz.prog (sgT3 x3 x4 k ins p1 p2 e d st w n2):=by
  intro f args ls r ls' vc h hvc;unfold sgT3 at h;split at h <;> cases h
  exact ⟨(fnOK Tryz.func12 (by decide) rfl),valid_s ⟨_,_,_,_,_,_⟩⟩
def sgT4 (x3 x4:Chp) (k ins p1 p2 e:Int) (d:List UInt8) (st:Int):Sg:=fun f args ls =>
  match f,args,ls with
  | 13,[.agg l,.agg c',.lit (.int .i64 z)],[]=>some (.tup [.agg (chpL x4),.agg [.by_ [],.lit (.int .i64 st)],.lit (.bool true)],[],l=chpL x3∧c'=[.lit (.int .i64 k),.lit (.int .i64 ins),.lit (.int .i64 p1),.lit (.int .i64 p2),.by_ d,.lit (.int .i64 e)]∧z = -1)
  | _,_,_=>none
theorem sgT4_ok {x3 x4:Chp} {k ins p1 p2 e:Int} {d:List UInt8} {st:Int} (hA:FnS Tryz.prog 13 [chpA x3,cmX k ins p1 p2 d e,.lit (.int .i64 (-1))] [] (.tup [chpA x4,rsX [] st,.lit (.bool true)]) []):SgOK Tryz.prog (sgT4 x3 x4 k ins p1 p2 e d st):=by
  intro f args ls r ls' vc h hvc;unfold sgT4 at h;split at h <;> cases h
  obtain ⟨rfl,rfl,rfl⟩:=hvc;exact ⟨(fnOK Tryz.func13 (by decide) rfl),hA⟩
def sgT5 (e c:List UInt8) (n n2:Int) (w:List UInt8):Sg:=fun f args ls =>
  match f,args,ls with
  | 14,[.agg [.by_ e',.by_ c',.lit (.int .i64 n')],.agg k'],[]=>some (.tup [.agg [.lit (.int .i64 12),.lit (.int .i64 176),.lit (.int .i64 129),.lit (.int .i64 0),.by_ w,.lit (.int .i64 65536)],.agg [.by_ e,.by_ c,.lit (.int .i64 n2)],.lit (.int .i64 0)],[],(e'=e∧c'=c∧n'=n)∧k'=[.lit (.int .i64 0),.lit (.int .i64 176),.lit (.int .i64 129),.lit (.int .i64 0),.lit (.slice none 0 0),.lit (.int .i64 256)])
  | _,_,_=>none
theorem sgT5_ok {e c:List UInt8} {n n2:Int} {w:List UInt8} (hW:FnS Tryz.prog 14 [ssA e c n,cmX 0 176 129 0 [] 256] [] (.tup [cmX 12 176 129 0 w 65536,ssA e c n2,.lit (.int .i64 0)]) []):SgOK Tryz.prog (sgT5 e c n n2 w):=by
  intro f args ls r ls' vc h hvc;unfold sgT5 at h;split at h <;> cases h
  obtain ⟨⟨rfl,rfl,rfl⟩,rfl⟩:=hvc;refine ⟨(fnOK Tryz.func14 (by decide) rfl),?_⟩;have hwk:Wk (.agg [.lit (.int .i64 0),.lit (.int .i64 176),.lit (.int .i64 129),.lit (.int .i64 0),.lit (.slice none 0 0),.lit (.int .i64 256)]) (.agg [.lit (.int .i64 0),.lit (.int .i64 176),.lit (.int .i64 129),.lit (.int .i64 0),.by_ [],.lit (.int .i64 256)]):=Wk.aggC ⟨Wk.rfl_ _,Wk.rfl_ _,Wk.rfl_ _,Wk.rfl_ _,Wk.by_,Wk.rfl_ _,rfl⟩;exact FnS.wkArg (a:=[_]) (b:=[]) hwk hW
end
section
attribute [local irreducible] digB keyB sealB chkB openB codeB enc1 padB drwB nxtB seedB msB ctrN seX recB wrD wrE rpD rpE byD byZ
set_option maxRecDepth 10000 in
set_option maxHeartbeats 8000000 in
theorem plain_w (l:List Int) (p:Per) (s:Ch.Sto) (zd:Int) (x2 x3 x4:Chp) (k ins p1 p2 e:Int) (d w:List UInt8) (n2:Int) (hr:∀ y∈l,-9223372036854775808≤y∧y≤9223372036854775807) (hl:l.length≤400) (hd:DcOK (.li 1 (l.map iA)) zd)
    (hM:FnS Tryz.prog 7 [.ptr 0 0 0] [.li 2 [.agg [.li 1 (l.map iA),.lit (.int .i64 0)]]] (.agg (perL p)) [.li 2 [.agg [.li 1 (l.map iA),.lit (.int .i64 zd)]]]) (hN:NewK p s)
    (hE:(p.zone.toList == (ByteArray.mk #[]).toList)=false→p.basic=true→FnS Tryz.prog 9 [.ptr 0 0 0,.lit (.string p.zone),.by_ (byD (.li 1 (l.map iA)) 8 zd),.by_ (byD (.li 1 (l.map iA)) 16 (byZ (.li 1 (l.map iA)) 8 zd))] [.li 64 [lnA (ln0 p s)]] (.lit (.bool true)) [.li 64 [lnA (lnS x2)]])
    (hC:(p.zone.toList == (ByteArray.mk #[]).toList)=false→p.basic=true→FnS Tryz.prog 11 [.ptr 0 0 0] [.li 64 [lnA (lnS x2)]] (.lit (.bool true)) [.li 64 [lnA (lnS x3)]])
    (hA:(p.zone.toList == (ByteArray.mk #[]).toList)=false→p.basic=true → ∀ st:Int,(valC ⟨k,ins,p1,p2,d,e⟩=false∧st=26368∨valC ⟨k,ins,p1,p2,d,e⟩=true∧(bits .and .i64 k 12 == 12)=false∧st=27015)→FnS Tryz.prog 13 [chpA x3,cmX k ins p1 p2 d e,.lit (.int .i64 (-1))] [] (.tup [chpA x4,rsX [] st,.lit (.bool true)]) [])
    (hW:(p.zone.toList == (ByteArray.mk #[]).toList)=false→p.basic=true→FnS Tryz.prog 14 [ssA x3.e x3.c x3.n,cmX 0 176 129 0 [] 256] [] (.tup [cmX 12 176 129 0 w 65536,ssA x3.e x3.c n2,.lit (.int .i64 0)]) [])
    (hB:(p.zone.toList == (ByteArray.mk #[]).toList)=false→p.basic=true→FnS Tryz.prog 13 [chpA x4,cmX 12 176 129 0 w 65536,.lit (.int .i64 (-1))] [] (.tup [chpA x4,rsX [] 28160,.lit (.bool true)]) [])
    (k2:PerOK x2.p) (k3:PerOK x3.p) (k4:PerOK x4.p) (hst:x4.st=⟨0,false,false,false,0⟩) (hsec:x4.sec=false) :
    FnS Tryz.prog 3 [.li 1 (l.map iA),cmX k ins p1 p2 d e] [] (.lit (.bool true)) []:=by
  have hs:=sgT1_ok hM hN;have hT:=Tr_ia l;have o1:=eq_true hN.k.ok.1;have o2:=eq_true hN.k.ok.2;have g0:=eq_true (TrC_ln (l:=ln0 p s) hN.k.ok);have g1:=eq_true (TrC_ln (l:=lnS x2) k2);have g2:=eq_true (TrC_ln (l:=lnS x3) k3);have t1:=eq_true k3.1;have t2:=eq_true k3.2;have t3:=eq_true k4.1;have t4:=eq_true k4.2;unfold cmX;refine fo Tryz.func3 151 fun X hX=>?_;refine up 2 ?_;have hle:decide ((l.length:Int)≤400)=true:=decide_eq_true (by omega);refine rK hs fun K hK=>?_;simp only [go_sem,sgT1,hT,List.length_map,hle]
  refine eK ?_;refine up 2 ?_
  refine rK hs fun K hK=>?_;simp only [go_sem,sgT1,hT]
  refine eK ?_;refine rK hs fun K hK=>?_;simp only [go_sem,sgT1,hT,perL,o1,o2,Fil.Tr_fls,Fil.Tr_aps]
  refine eK ?_;refine up 1 ?_;cases hz:(p.zone.toList == (ByteArray.mk #[]).toList) with
  | true =>
    refine rK hs fun K hK=>?_;simp only [go_sem,hz]
    refine eK ?_;refine up 1 ?_;refine rK hs fun K hK=>?_;simp only [go_sem,sgT1]
    refine eK ?_;refine rE [.lit (.bool true)] [] [.tmp 4] ?_;simp only [go_sem,sbT]
  | false =>
  cases hb:p.basic with
  | false =>
    refine rK hs fun K hK=>?_;simp only [go_sem,hz,hb]
    refine eK ?_;refine up 1 ?_;refine rK hs fun K hK=>?_;simp only [go_sem,sgT1]
    refine eK ?_;refine rE [.lit (.bool true)] [] [.tmp 4] ?_;simp only [go_sem,sbT]
  | true =>
  have hE:=hE hz hb;have hC:=hC hz hb;have hA:=hA hz hb;have hW:=hW hz hb;have hB:=hB hz hb;refine rK hs fun K hK=>?_;simp only [go_sem,hz,hb]
  refine eK ?_;refine up 2 ?_
  refine rK hs fun K hK=>?_;simp only [go_sem,sgT1,perL,hb,o1,o2,g0,Fil.Tr_fls,Fil.Tr_aps]
  refine eK ?_;refine up 1 ?_;have hd8:DcOK (.li 1 (l.map iA)) (byZ (.li 1 (l.map iA)) 8 zd):=dc_by _ hd;refine (fun (hs:SgOK Tryz.prog (sgT2 (.li 1 (l.map iA)) zd p s x2 x3))=>?_) (sgT2_ok hE hC);refine WA.drawnH mixed_ ty_ok hs (tbl:=[[],[0],[0,1],[0,1,2],[0,1,2,3],[0,1,2,3,4],[0,1,2,3,4,5],[0,1,2,3,4,5,6],[0,1,2,3,4,5,6],[0,1,2,3,4,5,6,8],[0,1,2,3,4,5,6],[0,1,2,3,4,5,6,10],[0,1,2,3,4,5,6],[0,1,2,3,4,5,6,10,11,12],[0,1,2,3,4,5,6,7,8,9,10,11,12,13],[0,1,2,3,4,5,6,7,8,9,10,11,12,13,14],[0,1,2,3,4,5,6,7,8,9,10,11,12,13,14,15],[0,1,2,3,4,5,6,7,8,9,10,11,12,13,14,15,16],[0,1,2,3,4,5,6,7,8,9,10,11,12,13,14,15,16,17],[0,1,2,3,4,5,6,7,8,9,10,11,12,13,14,15,16,17,18],[0,1,2,3,4,5,6,7,8,9,10,11,12,13,14,15,16,17,18,19],[0,1,2,3,4,5,6,7,8,9,10,11,12,13,14,15,16,17,18,19,20]]) (nb:=[0,9,11,13,14,19]) (hk:=[[],[],[],[],[],[],[],[2048],[2048],[2048],[],[],[2048],[],[],[],[],[],[],[],[],[]]) (by kernel_rfl) fun K hK=>?_;simp only [go_sem,sgT2,hd,hd8,hT,g0,g1,g2]
  refine eK ?_;refine up 3 ?_;refine (fun (hs:SgOK Tryz.prog (sgT3 x3 x4 k ins p1 p2 e d 0 w n2))=>?_) sgT3_ok;refine up 1 ?_;cases hv:valC ⟨k,ins,p1,p2,d,e⟩ with
  | false =>
    refine rK hs fun K hK=>?_;simp only [go_sem,sgT3,hv]
    refine eK ?_;refine up 1 ?_;refine WA.regionE ty_ok hs fun K hK=>?_;simp only [go_sem,true_and];with_reducible refine hK _ (WN.mk ?_)
    clear hK K;with_reducible repeat first | refine WN.t ?_ | refine WN.b ?_
    have hA:=hA 26368 (.inl ⟨hv,rfl⟩);refine (fun (hs:SgOK Tryz.prog (sgT4 x3 x4 k ins p1 p2 e d 26368))=>?_) (sgT4_ok hA);refine WA.drawnH mixed_ ty_ok hs (tbl:=[[],[0],[0,1],[0,1,2],[],[0,1,2,3,4],[0,1,2,3,4,5],[0,1,2,3,4,5,6],[0,1,2,3,4,5,6],[0,1,2,3,4,5,6],[],[],[0,1,2,3,4,5,6,7,10,11],[0,1,2,3,4,5,6,7,8,10,11,12],[0,1,2,3,4,5,6,7,8,9,10,11,12,13]]) (nb:=[3,4,5,12,13]) (hk:=[[],[],[],[],[],[],[],[],[2512],[2512,2520],[],[],[],[],[]]) (by kernel_rfl) fun K hK=>?_;simp only [go_sem,sgT4,lnA,lnS,chpL,perL,i0,List.cons_append,List.nil_append,t1,t2,t3,t4,Fil.Tr_fls,Fil.Tr_aps]
    refine eK ?_;refine up 1 ?_;refine (fun (hs:SgOK Tryz.prog (sgT5 x3.e x3.c x3.n n2 w))=>?_) (sgT5_ok hW);refine rK hs fun K hK=>?_;simp only [go_sem,sgT5]
    refine eK ?_;refine (fun (hs:SgOK Tryz.prog (sgT4 x4 x4 12 176 129 0 65536 w 28160))=>?_) (sgT4_ok hB);refine WA.drawnH mixed_ ty_ok hs (tbl:=[[],[0],[0,1],[0,1,2],[],[0,1,2,3,4],[0,1,2,3,4,5],[0,1,2,3,4,5,6],[0,1,2,3,4,5,6],[0,1,2,3,4,5,6],[],[],[0,1,2,3,4,5,6,7,10,11],[0,1,2,3,4,5,6,7,8,10,11,12],[0,1,2,3,4,5,6,7,8,9,10,11,12,13]]) (nb:=[3,4,5,12,13]) (hk:=[[],[],[],[],[],[],[],[],[2792],[2792,2800],[],[],[],[],[]]) (by kernel_rfl) fun K hK=>?_;simp only [go_sem,sgT4,lnA,lnS,chpL,perL,i0,List.cons_append,List.nil_append,t1,t2,t3,t4,Fil.Tr_fls,Fil.Tr_aps]
    refine eK ?_;refine rK hs fun K hK=>?_;simp only [go_sem,hst,hsec]
    refine eK ?_;refine rE [.lit (.bool true)] [] [.tmp 4] ?_;simp only [go_sem,sbT]
  | true =>
    refine rK hs fun K hK=>?_;simp only [go_sem,sgT3,hv]
    refine eK ?_;refine up 1 ?_;cases hk:(bits .and .i64 k 12 == 12) with
    | true =>
      refine rK hs fun K hK=>?_;simp only [go_sem,hk]
      refine eK ?_;refine up 2 ?_;refine rE [.lit (.bool true)] [] [.tmp 4] ?_;simp only [go_sem,sbT]
    | false =>
      refine rK hs fun K hK=>?_;simp only [go_sem,hk]
      refine eK ?_;refine up 2 ?_
      have hA:=hA 27015 (.inr ⟨hv,hk,rfl⟩);refine (fun (hs:SgOK Tryz.prog (sgT4 x3 x4 k ins p1 p2 e d 27015))=>?_) (sgT4_ok hA);refine WA.drawnH mixed_ ty_ok hs (tbl:=[[],[0],[0,1],[0,1,2],[],[0,1,2,3,4],[0,1,2,3,4,5],[0,1,2,3,4,5,6],[0,1,2,3,4,5,6],[0,1,2,3,4,5,6],[],[],[0,1,2,3,4,5,6,7,10,11],[0,1,2,3,4,5,6,7,8,10,11,12],[0,1,2,3,4,5,6,7,8,9,10,11,12,13]]) (nb:=[3,4,5,12,13]) (hk:=[[],[],[],[],[],[],[],[],[2536],[2536,2544],[],[],[],[],[]]) (by kernel_rfl) fun K hK=>?_;simp only [go_sem,sgT4,lnA,lnS,chpL,perL,i0,List.cons_append,List.nil_append,t1,t2,t3,t4,Fil.Tr_fls,Fil.Tr_aps]
      refine eK ?_;refine up 1 ?_;refine (fun (hs:SgOK Tryz.prog (sgT5 x3.e x3.c x3.n n2 w))=>?_) (sgT5_ok hW);refine rK hs fun K hK=>?_;simp only [go_sem,sgT5]
      refine eK ?_;refine (fun (hs:SgOK Tryz.prog (sgT4 x4 x4 12 176 129 0 65536 w 28160))=>?_) (sgT4_ok hB);refine WA.drawnH mixed_ ty_ok hs (tbl:=[[],[0],[0,1],[0,1,2],[],[0,1,2,3,4],[0,1,2,3,4,5],[0,1,2,3,4,5,6],[0,1,2,3,4,5,6],[0,1,2,3,4,5,6],[],[],[0,1,2,3,4,5,6,7,10,11],[0,1,2,3,4,5,6,7,8,10,11,12],[0,1,2,3,4,5,6,7,8,9,10,11,12,13]]) (nb:=[3,4,5,12,13]) (hk:=[[],[],[],[],[],[],[],[],[2816],[2816,2824],[],[],[],[],[]]) (by kernel_rfl) fun K hK=>?_;simp only [go_sem,sgT4,lnA,lnS,chpL,perL,i0,List.cons_append,List.nil_append,t1,t2,t3,t4,Fil.Tr_fls,Fil.Tr_aps]
      refine eK ?_;refine rK hs fun K hK=>?_;simp only [go_sem,hst,hsec]
      refine eK ?_;refine rE [.lit (.bool true)] [] [.tmp 4] ?_;simp only [go_sem,sbT]
end
section
attribute [local irreducible] digB keyB sealB chkB openB codeB enc1 padB drwB nxtB seedB msB ctrN seX recB wrD wrE rpD rpE byD byZ
theorem plain_p (l:List Int) (p:Per) (s:Ch.Sto) (zd:Int) (k ins p1 p2 e:Int) (d:List UInt8) (hr:∀ y∈l,-9223372036854775808≤y∧y≤9223372036854775807) (hl:l.length≤400) (hd:DcOK (.li 1 (l.map iA)) zd)
    (hM:FnS Tryz.prog 7 [.ptr 0 0 0] [.li 2 [.agg [.li 1 (l.map iA),.lit (.int .i64 0)]]] (.agg (perL p)) [.li 2 [.agg [.li 1 (l.map iA),.lit (.int .i64 zd)]]]) (hN:NewK p s) (hname:Fil.namE [160,0,0] p.root p.apps=0) :
    FnS Tryz.prog 3 [.li 1 (l.map iA),cmX k ins p1 p2 d e] [] (.lit (.bool true)) []:=by
  have ho:(byD (.li 1 (l.map iA)) 8 zd).length=8:=byD_len _ _ _;have hh:(byD (.li 1 (l.map iA)) 16 (byZ (.li 1 (l.map iA)) 8 zd)).length=16:=byD_len _ _ _;obtain ⟨own,hown⟩:∃ b,byD (.li 1 (l.map iA)) 8 zd=b:=⟨_,rfl⟩;obtain ⟨half,hhalf⟩:∃ b,byD (.li 1 (l.map iA)) 16 (byZ (.li 1 (l.map iA)) 8 zd)=b:=⟨_,rfl⟩;have hzl:p.zone.data.toList.length≤1000:=by
    have h1:=hN.zl;have h2:p.zone.data.toList.length=p.zone.size:=rfl;omega
  have hS:=fun (hz:(p.zone.toList == (ByteArray.mk #[]).toList)=false) (hb:p.basic=true)=>enter_d p s own half hN hb hz hzl (hown ▸ ho) (hhalf ▸ hh);have hS3:=fun (hz:(p.zone.toList == (ByteArray.mk #[]).toList)=false) (hb:p.basic=true)=>sel_k (sesX p s own half) [160,0,0] (hS hz hb).2.1 (by have:=(hS hz hb).2.2;omega) (sel_a (sesX p s own half) [160,0,0] (hS hz hb).2.1 (by decide) (by decide) hname).2;refine plain_w l p s zd (sesX p s own half) (slX (sesX p s own half) p.pr p.ur p.pin s [160,0,0]) (forgotX (slX (sesX p s own half) p.pr p.ur p.pin s [160,0,0])) k ins p1 p2 e d (wrE (slX (sesX p s own half) p.pr p.ur p.pin s [160,0,0]).c (slX (sesX p s own half) p.pr p.ur p.pin s [160,0,0]).n 176 129 0) ((slX (sesX p s own half) p.pr p.ur p.pin s [160,0,0]).n+1) hr hl hd hM hN ?_ ?_ ?_ ?_ ?_ hN.k.ok hN.k.ok hN.k.ok rfl rfl
  · intro hz hb;rw [hhalf,hown];exact (hS hz hb).1
  · intro hz hb;exact choose_d (sesX p s own half) (hS hz hb).2.1 hname
  · intro hz hb st h;have h3:=hS3 hz hb;rcases h with ⟨hv,rfl⟩ | ⟨hv,hk,rfl⟩
    · exact inv_a _ k ins p1 p2 e d h3.k hv
    · exact mis_a _ k ins p1 p2 e d h3.k h3.sec hv (by rw [bne,hk];rfl)
  · intro hz hb;have h3:=hS3 hz hb;have hn:=h3.n;exact wrapE_s _ _ _ 176 129 0 h3.e h3.c ⟨by omega,by omega⟩ (by decide)
  · intro hz hb;exact cls_a _ 176 129 0 65536 _ (forg_k (hS3 hz hb).k) rfl (wr_val (by decide) (by decide) (by decide) (wrE_len _ _ _ _ _))
def sgLng9:Sg:=fun f args ls =>
  match f,args,ls with
  | 4,[.li 1 xs],[]=>some (.lit (.bool (decide ((xs.length:Int)≤400))),[],True)
  | 5,[],[]=>some (.lit (.bool true),[],True)
  | _,_,_=>none
theorem sgLng9_ok:SgOK Tryz.prog sgLng9:=by
  intro f args ls r ls' vc h hvc;unfold sgLng9 at h;split at h <;> cases h
  · exact ⟨(fnOK Tryz.func4 (by decide) rfl),light_s _⟩
  · exact ⟨(fnOK Tryz.func5 (by decide) rfl),awake_t⟩
theorem plain_l (l:List Int) (k ins p1 p2 e:Int) (d:List UInt8) (hl:¬ l.length≤400):FnS Tryz.prog 3 [.li 1 (l.map iA),cmX k ins p1 p2 d e] [] (.lit (.bool true)) []:=by
  have hs:=sgLng9_ok;have hT:=Tr_ia l;unfold cmX;refine fo Tryz.func3 151 fun X hX=>?_;refine up 2 ?_;have hle:decide ((l.length:Int)≤400)=false:=decide_eq_false (by omega);refine rK hs fun K hK=>?_;simp only [go_sem,sgLng9,hT,List.length_map,hle]
  refine eK ?_;refine up 1 ?_;refine rK hs fun K hK=>?_;simp only [go_sem,sgLng9]
  refine eK ?_;refine rE [.lit (.bool true)] [] [.tmp 4] ?_;simp only [go_sem,sbT]
theorem plain_s (l:List Int) (k ins p1 p2:Int) (d:List UInt8) (e:Int) (hr:∀ y∈l,-9223372036854775808≤y∧y≤9223372036854775807):FnS Tryz.prog 3 [.li 1 (l.map iA),cmX k ins p1 p2 d e] [] (.lit (.bool true)) []:=by
  by_cases hl:l.length≤400
  · have hd0:DcOK (.li 1 (l.map iA)) 0:=⟨l,rfl,hr,by decide,by omega,hl⟩;obtain ⟨L,hL⟩:∃ L,AV.li 1 (l.map iA)=L:=⟨_,rfl⟩;rw [hL] at hd0;obtain ⟨za,ea⟩:∃ b,Fil.dFz L 0=b:=⟨_,rfl⟩;obtain ⟨zb,eb⟩:∃ b,dyZ L za 20=b:=⟨_,rfl⟩;obtain ⟨z1,e1⟩:∃ b,dyZ L zb 30=b:=⟨_,rfl⟩;obtain ⟨z2,e2⟩:∃ b,dyZ L z1 30=b:=⟨_,rfl⟩;obtain ⟨z3,e3⟩:∃ b,dyZ L z2 30=b:=⟨_,rfl⟩;obtain ⟨z4,e4⟩:∃ b,dyZ L z3 30=b:=⟨_,rfl⟩;obtain ⟨z5,e5⟩:∃ b,dyZ L z4 9=b:=⟨_,rfl⟩;obtain ⟨z6,e6⟩:∃ b,nxZ L z5=b:=⟨_,rfl⟩;obtain ⟨z7,e7⟩:∃ b,nxZ L z6=b:=⟨_,rfl⟩;obtain ⟨z8,e8⟩:∃ b,nxZ L z7=b:=⟨_,rfl⟩;obtain ⟨z9,e9⟩:∃ b,nxZ L z8=b:=⟨_,rfl⟩;obtain ⟨z10,e10⟩:∃ b,nxZ L z9=b:=⟨_,rfl⟩;obtain ⟨z11,e11⟩:∃ b,nxZ L z10=b:=⟨_,rfl⟩;obtain ⟨z12,e12⟩:∃ b,nxZ L z11=b:=⟨_,rfl⟩;obtain ⟨z13,e13⟩:∃ b,dyZ L z12 8=b:=⟨_,rfl⟩;have hM:=make_d L 0 za zb z1 z2 z3 z4 z5 z6 z7 z8 z9 z10 z11 z12 z13 hd0 ea eb e1 e2 e3 e4 e5 e6 e7 e8 e9 e10 e11 e12 e13;have hd:DcOK L z13:=by
      rw [← e13,← e12,← e11,← e10,← e9,← e8,← e7,← e6,← e5,← e4,← e3,← e2,← e1,← eb,← ea];exact dc_dy (dc_nx (dc_nx (dc_nx (dc_nx (dc_nx (dc_nx (dc_nx (dc_dy (dc_dy (dc_dy (dc_dy (dc_dy (dc_dy (Fil.dc_Fz hd0))))))))))))))
    have q0:=dyB_len L za 20 (by omega);have q1:=dyB_len L zb 30 (by omega);have q2:=dyB_len L z1 30 (by omega);have q3:=dyB_len L z2 30 (by omega);have q4:=dyB_len L z3 30 (by omega);have q5:=dyB_len L z4 9 (by omega);have q6:=dyB_len L z12 8 (by omega);have hm1:=dfl_m L 0;have hm2:=dApp_m L 0;have hN:=desk_new (sw:=nxI L z8 8) (bs:=!(nxI L z7 4 == 4-1)) (sd:=dyB L z12 8) (b0:=dyB L za 20) (b1:=dyB L zb 30) (b2:=dyB L z1 30) (b3:=dyB L z2 30) (b4:=dyB L z3 30) (b5:=dyB L z4 9) hm1 hm2 (by omega) (by omega) (by omega) (by omega) (by omega) (by omega) (nx_rng L z5 4 (by omega)) (nx_rng L z6 3 (by omega)) (nx_rng L z9 7 (by omega)) (nx_rng L z10 2 (by omega)) (nx_rng L z11 300 (by omega)) (by omega);rw [← hL] at hM hd;exact plain_p l _ _ z13 k ins p1 p2 e d hr hl hd hM (hL ▸ hN) (desk_name (hL ▸ hN).fv).1
  · exact plain_l l k ins p1 p2 e d hl
theorem plain_x (l:List Int) (k ins p1 p2 e:Int) (d:List UInt8) (hr:∀ y∈l,-9223372036854775808≤y∧y≤9223372036854775807):FnS Tryz.prog 3 [.li 1 (l.map iA),cmX k ins p1 p2 d e] [] (.lit (.bool true)) []:=plain_s l k ins p1 p2 d e hr
end
end Go.Proofs.YtjjkfpbkmhfckaaGreatDoor
namespace Go.Proofs.YtjjkfpbkmhfckaaGreatDoor.topPlain
open Go.ChangeShapes Go.WideShapes Go.ChangeAt Go.RowKit Go.TravelBase Go.Deep Go.TravelAbs
theorem walk (zs0:List Int) (g0_0:∀ y∈zs0,-9223372036854775808≤y∧y≤9223372036854775807) (a1:Int) (b1:Int) (c1:Int) (p1:Int) (e1:Int) (l1:List UInt8) (W:World) (v0 v1:Value) (r0:∀ m,VR W (fun b (_:Nat)=>b<W.heap.size) m (.li 1 (zs0.map iA)) v0) (r1:∀ m,VR W (fun b (_:Nat)=>b<W.heap.size) m (cmX a1 b1 c1 p1 l1 e1) v1) (hG:GLw W (fun b (_:Nat)=>b<W.heap.size)) :
    Calls Tryz.prog 3 #[v0,v1] W fun e W'=>e = .returned (.bool true)∧Below W.heap.size W W':=by
  refine FnS.law (plain_x zs0 a1 b1 c1 p1 e1 l1 g0_0) W _ rfl (fun m j x u hx hu=>?_) hG;match j,hx,hu with
  | 0,hx,hu=>simp at hx hu;subst hx hu;exact r0 m
  | 1,hx,hu=>simp at hx hu;subst hx hu;exact r1 m
  | j+2,hx,hu=>simp at hx
theorem laid_met (os:Os):laidMet Tryz.prog Rows.topPlainRow.laid ((laidWorld os).forCall (fun _ _=>0) ⟨#[],#[.slice none 0 0,.agg #[.int .i64 0,.int .i64 0,.int .i64 0,.int .i64 0,.slice none 0 0,.int .i64 0]],[]⟩).memory :=
  laidMet_of_run' 8 (by kernel_rfl) (by kernel_rfl)
theorem reads (os:Os) {H:Type} (enc:TypeId × Value→H):∃ places,DataW.whole enc Tryz.prog ((laidWorld os).forCall (fun _ _=>0) ⟨#[],#[.slice none 0 0,.agg #[.int .i64 0,.int .i64 0,.int .i64 0,.int .i64 0,.slice none 0 0,.int .i64 0]],[]⟩).memory Tryz.f3.params.toList Rows.topPlainSpec.vars false (#[.slice none 0 0,.agg #[.int .i64 0,.int .i64 0,.int .i64 0,.int .i64 0,.slice none 0 0,.int .i64 0]]:Array Value).toList 12=some ([.nil,.agg [.lit (.int .i64 0),.lit (.int .i64 0),.lit (.int .i64 0),.lit (.int .i64 0),.nil,.lit (.int .i64 0)]],[],places) :=
  ⟨[],by kernel_rfl⟩
set_option maxRecDepth 100000 in
theorem lifted (os:Os) (started:os.Started) (H:Type) (enc:TypeId × Value→H) (F:Stop.Interp) :
    ReturnsInHanded {} Tryz.checked os 3 .any ((OpenSpec.ofChange Rows.topPlainSpec).preRow enc Tryz.prog Tryz.f3 Rows.topPlainRow.domain false Rows.topPlainRow.laid) (((OpenSpec.ofChange Rows.topPlainSpec).at F).post enc Tryz.prog Tryz.f3 false true false false):=by
  obtain ⟨places,hx⟩:=reads os enc;refine returnsInHanded_of_row (C:=Tryz.checked) (s:=OpenSpec.ofChange Rows.topPlainSpec) own_ started (by kernel_rfl) Tryz.func3
    (witness_row_at (enc:=enc) (C:=Tryz.checked) false (laidWorld os) #[.slice none 0 0,.agg #[.int .i64 0,.int .i64 0,.int .i64 0,.int .i64 0,.slice none 0 0,.int .i64 0]] rfl (by kernel_rfl) (by kernel_rfl) (by kernel_rfl)
      (OpenSpec.preRow_of_cond 12 hx (by kernel_rfl) (fun k hk=>by cases hk) (by kernel_rfl) (laid_met os))) ?_
  clear hx;intro W base args ds gs before hval0 hW _ _ hsz0 hL _ _;have hval:∀ (j:Nat) t v,Tryz.f3.params[j]? = some t→args[j]? = some v→Value.okWide Tryz.prog W .any base t v:=hval0;have hG:=gl_of hL;have hW':=hW;obtain ⟨p,q,hA0,hV,rfl,hfz,hnd⟩:=hW;have hA:DataW.TrodAll enc Tryz.prog W 0 (fun _=>true) true Tryz.f3.params.toList args.toList ds p:=hA0;have hsz:(DataW.weightsEach Tryz.prog (Tryz.f3.params.toList++(OpenSpec.ofChange Rows.topPlainSpec).bare.plain.varTypes Tryz.prog) (ds++gs)).all (· ≤ reachBytes)=true:=hsz0;clear hsz0;rw [Tryz.params3] at hA hval hsz;obtain ⟨v0,vs0,d0,ds0,p0,q0,hargs,rfl,rfl,h0,z0⟩:=trodAll_cons hA;obtain ⟨v1,vs1,d1,ds1,p1,q1,rfl,rfl,rfl,h1,z1⟩:=trodAll_cons z0;obtain ⟨rfl,rfl,rfl⟩:=trodAll_nil z1;obtain rfl:args = #[v0,v1]:=by cases args;simp_all
  obtain ⟨rfl,rfl⟩:=trodVars_none hV;have k0:=h0;have lt0:=trod_below h0;obtain ⟨A0,n0,c0,rfl⟩:=okWide_slice Tryz.underlying22 (hval 0 22 v0 rfl rfl);obtain ⟨zs0,w0,wz0,_⟩:=opn_ints Tryz.underlying22 Tryz.underlying3 (by kernel_rfl) h0;have r0:=fun m=>VR_ints (m:=m) (S:=(fun b (_:Nat)=>b<W.heap.size)) w0 (fun _ _ h=>h);have k1:=h1;have lt1:=trod_below h1;obtain ⟨cs1,rfl,_⟩:=okWide_struct Tryz.underlying25 (hval 1 25 v1 rfl rfl);obtain ⟨x1,⟨a1,b1,c1,p1,e1,l1,rfl⟩,r1⟩:=opz_row (fun fuel=>opz_cm fuel) (LtW_of hsz (j:=1) rfl rfl) h1;refine (walk zs0 (wf_i64 wz0) a1 b1 c1 p1 e1 l1 W _ _ r0 r1 hG).mono fun e W' ⟨he,bel⟩=>?_;subst he;exact ⟨_,rfl,_,_,_,[],_,[],hW',trodAll_mk1 (shut_bool Tryz.underlying4 _),(trodAll_cons_mk (Below.trod laidOut_ (by kernel_rfl) (of_decide_eq_true (by kernel_rfl)) k0 bel lt0) (trodAll_cons_mk (Below.trod laidOut_ (by kernel_rfl) (of_decide_eq_true (by kernel_rfl)) k1 bel lt1) trodAll_mk0)),rfl,bel.frame _,fun h=>by cases h⟩
theorem said:Rows.TopPlainSaid :=
  OpenClaim.holds_of_cond 3 Tryz.f3 rfl rfl rfl rfl rfl rfl rfl ⟨rfl,rfl,rfl,rfl,rfl⟩ rfl rfl rfl rfl rfl (by kernel_rfl) Tryz.func3 (by kernel_rfl)
    (of_decide_eq_true (by kernel_rfl)) (by unfold Func.isWrapper;first | (rw [if_pos (by decide +kernel)];kernel_rfl) | (rw [if_neg (by decide +kernel)];exact ⟨rfl,rfl⟩))
    (fun os started H enc _ F=>by rw [OpenClaim.pre_eq_preRow];exact lifted os started H enc F)
theorem plain (f:FuncId) (fn:Func) (hf:Tryz.pinned.checked.prog.funcNamed "traveldoc/traveldoctop.TopPlain" = some f) (hfn:Tryz.pinned.checked.prog.funcs[f]? = some fn) :
    false=Tryz.pinned.checked.prog.looks [] ∧ ∀ (j:Nat) t,fn.params[j]? = some t→Tryz.pinned.checked.prog.wantsStandIn t=false:=by
  obtain rfl:f=3:=Option.some.inj ((show Tryz.prog.funcNamed "traveldoc/traveldoctop.TopPlain" = some 3 by kernel_rfl).symm.trans hf) |>.symm;obtain rfl:fn=Tryz.f3:=(Option.some.inj (Tryz.func3.symm.trans hfn)).symm;refine ⟨by kernel_rfl,fun j t ht=>?_⟩;rw [Tryz.params3] at ht;have hm:t∈[22,25]:=by simpa using Array.mem_of_getElem? ht
  have hall:([22,25].all fun u=>!Tryz.prog.wantsStandIn u)=true:=by kernel_rfl
  exact (show Tryz.prog.wantsStandIn t=false by simpa using List.all_eq_true.1 hall t hm)
theorem card:Rows.TopPlainCardSaid :=
  Claim7.holds_tied_plain_at .later [] _ _ _ _ said (fun _ h=>by cases h) (by kernel_rfl) (fun _ h=>by cases h) topPlain_row_tie rfl ⟨rfl,rfl⟩ (by kernel_rfl) rfl plain (by kernel_rfl)
#print axioms card
end Go.Proofs.YtjjkfpbkmhfckaaGreatDoor.topPlain
