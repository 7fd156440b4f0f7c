/-
  Laws drawn from elder texts. Helper lemmas;no statement of the seat is proved here.
-/
import Derived.Test.YtngmgjodcnknoaaGreatDoorU14
namespace Go.Proofs.YtngmgjodcnknoaaGreatDoor
open Go.RowKit
set_option maxHeartbeats 32000000
set_option maxRecDepth 100000
set_option linter.unusedVariables false
set_option linter.unusedSimpArgs false
def Sg (g:Nat) (a w:World):Prop:=Exc g a w
theorem Sg.begin (g:Nat) (w:World):Sg g w w.drew:=(Exc.refl g w).ext ((Ext.refl w).drew)
theorem Sg.ext {g:Nat} {a w w':World} (h:Sg g a w) (k:Ext w w'):Sg g a w':=Exc.ext h k
theorem Sg.cell {g:Nat} {a w:World} (h:Sg g a w) {b o:Nat} {v:Value} (hb:b< a.heap.size∧b≠g) (hc:a.cell? ⟨b,o,none⟩=some v):w.cell? ⟨b,o,none⟩=some v:=(World.cell?_of_block (h.2 b hb.2 hb.1)).trans hc
theorem Exc.st5 {a w:World} {b:Nat} (h:Exc b a w) (n:Node) (xa xk:Value):Exc b a (st5 w b n xa xk):=((((h.set (p:=⟨b,0,none⟩) rfl _).set (p:=⟨b,1,none⟩) rfl _).set (p:=⟨b,2,none⟩) rfl _).set (p:=⟨b,3,none⟩) rfl _).set (p:=⟨b,4,none⟩) rfl _
theorem MayOk.rules {l:List Rule} (h:MayOk l) (hb:RulesB l):RulesOk l:=fun r hr=>by
  obtain⟨i,hi,rfl⟩:=List.getElem_of_mem hr
  exact⟨(hb _ hr).2.1,(h.2.2 i hi).1.2⟩
theorem MayOk.root {l:List Rule} (h:MayOk l):∃nm ks r,l=⟨[nm],ks⟩::r:=by
  obtain⟨h1,h2,h3⟩:=h
  cases l with
  | nil=>simp at h1
  | cons x r=>
    have h4:=h3 0 kI
    simp only[List.getElem_cons_zero,List.take_zero]at h4
    obtain⟨h5,h6⟩:=h4
    unfold placedS at h6
    rw[if_neg (show¬(0:Int)≤findS x.path [] 0 by simp[findS])]at h6
    by_cases hl:x.path.length=1
    · obtain⟨nm,hn⟩:=List.length_eq_one_iff.1 hl
      exact⟨nm,x.keys,r,by rw[←hn]⟩
    · rw[if_neg hl]at h6;simp[findS]at h6
def NormP (l:List Rule) (a:Node) (r:Node×Int×Int):Prop:=cntN r.1≤cntN a∧(r.2.1=0→MayOk l∧a.kind=1∧fairN a=true∧∃nm ks rs,l=⟨[nm],ks⟩::rs∧a.name=nm∧r=normN l a [nm] 0)
theorem bignormal_any (l:List Rule) (hb:RulesB l) (hll:l.length≤1048576) (a:Node) (p:Nat→Prop) (vl va vk:Value) (w:World) (hcnt:cntN a≤1048576)
    (hvl:Rep w p vl (rulesD l)) (hva:Rep w p va (attrsD a.attrs)) (hvk:Rep w p vk (nodesD a.kids)):
    Calls Tryz.prog 46 #[vl,.agg #[.int .i64 a.kind,.string (bs a.name),.string (bs a.text),va,vk]] w fun e w'=>(∃r,RetNC (fun b=>w.heap.size≤b) r e w'∧NormP l a r)∧Ext w w':=by
  have HMAY:=Lh fun W (hE:Ext w W)=>may_any l p vl W hb hll (hvl.ext hE)
  have HFAIR:=Lh fun W (hE:Ext w W)=>fair_any (nsz a) a p va vk W (Nat.le_refl _) hcnt (hva.ext hE) (hvk.ext hE)
  have HVL:=Lh hvl
  obtain⟨la,lc,rfl,hlc1,hlc2⟩:=hvl.count z_rule kA
  obtain⟨ba,ca,rfl,_,_⟩:=hva.count z_attr kA
  obtain⟨bk,ck,rfl,_,_⟩:=hvk.count z_node kA
  have HB:=Lh hb
  clear hb
  go_enter Tryz.func46,Tryz.ntmps46
  go_wp2_with fail
  obtain⟨w1,hw1⟩:∃w1,((w.alloc (.cells #[.int .i64 a.kind,.string (bs a.name),.string (bs a.text),.slice ba a.attrs.length ca,.slice bk a.kids.length ck] 66)).alloc (.cells #[.int .i64 0,.string ⟨#[]⟩,.string ⟨#[]⟩,.slice none 0 0,.slice none 0 0] 66))=w1:=⟨_,rfl⟩
  have hE1:Ext w w1:=by rw[←hw1];exact((Ext.refl w).alloc _).alloc _
  have hz1:w1.heap.size=w.heap.size+2:=by rw[←hw1];simp
  have hbx:B5 w1 w.heap.size a (.slice ba a.attrs.length ca) (.slice bk a.kids.length ck):=by
    rw[←hw1]
    exact B5.ext ⟨by simp,by simp[go_sem],by simp[go_sem],by simp[go_sem],by simp[go_sem],by simp[go_sem],by simp[go_sem],by simp[go_sem],by simp[go_sem],by simp[go_sem],by simp[go_sem]⟩ ((Ext.refl _).alloc _)
  have hbr:B5 w1 (w.heap.size+1) zeroN (.slice none 0 0) (.slice none 0 0):=by
    rw[←hw1]
    exact⟨by simp,by simp[go_sem,zeroN,Node.kind],by simp[go_sem,zeroN,Node.name];rfl,by simp[go_sem,zeroN,Node.text];rfl,by simp[go_sem],by simp[go_sem],by simp[go_sem],by simp[go_sem],by simp[go_sem],by simp[go_sem],by simp[go_sem]⟩
  rw[hw1]
  clear hw1
  refine(HMAY.out _ hE1).mono ?_
  rintro e w2 ⟨⟨mb,rfl,hmay⟩,hB2⟩
  have hE2:=hE1.trans hB2
  have hbx2:=hbx.ext hB2
  have hbr2:=hbr.ext hB2
  have HMO:=Lh hmay
  clear hmay hbx hbr hE1 HMAY
  cases mb with
  | false=>
    have HRB:=Lh (hbr2)
    have HXX:=Lh (hE2)
    have rc0:=HRB.out.c0
    have rf0:=HRB.out.f0
    have rc1:=HRB.out.c1
    have rf1:=HRB.out.f1
    have rc2:=HRB.out.c2
    have rf2:=HRB.out.f2
    have rc3:=HRB.out.c3
    have rf3:=HRB.out.f3
    have rc4:=HRB.out.c4
    have rf4:=HRB.out.f4
    go_wp2_with fail
    (try simp only[Exit.inBlock,Exit.then])
    refine bodyPost_ret (res_node3 rfl _ _ _ ⟨w.heap.size+1,0,none⟩ ?_ (load_node (B5.put (n:=zeroN) (xa:= .slice none 0 0) (xk:= .slice none 0 0) HRB.out))) rfl ?_
    · rfl
    exact⟨⟨(zeroN,20,0),⟨_,_,rfl,.nil 2,.nil 5⟩,by rw[cnt_zeroN];exact cntN_pos a,fun h=>by cases h⟩,HXX.out.st5 kA zeroN _ _⟩
  | true=>
    have xc0:=hbx2.c0
    have xf0:=hbx2.f0
    have xc1:=hbx2.c1
    have xf1:=hbx2.f1
    have xc2:=hbx2.c2
    have xf2:=hbx2.f2
    have xc3:=hbx2.c3
    have xf3:=hbx2.f3
    have xc4:=hbx2.c4
    have xf4:=hbx2.f4
    go_wp2_with fail
    refine(HFAIR.out _ hE2).mono ?_
    rintro e w3 ⟨⟨fb,rfl,hfair⟩,hB3⟩
    have hE3:=hE2.trans hB3
    have hbx3:=hbx2.ext hB3
    have hbr3:=hbr2.ext hB3
    clear xc0 xc1 xc2 xc3 xc4 xf0 xf1 xf2 xf3 xf4 HFAIR hbx2 hbr2
    cases fb with
    | false=>
      have HRB:=Lh (hbr3)
      have HXX:=Lh (hE3)
      have rc0:=HRB.out.c0
      have rf0:=HRB.out.f0
      have rc1:=HRB.out.c1
      have rf1:=HRB.out.f1
      have rc2:=HRB.out.c2
      have rf2:=HRB.out.f2
      have rc3:=HRB.out.c3
      have rf3:=HRB.out.f3
      have rc4:=HRB.out.c4
      have rf4:=HRB.out.f4
      go_wp2_with fail
      (try simp only[Exit.inBlock,Exit.then])
      refine bodyPost_ret (res_node3 rfl _ _ _ ⟨w.heap.size+1,0,none⟩ ?_ (load_node (B5.put (n:=zeroN) (xa:= .slice none 0 0) (xk:= .slice none 0 0) HRB.out))) rfl ?_
      · rfl
      exact⟨⟨(zeroN,80,0),⟨_,_,rfl,.nil 2,.nil 5⟩,by rw[cnt_zeroN];exact cntN_pos a,fun h=>by cases h⟩,HXX.out.st5 kA zeroN _ _⟩
    | true=>
      have HFR:=Lh (hfair rfl)
      clear hfair
      have xc0:=hbx3.c0
      by_cases hk:a.kind=1
      · have q1:(a.kind !=1)=false:=by rw[hk];rfl
        have HK:=Lh hk
        have hmo:=HMO.out trivial
        obtain⟨nm,ks,rs,hl⟩:=hmo.root
        have HL:=Lh hl
        obtain⟨gl,ol,vp,vkk,e1,lgl,hgl,r0,r1,hrp,hrk⟩:=rule_at (HVL.out.lt.ext hE3) 0 (by rw[hl];simp)
        subst e1
        rw[Nat.zero_mul,Nat.add_zero]at r0 r1
        have hl0:l[0]'(by rw[hl];simp)=⟨[nm],ks⟩:=by simp[hl]
        rw[hl0]at hrp hrk
        obtain⟨gp,pc,rfl,hpc1,hpc2⟩:=hrp.count z_str kA
        obtain⟨gpp,op,rfl,lgp,_,n0⟩:=str_at hrp 0 kI
        have hlp:(0:Int)< (l.length:Int):=by rw[hl];simp<;> omega
        have hlne:l≠ []:=by rw[hl];simp
        have hnn: [nm][0]'kI=nm:=rfl
        rw[hnn,Nat.add_zero]at n0
        have hone:([nm]:List Bytes).length=1:=rfl
        rw[hone]at r0 hpc1
        have HRP:=Lh hrp
        have hrp1:Rep w3 (fun b=>p b∧b< w.heap.size) (.slice (some ⟨gpp,op,none⟩) 1 pc) (strsD [nm]):=hrp
        have xc1:=hbx3.c1
        have lx:=hbx3.lt
        have HH:=Lh (And.intro hbx3 (And.intro hbr3 (And.intro hE3 hrp1)))
        have HMM:=Lh hmo
        clear hl hl0 hrk hrp hrp1 HRP hone hnn hk hmo r1
        go_wp2_with fail
        by_cases hname:a.name=nm
        · have t1:((bs a.name).toList==(bs nm).toList)=true:=by rw[hname];exact beq_self_eq_true _
          have HNM:=Lh hname
          clear hname
          go_quiet (fail)
          go_wp2_with fail
          have hE5:Ext w3 (w3.drewN nq):=(Ext.refl w3).drewN nq
          obtain⟨w5,hw5⟩:∃w5,w3.drewN nq=w5:=⟨_,rfl⟩
          rw[hw5]at hE5⊢
          have hok:RulesOk l:=HMM.out.rules HB.out
          have hE5w:=HH.out.2.2.1.trans hE5
          have rr0:=hE5.keep lgl r0
          have lgl5:gl< w5.heap.size∧gl≠w.heap.size+1:=⟨Nat.lt_of_lt_of_le lgl hE5.size,by omega⟩
          have hbx5:=HH.out.1.ext hE5
          have yc0:=hbx5.c0
          have yf0:=hbx5.f0
          have yc1:=hbx5.c1
          have yf1:=hbx5.f1
          have yc2:=hbx5.c2
          have yf2:=hbx5.f2
          have yc3:=hbx5.c3
          have yf3:=hbx5.f3
          have yc4:=hbx5.c4
          have yf4:=hbx5.f4
          have lx5:w.heap.size< w5.heap.size∧w.heap.size≠w.heap.size+1:=⟨hbx5.lt,by omega⟩
          have hz5:w.heap.size+2≤w5.heap.size:=by have:=hB2.size;have:=hB3.size;have:=hE5.size;omega
          have HNC:=Lh fun W (hE:Ext w5 W)=>normal_any l hok (nsz a) a [nm] 0 (fun _=>True) _ _ _ _ W (Nat.le_refl _) hcnt kI kM kA kA ((HVL.out.ext (hE5w.trans hE)).ok fun _ _=>trivial) ((HH.out.2.2.2.ext (hE5.trans hE)).ok fun _ _=>trivial) ((hva.ext (hE5w.trans hE)).ok fun _ _=>trivial) ((hvk.ext (hE5w.trans hE)).ok fun _ _=>trivial)
          have hcr:=cnt_normN l a [nm] 0
          have HP:Hid (NormP l a (normN l a [nm] 0)):=Lh ⟨hcr,fun _=>⟨HMM.out,HK.out,HFR.out,nm,ks,rs,HL.out,HNM.out,rfl⟩⟩
          obtain⟨RN,hRN⟩:∃R,normN l a [nm] 0=R:=⟨_,rfl⟩
          rw[hRN]at HNC HP
          obtain⟨rd,re,rwh⟩:=RN
          have HH5:=Lh (And.intro hE5w (And.intro (HH.out.2.1.ext hE5) hE5))
          clear hRN hcr hw5 hbx5 xc0 xc1 r0 n0 hva hvk hvl hok
          have xc0:=yc0
          have xc1:=yc1
          have xc2:=yc2
          have xc3:=yc3
          have xc4:=yc4
          clear yc0 yc1 yc2 yc3 yc4 yf0 yf1 yf2 yf3 yf4
          refine rg_begin (S:=Sg (w.heap.size+1) w5) kB (Sg.begin _ _) ?_
          have hS:Sg (w.heap.size+1) w5 (World.drew w5):=(Sg.begin _ _)
          refine gT 0 30 (.slice (some ⟨gl,ol,none⟩) l.length lc) hS ?_
          simp only[Act.put,sA,sZ,sS]
          refine gT 1 31 (.agg #[.int .i64 a.kind,.string (bs a.name),.string (bs a.text),.slice ba a.attrs.length ca,.slice bk a.kids.length ck]) hS ?_ (hv:=fun w' hs=>by(have h0:=hs.cell lx5 xc0;have h1:=hs.cell lx5 xc1;have h2:=hs.cell lx5 xc2;have h3:=hs.cell lx5 xc3;have h4:=hs.cell lx5 xc4;go_simp))
          simp only[Act.put,sA,sZ,sS]
          refine gT 2 32 (.slice (some ⟨gl,ol,none⟩) l.length lc) hS ?_
          simp only[Act.put,sA,sZ,sS]
          refine gT 3 33 (.pointer (some ⟨gl,ol,none⟩)) hS ?_
          simp only[Act.put,sA,sZ,sS]
          refine gT 4 34 (.pointer (some ⟨gl,ol,none⟩)) hS ?_
          simp only[Act.put,sA,sZ,sS]
          refine gT 5 35 (.slice (some ⟨gpp,op,none⟩) 1 pc) hS ?_ (hv:=fun w' hs=>by(have h0:=hs.cell lgl5 rr0;go_simp))
          simp only[Act.put,sA,sZ,sS]
          refine rg_call 6 (some 36) 77 #[.slice (some ⟨gl,ol,none⟩) l.length lc,.agg #[.int .i64 a.kind,.string (bs a.name),.string (bs a.text),.slice ba a.attrs.length ca,.slice bk a.kids.length ck],.slice (some ⟨gpp,op,none⟩) 1 pc,.int .i64 0] rfl rfl kB (by rfl) (fun w'=>by first | rfl | go_simp) (R:=fun v w'=>∃(oa:Option Addr) (na ca2:Nat) (ob:Option Addr) (nb cb2:Nat),v= .tuple #[.agg #[.int .i64 rd.kind,.string (bs rd.name),.string (bs rd.text),.slice oa na ca2,.slice ob nb cb2],.int .i64 re,.int .i64 rwh]∧Rep w' (fun b=>w.heap.size+2≤b) (.slice oa na ca2) (attrsD rd.attrs)∧Rep w' (fun b=>w.heap.size+2≤b) (.slice ob nb cb2) (nodesD rd.kids)∧Ext (World.drew w5) w') ?_ ?_
          · refine(HNC.out _ ((Ext.refl w5).drew)).mono ?_
            rintro e w' ⟨⟨xa,xk,rfl,hxa,hxk⟩,h⟩
            obtain⟨oa,ca2,rfl,_,_⟩:=hxa.count z_attr kA
            obtain⟨ob,cb2,rfl,_,_⟩:=hxk.count z_node kA
            exact⟨_,rfl,oa,_,ca2,ob,_,cb2,rfl,hxa.ok (fun b hb=>by have:=hz5;have hb':w5.heap.size≤b:=hb;omega),hxk.ok (fun b hb=>by have:=hz5;have hb':w5.heap.size≤b:=hb;omega),h⟩
          rintro _ wr1 ⟨oa,na,ca2,ob,nb,cb2,rfl,hxa,hxk,hBr1⟩
          have hS1:=hS.ext hBr1
          refine⟨hS1,?_⟩
          simp only[Act.put,sA,sZ,sS]
          refine gT 7 37 (.agg #[.int .i64 rd.kind,.string (bs rd.name),.string (bs rd.text),.slice oa na ca2,.slice ob nb cb2]) hS1 ?_
          simp only[Act.put,sA,sZ,sS]
          refine gT 8 38 (.int .i64 re) hS1 ?_
          simp only[Act.put,sA,sZ,sS]
          refine gT 9 39 (.int .i64 rwh) hS1 ?_
          simp only[Act.put,sA,sZ,sS]
          have hbz:=HH5.out.2.1.ext ((Ext.refl w5).drew.trans hBr1)
          refine rg_write 10 none (st5 wr1 (w.heap.size+1) rd (.slice oa na ca2) (.slice ob nb cb2)) rfl rfl kB (by rfl) (exec_store rfl (store_nodeS (m:=rd) hbz _ _ _ _ _ _)) (Exc.st5 hS1 _ _ _) ?_
          simp only[Act.put,sA,sZ,sS]
          have hSz:Sg (w.heap.size+1) w5 (st5 wr1 (w.heap.size+1) rd (.slice oa na ca2) (.slice ob nb cb2)):=Exc.st5 hS1 _ _ _
          refine gT 11 5 (.int .i64 re) hSz ?_
          simp only[Act.put,sA,sZ,sS]
          refine gT 12 6 (.int .i64 rwh) hSz ?_
          simp only[Act.put,sA,sZ,sS]
          refine rg_done kB ?_
          have HRB:=Lh hbz
          have HXX:Hid (Ext w wr1):=Lh (HH5.out.1.trans ((Ext.refl w5).drew.trans hBr1))
          have HXA:=Lh (And.intro hxa hxk)
          clear hxa hxk xc0 xc1 xc2 xc3 xc4 hbz
          go_wp2_with fail
          (try simp only[Exit.inBlock,Exit.then])
          refine bodyPost_ret (res_node3 rfl _ _ _ ⟨w.heap.size+1,0,none⟩ ?_ (load_node (B5.put (n:=rd) (xa:= .slice oa na ca2) (xk:= .slice ob nb cb2) HRB.out))) rfl ?_
          · rfl
          have hX6:=HXX.out.st5 (b:=w.heap.size+1) kA rd (.slice oa na ca2) (.slice ob nb cb2)
          exact⟨⟨(rd,re,rwh),⟨_,_,rfl,(HXA.out.1.kept fun b hb _=>st5_block _ _ _ _ _ kA).ok fun b hb=>by omega,(HXA.out.2.kept fun b hb _=>st5_block _ _ _ _ _ kA).ok fun b hb=>by omega⟩,HP.out⟩,hX6⟩
        · have t1:((bs a.name).toList==(bs nm).toList)=false:=by rw[bs_toList,bs_toList,beq_eq_false_iff_ne];exact hname
          clear hname
          go_quiet (fail)
          have hX5:Ext w3 (w3.drewN nq):=(Ext.refl w3).drewN nq
          have HRB:=Lh (HH.out.2.1.ext hX5)
          have HXX:=Lh (HH.out.2.2.1.trans hX5)
          have rc0:=HRB.out.c0
          have rf0:=HRB.out.f0
          have rc1:=HRB.out.c1
          have rf1:=HRB.out.f1
          have rc2:=HRB.out.c2
          have rf2:=HRB.out.f2
          have rc3:=HRB.out.c3
          have rf3:=HRB.out.f3
          have rc4:=HRB.out.c4
          have rf4:=HRB.out.f4
          go_wp2_with fail
          (try simp only[Exit.inBlock,Exit.then])
          refine bodyPost_ret (res_node3 rfl _ _ _ ⟨w.heap.size+1,0,none⟩ ?_ (load_node (B5.put (n:=zeroN) (xa:= .slice none 0 0) (xk:= .slice none 0 0) HRB.out))) rfl ?_
          · rfl
          exact⟨⟨(zeroN,24,0),⟨_,_,rfl,.nil 2,.nil 5⟩,by rw[cnt_zeroN];exact cntN_pos a,fun h=>by cases h⟩,HXX.out.st5 kA zeroN _ _⟩
      · have q1:(a.kind !=1)=true:=by rw[bne_iff_ne];exact hk
        clear hk
        have HRB:=Lh (hbr3)
        have HXX:=Lh (hE3)
        have rc0:=HRB.out.c0
        have rf0:=HRB.out.f0
        have rc1:=HRB.out.c1
        have rf1:=HRB.out.f1
        have rc2:=HRB.out.c2
        have rf2:=HRB.out.f2
        have rc3:=HRB.out.c3
        have rf3:=HRB.out.f3
        have rc4:=HRB.out.c4
        have rf4:=HRB.out.f4
        go_wp2_with fail
        (try simp only[Exit.inBlock,Exit.then])
        refine bodyPost_ret (res_node3 rfl _ _ _ ⟨w.heap.size+1,0,none⟩ ?_ (load_node (B5.put (n:=zeroN) (xa:= .slice none 0 0) (xk:= .slice none 0 0) HRB.out))) rfl ?_
        · rfl
        exact⟨⟨(zeroN,80,0),⟨_,_,rfl,.nil 2,.nil 5⟩,by rw[cnt_zeroN];exact cntN_pos a,fun h=>by cases h⟩,HXX.out.st5 kA zeroN _ _⟩
def NForm (l:List Rule) (n:Node):Prop:=∃a nm ks rs,MayOk l∧l=⟨[nm],ks⟩::rs∧a.kind=1∧a.name=nm∧(normN l a [nm] 0).2.1=0∧n=(normN l a [nm] 0).1∧cntN a≤1048576∧cntN n≤1048576∧fairN a=true
theorem cnt_name (n:Node):n.name.length+n.text.length≤cntN n:=by cases n;rw[cntN];simp only[Node.name,Node.text];omega
structure A5 (W:World) (b:Nat) (n:ANode) (xk xv xp xc:Value):Prop where
  lt:b< W.heap.size
  c0:W.cell? ⟨b,0,none⟩=some (.string (bs n.name))
  c1:W.cell? ⟨b,1,none⟩=some xk
  c2:W.cell? ⟨b,2,none⟩=some xv
  c3:W.cell? ⟨b,3,none⟩=some xp
  c4:W.cell? ⟨b,4,none⟩=some xc
  f0:W.frozen? ⟨b,0,none⟩=false
  f1:W.frozen? ⟨b,1,none⟩=false
  f2:W.frozen? ⟨b,2,none⟩=false
  f3:W.frozen? ⟨b,3,none⟩=false
  f4:W.frozen? ⟨b,4,none⟩=false
theorem A5.ext {W W':World} {b:Nat} {n:ANode} {xk xv xp xc:Value} (h:A5 W b n xk xv xp xc) (hB:Ext W W'):A5 W' b n xk xv xp xc:=
  ⟨Nat.lt_of_lt_of_le h.lt hB.size,hB.keep h.lt h.c0,hB.keep h.lt h.c1,hB.keep h.lt h.c2,hB.keep h.lt h.c3,hB.keep h.lt h.c4,hB.free h.lt h.f0,hB.free h.lt h.f1,hB.free h.lt h.f2,hB.free h.lt h.f3,hB.free h.lt h.f4⟩
theorem A5.block {W W':World} {b:Nat} {n:ANode} {xk xv xp xc:Value} (h:A5 W b n xk xv xp xc) (hl:W.heap.size≤W'.heap.size) (hb:W'.heap[b]? =W.heap[b]?):A5 W' b n xk xv xp xc:=
  ⟨Nat.lt_of_lt_of_le h.lt hl,(World.cell?_of_block hb).trans h.c0,(World.cell?_of_block hb).trans h.c1,(World.cell?_of_block hb).trans h.c2,(World.cell?_of_block hb).trans h.c3,(World.cell?_of_block hb).trans h.c4,
   (World.frozen?_of_block hb).trans h.f0,(World.frozen?_of_block hb).trans h.f1,(World.frozen?_of_block hb).trans h.f2,(World.frozen?_of_block hb).trans h.f3,(World.frozen?_of_block hb).trans h.f4⟩
def sa5 (W:World) (b:Nat) (n:ANode) (xk xv xp xc:Value):World:=(((((W.setCell ⟨b,0,none⟩ (.string (bs n.name))).setCell ⟨b,1,none⟩ xk).setCell ⟨b,2,none⟩ xv).setCell ⟨b,3,none⟩ xp).setCell ⟨b,4,none⟩ xc)
theorem sa5_block (W:World) (b:Nat) (n:ANode) (xk xv xp xc:Value) {k:Nat} (h:k≠b):(sa5 W b n xk xv xp xc).heap[k]? =W.heap[k]? :=by
  unfold sa5
  rw[Below.heap_setCell _ _ _ _ kJ,Below.heap_setCell _ _ _ _ kJ,Below.heap_setCell _ _ _ _ kJ,Below.heap_setCell _ _ _ _ kJ,Below.heap_setCell _ _ _ _ kJ]
theorem A5.put {W:World} {b:Nat} {m n:ANode} {yk yv yp yc xk xv xp xc:Value} (h:A5 W b m yk yv yp yc):A5 (sa5 W b n xk xv xp xc) b n xk xv xp xc:=by
  have hlt:=h.lt
  have c0:=h.c0;have c1:=h.c1;have c2:=h.c2;have c3:=h.c3;have c4:=h.c4
  have f0:=h.f0;have f1:=h.f1;have f2:=h.f2;have f3:=h.f3;have f4:=h.f4
  unfold sa5
  exact⟨by simpa using hlt,by simp[go_sem, *],by simp[go_sem, *],by simp[go_sem, *],by simp[go_sem, *],by simp[go_sem, *],by simp[go_sem, *],by simp[go_sem, *],by simp[go_sem, *],by simp[go_sem, *],by simp[go_sem, *]⟩
theorem Ext.sa5 {a w:World} (h:Ext a w) {b:Nat} (hb:a.heap.size≤b) (n:ANode) (xk xv xp xc:Value):Ext a (sa5 w b n xk xv xp xc):=
  ((((h.set (p:=⟨b,0,none⟩) hb _).set (p:=⟨b,1,none⟩) hb _).set (p:=⟨b,2,none⟩) hb _).set (p:=⟨b,3,none⟩) hb _).set (p:=⟨b,4,none⟩) hb _
theorem load_anode {W:World} {b:Nat} {n:ANode} {xk xv xp xc:Value} (h:A5 W b n xk xv xp xc):(loadVar 32 ⟨b,0,none⟩).run Tryz.prog W= .ok (.agg #[.string (bs n.name),xk,xv,xp,xc]) W:=by
  have c0:=h.c0;have c1:=h.c1;have c2:=h.c2;have c3:=h.c3;have c4:=h.c4
  go_simp
def zeroA:ANode:= .mk [] [] [] [] []
def lastP (la:List Attr) (ks:List Node):List Part→Nat→Int→Int
  | [],_,r=>r
  | a::x,i,r=>lastP la ks x (i+1) (if attrsS a.attrs la=true∧sameL a.kids ks=true then(i:Int)else r)
theorem lastP_range (la:List Attr) (ks:List Node) (m:Nat):∀(x:List Part) (i:Nat) (r:Int),i+x.length≤m→r< m→ -1≤r→lastP la ks x i r< m∧ -1≤lastP la ks x i r
  | [],i,r,_,h,h'=>⟨h,h'⟩
  | a::x,i,r,hi,h,h'=>by
    rw[List.length_cons]at hi
    unfold lastP
    split
    · exact lastP_range la ks m x (i+1) _ kA kA kA
    · exact lastP_range la ks m x (i+1) _ kA h h'
def kidsW (whole:Bool) (n:Node):List Node:=if whole=true then n.kids else []
def addP (whole:Bool) (h:Held) (g:List Part×List (List Int)):List Part×List (List Int):=
  if lastP h.n.attrs (kidsW whole h.n) g.1 0 (-1)< 0 then(g.1++ [⟨[],h.n.attrs,kidsW whole h.n⟩],g.2++ [[h.v]])
  else(g.1,g.2.modify (lastP h.n.attrs (kidsW whole h.n) g.1 0 (-1)).toNat (· ++ [h.v]))
def partsG (whole:Bool):List Held→List Part×List (List Int)→List Part×List (List Int)
  | [],g=>g
  | h::r,g=>partsG whole r (addP whole h g)
def setV:List Part→List (List Int)→List Part
  | p::x,s::y=>⟨spansOf (flOf s),p.attrs,p.kids⟩::setV x y
  | _,_=> []
def partsP (whole:Bool) (l:List Held):List Part:=if 1< (partsG whole l ([],[])).1.length then setV (partsG whole l ([],[])).1 (partsG whole l ([],[])).2 else(partsG whole l ([],[])).1
def stepPos (s:Step) (l:List Step):Nat:=l.findIdx fun x=> !aheadB x s
def addS (s:Step) (h:Held) (g:List Step×List (List Held)):List Step×List (List Held):=
  if stepPos s g.1=g.1.length∨stepB (g.1.getD (stepPos s g.1) ⟨[],[]⟩) s=false then(insAt g.1 (stepPos s g.1) s,insAt g.2 (stepPos s g.1) [h])
  else(g.1,g.2.modify (stepPos s g.1) (· ++ [h]))
def gatherK (v:Int):List Step→List Node→List Step×List (List Held)→List Step×List (List Held)
  | s::ss,k::ks,g=>gatherK v ss ks (addS s ⟨v,k⟩ g)
  | _,_,g=>g
def gather (l:List Rule) (path:List Bytes):List Held→List Step×List (List Held)→List Step×List (List Held)
  | [],g=>g
  | h::r,g=>gather l path r (gatherK h.v (stepsS l path h.n.kids) h.n.kids g)
def ownV (hs:List Held):List Span:=spansOf (flOf (hs.map (·.v)))
def versV (hs:List Held) (above:List Span):List Span:=if spansS (ownV hs) above=true then []else ownV hs
def nodeP (l:List Rule):Nat→List Bytes→Step→List Held→List Span→ANode
  | 0,_,s,hs,above=> .mk s.n s.key (versV hs above) [] []
  | N+1,path,s,hs,above=> .mk s.n s.key (versV hs above) (partsP (frontS l path) hs)
      (if frontS l path=true then []else((gather l path hs ([],[])).1.zip (gather l path hs ([],[])).2).map fun g=>nodeP l N (path++ [g.1.n]) g.1 g.2 (ownV hs))
def heldsOf:List Node→Nat→List Held
  | [],_=> []
  | d::r,i=>⟨(i:Int)+1,d⟩::heldsOf r (i+1)
def rootP (l:List Rule) (nm:Bytes) (ds:List Node):ANode:=if ds= []then zeroA else nodeP l (nszL ds+1) [nm] ⟨nm,[]⟩ (heldsOf ds 0) []
theorem lessB_irrefl:∀x:Bytes,lessB x x=false
  | []=>rfl
  | a::x=>by rw[lessB,if_pos rfl];exact lessB_irrefl x
theorem lessB_trans:∀x y z:Bytes,lessB x y=true→lessB y z=true→lessB x z=true
  | [],[],_,h,_=>by cases h
  | _::_,[],_,h,_=>by cases h
  | _,_::_,[],_,h=>by cases h
  | [],_::_,_::_,_,_=>rfl
  | a::x,b::y,c::z,h,k=>by
    rw[lessB]at h k⊢
    by_cases hab:a=b
    · subst hab
      rw[if_pos rfl]at h
      by_cases hac:a=c
      · subst hac
        rw[if_pos rfl]at k⊢
        exact lessB_trans x y z h k
      · rw[if_neg hac]at k⊢;exact k
    · rw[if_neg hab]at h
      by_cases hbc:b=c
      · subst hbc;rw[if_neg hab];exact h
      · rw[if_neg hbc]at k
        have h1:=of_decide_eq_true h
        have h2:=of_decide_eq_true k
        have hac:a≠c:=by intro e;subst e;omega
        rw[if_neg hac];exact decide_eq_true kA
theorem lessB_total:∀x y:Bytes,x≠y→lessB x y=false→lessB y x=true
  | [],[],h,_=>absurd rfl h
  | [],_::_,_,h=>by cases h
  | _::_,[],_,_=>rfl
  | a::x,b::y,h,k=>by
    rw[lessB]at k⊢
    by_cases hab:a=b
    · subst hab
      rw[if_pos rfl]at k⊢
      exact lessB_total x y (fun e=>h (by rw[e])) k
    · rw[if_neg hab]at k
      rw[if_neg (fun e=>hab e.symm)]
      have h1:=of_decide_eq_false k
      have h2:a.toNat≠b.toNat:=fun e=>hab (UInt8.toNat_inj.1 e)
      exact decide_eq_true kA
theorem lessK_irrefl:∀x:List Bytes,lessK x x=false
  | []=>rfl
  | a::x=>by rw[lessK,if_pos rfl];exact lessK_irrefl x
theorem lessK_trans:∀x y z:List Bytes,lessK x y=true→lessK y z=true→lessK x z=true
  | [],[],_,h,_=>by cases h
  | _::_,[],_,h,_=>by cases h
  | _,_::_,[],_,h=>by cases h
  | [],_::_,_::_,_,_=>rfl
  | a::x,b::y,c::z,h,k=>by
    rw[lessK]at h k⊢
    by_cases hab:a=b
    · subst hab
      rw[if_pos rfl]at h
      by_cases hac:a=c
      · subst hac
        rw[if_pos rfl]at k⊢
        exact lessK_trans x y z h k
      · rw[if_neg hac]at k⊢;exact k
    · rw[if_neg hab]at h
      by_cases hbc:b=c
      · subst hbc;rw[if_neg hab];exact h
      · rw[if_neg hbc]at k
        have hac:a≠c:=by
          intro e;subst e
          have:=lessB_trans a b a h k
          rw[lessB_irrefl]at this;cases this
        rw[if_neg hac];exact lessB_trans a b c h k
theorem lessK_total:∀x y:List Bytes,x≠y→lessK x y=false→lessK y x=true
  | [],[],h,_=>absurd rfl h
  | [],_::_,_,h=>by cases h
  | _::_,[],_,_=>rfl
  | a::x,b::y,h,k=>by
    rw[lessK]at k⊢
    by_cases hab:a=b
    · subst hab
      rw[if_pos rfl]at k⊢
      exact lessK_total x y (fun e=>h (by rw[e])) k
    · rw[if_neg hab]at k
      rw[if_neg (fun e=>hab e.symm)]
      exact lessB_total a b hab k
theorem aheadB_irrefl (x:Step):aheadB x x=false:=by unfold aheadB;rw[if_pos rfl];exact lessK_irrefl _
theorem aheadB_trans (x y z:Step) (h:aheadB x y=true) (k:aheadB y z=true):aheadB x z=true:=by
  unfold aheadB at*
  by_cases hab:x.n=y.n
  · rw[if_pos hab]at h
    by_cases hbc:y.n=z.n
    · rw[if_pos hbc]at k;rw[if_pos (hab.trans hbc)];exact lessK_trans _ _ _ h k
    · rw[if_neg hbc]at k;rw[if_neg (by rw[hab];exact hbc),hab];exact k
  · rw[if_neg hab]at h
    by_cases hbc:y.n=z.n
    · rw[if_neg (by rw[←hbc];exact hab),←hbc];exact h
    · rw[if_neg hbc]at k
      have hac:x.n≠z.n:=by
        intro e
        have:=lessB_trans _ _ _ h k
        rw[e,lessB_irrefl]at this;cases this
      rw[if_neg hac];exact lessB_trans _ _ _ h k
theorem aheadB_total (x y:Step) (h:x≠y) (k:aheadB x y=false):aheadB y x=true:=by
  unfold aheadB at*
  by_cases hab:x.n=y.n
  · rw[if_pos hab]at k
    rw[if_pos hab.symm]
    refine lessK_total _ _ (fun e=>h ?_) k
    cases x;cases y;simp_all
  · rw[if_neg hab]at k
    rw[if_neg (fun e=>hab e.symm)]
    exact lessB_total _ _ hab k
theorem aheadB_asymm (x y:Step) (h:aheadB x y=true):aheadB y x=false:=by
  cases k:aheadB y x with
  | false=>rfl
  | true=>have:=aheadB_trans _ _ _ h k;rw[aheadB_irrefl]at this;cases this
def Rising (l:List Step):Prop:=l.Pairwise fun a b=>aheadB a b=true
theorem insAt_cons {α:Type} (a:α) (l:List α) (n:Nat) (x:α):insAt (a::l) (n+1) x=a::insAt l n x:=by simp[insAt]
theorem insAt_zero {α:Type} (l:List α) (x:α):insAt l 0 x=x::l:=by simp[insAt]
theorem mem_insAt {α:Type} (l:List α) (n:Nat) (x y:α):y∈insAt l n x↔y=x∨y∈l:=by
  unfold insAt
  rw[List.mem_append,List.mem_cons]
  constructor
  · rintro(h | h | h)
    · exact .inr (List.mem_of_mem_take h)
    · exact .inl h
    · exact .inr (List.mem_of_mem_drop h)
  · rintro(h | h)
    · exact .inr (.inl h)
    · rw[←List.take_append_drop n l,List.mem_append]at h
      rcases h with h | h
      · exact .inl h
      · exact .inr (.inr h)
theorem stepPos_cons (s a:Step) (l:List Step):stepPos s (a::l)=if aheadB a s=true then stepPos s l+1 else 0:=by
  unfold stepPos
  rw[List.findIdx_cons]
  cases aheadB a s<;> simp
theorem stepPos_le (s:Step):∀l,stepPos s l≤l.length
  | []=>by simp[stepPos]
  | a::l=>by rw[stepPos_cons];have:=stepPos_le s l;split<;> simp<;> omega
theorem stepPos_mem (s:Step):∀l,Rising l→s∈l→stepPos s l< l.length∧∀h:stepPos s l< l.length,l[stepPos s l]=s
  | [],_,h=>by cases h
  | a::l,hr,h=>by
    rw[Rising,List.pairwise_cons]at hr
    have hp:=stepPos_cons s a l
    by_cases ha:a=s
    · subst ha
      rw[aheadB_irrefl]at hp
      simp only[Bool.false_eq_true,if_false]at hp
      rw[hp];simp
    · have hm:s∈l:=by rcases List.mem_cons.1 h with h | h;exact absurd h.symm ha;exact h
      rw[if_pos (hr.1 s hm)]at hp
      obtain⟨h1,h2⟩:=stepPos_mem s l hr.2 hm
      rw[hp]
      refine⟨by simpa using h1,fun _=> ?_⟩
      simpa using h2 h1
theorem stepPos_new (s:Step):∀l,Rising l→s∉l→Rising (insAt l (stepPos s l) s)
  | [],_,_=>by simp[Rising,insAt]
  | a::l,hr,h=>by
    have hr':=hr
    rw[Rising,List.pairwise_cons]at hr
    have hp:=stepPos_cons s a l
    have ha:a≠s:=fun e=>h (by rw[e];exact List.mem_cons_self)
    by_cases hb:aheadB a s=true
    · rw[if_pos hb]at hp
      rw[hp,insAt_cons,Rising,List.pairwise_cons]
      refine⟨fun y hy=> ?_,stepPos_new s l hr.2 (fun hm=>h (List.mem_cons_of_mem _ hm))⟩
      rcases (mem_insAt _ _ _ _).1 hy with h1 | h1
      · rw[h1];exact hb
      · exact hr.1 y h1
    · rw[if_neg hb]at hp
      rw[hp,insAt_zero,Rising,List.pairwise_cons]
      have hsa:=aheadB_total a s ha (by simpa using hb)
      refine⟨fun y hy=> ?_,hr'⟩
      rcases List.mem_cons.1 hy with h1 | h1
      · rw[h1];exact hsa
      · exact aheadB_trans _ _ _ hsa (hr.1 y h1)
theorem insAt_len' {α:Type} (l:List α) (n:Nat) (x:α):(insAt l n x).length=l.length+1:=by
  unfold insAt;rw[List.length_append,List.length_cons,List.length_take,List.length_drop];omega
theorem insAt_zip {α β:Type}:∀(l:List α) (m:List β) (n:Nat) (x:α) (y:β),l.length=m.length→n≤l.length→(insAt l n x).zip (insAt m n y)=insAt (l.zip m) n (x,y)
  | l,m,0,x,y,_,_=>by rw[insAt_zero,insAt_zero,insAt_zero,List.zip_cons_cons]
  | [],_,n+1,_,_,_,h=>by simp at h
  | _::_,[],_+1,_,_,h,_=>by simp at h
  | a::l,b::m,n+1,x,y,h,hn=>by rw[insAt_cons,insAt_cons,List.zip_cons_cons,List.zip_cons_cons,insAt_cons,insAt_zip l m n x y kJ (by simpa using hn)]
instance stepDec:DecidableEq Step:=fun a b=>decidable_of_iff _ (stepB_iff a b)
structure GInv (g:List Step×List (List Held)) (F:Step→List Held):Prop where
  rise:Rising g.1
  len:g.1.length=g.2.length
  eq:∀p∈g.1.zip g.2,p.2=F p.1
  iff:∀s,F s≠ []↔s∈g.1
theorem zip_modify_ne {β:Type} (f:β→β):∀(l:List Step) (m:List β) (n:Nat) (p:Step×β),Rising l→p∈l.zip (m.modify n f)→(p∈l.zip m∧∀h:n< l.length,p.1≠l[n])∨∃h:n< l.length,∃h':n< m.length,p=(l[n],f m[n])
  | [],_,_,_,_,h=>by simp at h
  | _::_,[],n,_,_,h=>by cases n<;> simp at h
  | a::l,b::m,0,p,hr,h=>by
    rw[Rising,List.pairwise_cons]at hr
    rw[List.modify_zero_cons,List.zip_cons_cons,List.mem_cons]at h
    rcases h with h | h
    · exact .inr ⟨by simp,by simp,h⟩
    · refine .inl ⟨by rw[List.zip_cons_cons];exact List.mem_cons_of_mem _ h,fun _ e=> ?_⟩
      have h1:=hr.1 p.1 (List.of_mem_zip h).1
      rw[e]at h1
      have h2:aheadB a a=true:=by simpa using h1
      rw[aheadB_irrefl]at h2;cases h2
  | a::l,b::m,n+1,p,hr,h=>by
    rw[Rising,List.pairwise_cons]at hr
    rw[List.modify_succ_cons,List.zip_cons_cons,List.mem_cons]at h
    rcases h with h | h
    · refine .inl ⟨by rw[List.zip_cons_cons];exact List.mem_cons.2 (.inl h),fun h' e=> ?_⟩
      have h1:aheadB a (l[n]'(by simpa using h'))=true:=hr.1 _ (List.getElem_mem _)
      rw[h]at e
      simp only[List.getElem_cons_succ]at e
      rw[←e,aheadB_irrefl]at h1;cases h1
    · rcases zip_modify_ne f l m n p hr.2 h with⟨h1,h2⟩ | ⟨h1,h2,h3⟩
      · exact .inl ⟨by rw[List.zip_cons_cons];exact List.mem_cons_of_mem _ h1,fun h' e=>h2 (by simpa using h') (by simpa using e)⟩
      · exact .inr ⟨by simpa using h1,by simpa using h2,by simpa using h3⟩
theorem addS_inv (s:Step) (h:Held) (g:List Step×List (List Held)) (F:Step→List Held) (hg:GInv g F):GInv (addS s h g) (fun t=>if t=s then F s++ [h]else F t):=by
  obtain⟨S,L⟩:=g
  obtain⟨hr,hl,he,hi⟩:=hg
  simp only at hr hl he hi
  have hle:=stepPos_le s S
  by_cases hm:s∈S
  · obtain⟨h1,h2⟩:=stepPos_mem s S hr hm
    have h3:=h2 h1
    have hc:¬(stepPos s S=S.length∨stepB (S.getD (stepPos s S) ⟨[],[]⟩) s=false):=by
      rintro(h | h)
      · omega
      · rw[List.getD_eq_getElem?_getD,List.getElem?_eq_getElem h1,Option.getD_some,h3,(stepB_iff s s).2 rfl]at h;cases h
    have hadd:addS s h (S,L)=(S,L.modify (stepPos s S) (· ++ [h])):=by unfold addS;rw[if_neg hc]
    rw[hadd]
    refine⟨hr,by simpa using hl,fun p hp=> ?_,fun t=> ?_⟩
    · simp only at hp
      rcases zip_modify_ne _ S L _ p hr hp with⟨h4,h5⟩ | ⟨h4,h5,h6⟩
      · rw[if_neg (by rw[←h3];exact h5 h1)];exact he p h4
      · have h7:p.1=s:=by rw[h6];exact h3
        rw[if_pos h7,h6]
        have h8:=he (S[stepPos s S],L[stepPos s S]) (by
          have:=List.getElem_mem (l:=S.zip L) (n:=stepPos s S) (by rw[List.length_zip];omega)
          rw[List.getElem_zip]at this;exact this)
        simp only at h8⊢
        rw[h8,h3]
    · by_cases ht:t=s
      · subst ht;simp[hm]
      · rw[if_neg ht];exact hi t
  · have hF:F s= []:=by
      by_cases hFe:F s= []
      · exact hFe
      · exact absurd ((hi s).1 hFe) hm
    have hc:stepPos s S=S.length∨stepB (S.getD (stepPos s S) ⟨[],[]⟩) s=false:=by
      by_cases h1:stepPos s S< S.length
      · right
        rw[List.getD_eq_getElem?_getD,List.getElem?_eq_getElem h1,Option.getD_some]
        cases hb:stepB S[stepPos s S] s with
        | false=>rfl
        | true=>exact absurd (by rw[←(stepB_iff _ _).1 hb];exact List.getElem_mem _) hm
      · left;omega
    have hadd:addS s h (S,L)=(insAt S (stepPos s S) s,insAt L (stepPos s S) [h]):=by unfold addS;rw[if_pos hc]
    rw[hadd]
    refine⟨stepPos_new s S hr hm,by simp only[insAt_len'];omega,fun p hp=> ?_,fun t=> ?_⟩
    · simp only at hp
      rw[insAt_zip S L _ s [h] hl hle]at hp
      rcases (mem_insAt _ _ _ _).1 hp with h1 | h1
      · rw[h1,if_pos rfl,hF];rfl
      · have h2:p.1≠s:=fun e=>hm (by rw[←e];exact(List.of_mem_zip h1).1)
        rw[if_neg h2];exact he p h1
    · rw[mem_insAt]
      by_cases ht:t=s
      · subst ht;simp
      · rw[if_neg ht];simp[ht,hi t]
def selK (t:Step) (v:Int):List Step→List Node→List Held
  | s::ss,k::ks=>(if t=s then [⟨v,k⟩]else [])++selK t v ss ks
  | _,_=> []
theorem gatherK_inv (v:Int):∀(ss:List Step) (ks:List Node) (g:List Step×List (List Held)) (F:Step→List Held),GInv g F→GInv (gatherK v ss ks g) (fun t=>F t++selK t v ss ks)
  | s::ss,k::ks,g,F,hg=>by
    have h1:=gatherK_inv v ss ks _ _ (addS_inv s ⟨v,k⟩ g F hg)
    rw[gatherK]
    have e:(fun t=>F t++selK t v (s::ss) (k::ks))=(fun t=>(fun t=>if t=s then F s++ [⟨v,k⟩]else F t) t++selK t v ss ks):=by
      funext t
      simp only[selK]
      by_cases ht:t=s
      · subst ht;simp
      · simp[ht]
    rw[e];exact h1
  | [],ks,g,F,hg=>by
    have e:(fun t=>F t++selK t v [] ks)=F:=by funext t;simp[selK]
    rw[e];exact hg
  | s::ss,[],g,F,hg=>by
    have e:(fun t=>F t++selK t v (s::ss) [])=F:=by funext t;simp[selK]
    rw[e];exact hg
def selH (l:List Rule) (path:List Bytes) (t:Step):List Held→List Held
  | []=> []
  | h::r=>selK t h.v (stepsS l path h.n.kids) h.n.kids++selH l path t r
theorem gather_inv (l:List Rule) (path:List Bytes):∀(hs:List Held) (g:List Step×List (List Held)) (F:Step→List Held),GInv g F→GInv (gather l path hs g) (fun t=>F t++selH l path t hs)
  | [],g,F,hg=>by
    have e:(fun t=>F t++selH l path t [])=F:=by funext t;simp[selH]
    rw[e];exact hg
  | h::r,g,F,hg=>by
    have h1:=gather_inv l path r _ _ (gatherK_inv h.v (stepsS l path h.n.kids) h.n.kids g F hg)
    have e:(fun t=>F t++selH l path t (h::r))=(fun t=>(F t++selK t h.v (stepsS l path h.n.kids) h.n.kids)++selH l path t r):=by funext t;simp[selH]
    rw[e];exact h1
theorem gather_all (l:List Rule) (path:List Bytes) (hs:List Held):GInv (gather l path hs ([],[])) (fun t=>selH l path t hs):=by
  have h0:GInv ([],[]) (fun _=> []):=⟨List.Pairwise.nil,rfl,fun p hp=>by simp at hp,fun s=>by simp⟩
  have h1:=gather_inv l path hs _ _ h0
  simpa using h1
theorem spansV_nil (f:Nat→Bool):∀(k v:Nat),201 - v≤k→spansV f k v= []→∀j,v≤j→j≤200→f j=false
  | 0,v,h,_,j,h1,h2=>by omega
  | k+1,v,h,e,j,h1,h2=>by
    unfold spansV at e
    rw[if_pos kA]at e
    split at e
    · cases e
    · rename_i hf
      by_cases hj:j=v
      · subst hj;simpa using hf
      · exact spansV_nil f k (v+1) kA e j kA h2
theorem spansOf_ne (L:List Int) (v:Int) (hv:v∈L) (h1:1≤v) (h2:v≤200):spansOf (flOf L)≠ []:=by
  intro e
  have h:=spansV_nil (flOf L) 200 1 kA e v.toNat kA kA
  unfold flOf at h
  have h3:=of_decide_eq_false h
  refine h3 ⟨by omega,by omega,?_⟩
  rw[Int.toNat_of_nonneg kA];exact hv
theorem findS_none (path:List Bytes):∀(l:List Rule) (i:Nat),(∀r∈l,r.path≠path)→findS path l i= -1
  | [],_,_=>rfl
  | r::l,i,h=>by
    have h1:¬textsS r.path path=true:=fun e=>h r List.mem_cons_self ((textsS_iff _ _).1 e)
    rw[findS,if_neg h1]
    exact findS_none path l (i+1) fun r hr=>h r (List.mem_cons_of_mem _ hr)
theorem front_find (l:List Rule) (path:List Bytes) (nm:Bytes) (h:frontS l path=true):findS (path++ [nm]) l 0< 0:=by
  unfold frontS at h
  rw[Bool.and_eq_true]at h
  rw[findS_none]
  · omega
  · intro r hr e
    have h1:aboveS path l=true:=by
      unfold aboveS
      rw[List.any_eq_true]
      refine⟨r,hr,?_⟩
      rw[Bool.and_eq_true,textsS_iff,e]
      exact⟨decide_eq_true kI,by simp⟩
    rw[h1]at h
    simp at h
theorem front_steps (l:List Rule) (path:List Bytes) (h:frontS l path=true):∀ks,stepsS l path ks= []
  | []=>rfl
  | k::r=>by rw[stepsS,if_pos (front_find l path k.name h)];exact front_steps l path h r
mutual
def wfN (l:List Rule):Node→List Bytes→Prop
  | .mk k _ _ _ ks,path=>k=1∧(frontS l path=false→(stepsS l path ks).length=ks.length∧Rising (stepsS l path ks)∧wfL l ks path)
def wfL (l:List Rule):List Node→List Bytes→Prop
  | [],_=>True
  | k::r,path=>wfN l k (path++ [k.name])∧wfL l r path
end
theorem wfN_eq (l:List Rule) (n:Node) (path:List Bytes):wfN l n path↔n.kind=1∧(frontS l path=false→(stepsS l path n.kids).length=n.kids.length∧Rising (stepsS l path n.kids)∧wfL l n.kids path):=by
  cases n;rw[wfN];rfl
theorem wfL_mem (l:List Rule) (path:List Bytes):∀(ks:List Node) (k:Node),wfL l ks path→k∈ks→wfN l k (path++ [k.name])
  | [],_,_,h=>by cases h
  | a::r,k,h,hk=>by
    rw[wfL]at h
    rcases List.mem_cons.1 hk with e | hk
    · rw[e];exact h.1
    · exact wfL_mem l path r k h.2 hk
def lookK (t:Step):List Step→List Node→Option Node
  | s::ss,k::ks=>if t=s then some k else lookK t ss ks
  | _,_=>none
theorem lookK_none_of (t:Step):∀(ss:List Step) (ks:List Node),t∉ss→lookK t ss ks=none
  | [],_,_=>by cases ‹List Node›<;> rfl
  | _::_,[],_=>rfl
  | s::ss,k::ks,h=>by
    rw[lookK,if_neg (fun e=>h (by rw[e];exact List.mem_cons_self))]
    exact lookK_none_of t ss ks fun hm=>h (List.mem_cons_of_mem _ hm)
theorem rising_head {a:Step} {l:List Step} (h:Rising (a::l)):a∉l:=by
  intro hm
  rw[Rising,List.pairwise_cons]at h
  have:=h.1 a hm
  rw[aheadB_irrefl]at this;cases this
theorem rising_tail {a:Step} {l:List Step} (h:Rising (a::l)):Rising l:=by
  rw[Rising,List.pairwise_cons]at h;exact h.2
theorem selK_none (t:Step) (v:Int):∀(ss:List Step) (ks:List Node),t∉ss→selK t v ss ks= []
  | [],_,_=>by cases ‹List Node›<;> rfl
  | _::_,[],_=>rfl
  | s::ss,k::ks,h=>by
    rw[selK,if_neg (fun e=>h (by rw[e];exact List.mem_cons_self)),selK_none t v ss ks fun hm=>h (List.mem_cons_of_mem _ hm)]
    rfl
theorem selK_look (t:Step) (v:Int):∀(ss:List Step) (ks:List Node),Rising ss→selK t v ss ks=((lookK t ss ks).map fun k=>(⟨v,k⟩:Held)).toList
  | [],_,_=>by cases ‹List Node›<;> rfl
  | _::_,[],_=>rfl
  | s::ss,k::ks,h=>by
    rw[selK,lookK]
    by_cases e:t=s
    · subst e
      rw[if_pos rfl,if_pos rfl,selK_none t v ss ks (rising_head h)];rfl
    · rw[if_neg e,if_neg e,List.nil_append]
      exact selK_look t v ss ks (rising_tail h)
theorem lastAt_none (t:Step):∀(ss:List Step) (i:Nat) (r:Int),t∉ss→lastAt t ss i r=r
  | [],_,_,_=>rfl
  | s::ss,i,r,h=>by
    have h1:¬stepB s t=true:=fun e=>h (by rw[(stepB_iff s t).1 e];exact List.mem_cons_self)
    rw[lastAt,if_neg h1]
    exact lastAt_none t ss (i+1) r fun hm=>h (List.mem_cons_of_mem _ hm)
theorem lastAt_look (t:Step):∀(ss:List Step) (ks:List Node) (i:Nat) (r:Int),Rising ss→ss.length=ks.length→
    (lookK t ss ks=none→lastAt t ss i r=r)∧∀k,lookK t ss ks=some k→∃j:Nat,lastAt t ss i r=((i+j:Nat):Int)∧ks[j]? =some k∧ss[j]? =some t
  | [],ks,i,r,_,_=>⟨fun _=>rfl,fun k h=>by cases ks<;> cases h⟩
  | s::ss,[],i,r,_,h=>by cases h
  | s::ss,k::ks,i,r,h,hl=>by
    rw[lookK,lastAt]
    by_cases e:t=s
    · subst e
      rw[if_pos rfl,if_pos ((stepB_iff t t).2 rfl),lastAt_none t ss _ _ (rising_head h)]
      refine⟨fun h=>(by cases h),fun k' h'=>⟨0,by simp,?_,rfl⟩⟩
      cases h';rfl
    · rw[if_neg e,if_neg (fun h=>e ((stepB_iff s t).1 h).symm)]
      obtain⟨h1,h2⟩:=lastAt_look t ss ks (i+1) r (rising_tail h) (by simpa using hl)
      refine⟨h1,fun k' hk'=> ?_⟩
      obtain⟨j,hj,hkj,hsj⟩:=h2 k' hk'
      exact⟨j+1,by rw[hj];congr 1;omega,by simpa using hkj,by simpa using hsj⟩
theorem steps_name (l:List Rule) (path:List Bytes):∀(ks:List Node),(stepsS l path ks).length=ks.length→∀(j:Nat) (s:Step) (k:Node),(stepsS l path ks)[j]? =some s→ks[j]? =some k→s.n=k.name
  | [],_,j,s,k,_,h=>by simp at h
  | a::r,hl,j,s,k,hs,hk=>by
    rw[stepsS]at hl hs
    by_cases hf:findS (path++ [a.name]) l 0< 0
    · rw[if_pos hf,List.length_cons]at hl
      have:=stepsS_len l path r;omega
    · rw[if_neg hf]at hl hs
      match j with
      | 0=>simp at hs hk;rw[←hs,←hk]
      | j+1=>exact steps_name l path r (by simpa using hl) j s k (by simpa using hs) (by simpa using hk)
theorem walkF_step (l:List Rule) (n:Node) (path:List Bytes) (t:Step) (r:List Step) (i:Nat) (hw:wfN l n path):
    (lookK t (stepsS l path n.kids) n.kids=none→walkF l n path (t::r) i=(zeroN,i))∧
    ∀k,lookK t (stepsS l path n.kids) n.kids=some k→k∈n.kids∧k.name=t.n∧walkF l n path (t::r) i=walkF l k (path++ [t.n]) r (i+1):=by
  rw[wfN_eq]at hw
  rw[walkF]
  cases hf:frontS l path with
  | true=>
    rw[front_steps l path hf]
    refine⟨fun _=>(by rw[if_pos (by rw[lastAt];omega)]),fun k h=>(by cases hk:n.kids<;> rw[hk]at h<;> cases h)⟩
  | false=>
    obtain⟨hl,hr,_⟩:=hw.2 hf
    obtain⟨h1,h2⟩:=lastAt_look t _ n.kids 0 (-1) hr hl
    refine⟨fun h=>by rw[h1 h,if_pos kD],fun k h=> ?_⟩
    obtain⟨j,hj,hkj,hsj⟩:=h2 k h
    have hn:=steps_name l path n.kids hl j t k hsj hkj
    have hka:kidAt l n path t=k:=by unfold kidAt;rw[hj,Nat.zero_add,Int.toNat_natCast,List.getD_eq_getElem?_getD,hkj];rfl
    refine⟨List.mem_of_getElem? hkj,hn.symm,?_⟩
    rw[hj,if_neg kA,hka,hn]
theorem nodeP_vers (l:List Rule) (N:Nat) (path:List Bytes) (s:Step) (hs:List Held) (above:List Span):(nodeP l N path s hs above).vers=versV hs above:=by cases N<;> rfl
theorem nodeP_kids (l:List Rule) (N:Nat) (path:List Bytes) (s:Step) (hs:List Held) (above:List Span):(nodeP l (N+1) path s hs above).kids=if frontS l path=true then []else((gather l path hs ([],[])).1.zip (gather l path hs ([],[])).2).map fun g=>nodeP l N (path++ [g.1.n]) g.1 g.2 (ownV hs):=rfl
theorem ownV_ne (hs:List Held) (h0:hs≠ []) (hv:∀h∈hs,1≤h.v∧h.v≤200):ownV hs≠ []:=by
  obtain⟨h,hm⟩:=List.exists_mem_of_ne_nil hs h0
  exact spansOf_ne _ h.v (List.mem_map.2 ⟨h,hm,rfl⟩) (hv h hm).1 (hv h hm).2
theorem selH_mem (l:List Rule) (path:List Bytes) (t:Step):∀(hs:List Held),(∀h∈hs,Rising (stepsS l path h.n.kids))→∀g,g∈selH l path t hs↔∃h∈hs,lookK t (stepsS l path h.n.kids) h.n.kids=some g.n∧g.v=h.v
  | [],_,g=>by simp[selH]
  | h::r,hr,g=>by
    rw[selH,List.mem_append,selK_look _ _ _ _ (hr h List.mem_cons_self),selH_mem l path t r (fun h hm=>hr h (List.mem_cons_of_mem _ hm)) g]
    constructor
    · rintro(h1 | ⟨h',h1,h2⟩)
      · simp only[Option.mem_toList,Option.map_eq_some_iff]at h1
        obtain⟨k,hk,rfl⟩:=h1
        exact⟨h,List.mem_cons_self,hk,rfl⟩
      · exact⟨h',List.mem_cons_of_mem _ h1,h2⟩
    · rintro⟨h',h1,h2,h3⟩
      rcases List.mem_cons.1 h1 with e | h1
      · subst e
        left
        simp only[Option.mem_toList,Option.map_eq_some_iff]
        exact⟨g.n,h2,by cases g;simp at h3;rw[h3]⟩
      · exact .inr ⟨h',h1,h2,h3⟩
theorem selH_filter (l:List Rule) (path:List Bytes) (t:Step) (P P':Held→Bool):∀(hs:List Held),(∀h∈hs,Rising (stepsS l path h.n.kids)∧(lookK t (stepsS l path h.n.kids) h.n.kids=none→P h=false)∧∀k,lookK t (stepsS l path h.n.kids) h.n.kids=some k→P' ⟨h.v,k⟩=P h)→
    ((selH l path t hs).filter P').map (·.v)=(hs.filter P).map (·.v)
  | [],_=>rfl
  | h::r,hh=>by
    obtain⟨h1,h2,h3⟩:=hh h List.mem_cons_self
    rw[selH,List.filter_append,List.map_append,selH_filter l path t P P' r (fun h hm=>hh h (List.mem_cons_of_mem _ hm)),selK_look _ _ _ _ h1,List.filter_cons]
    cases hk:lookK t (stepsS l path h.n.kids) h.n.kids with
    | none=>rw[h2 hk];rfl
    | some k=>
      have h4:=h3 k hk
      simp only[Option.map_some,Option.toList_some,List.filter_cons,List.filter_nil,h4]
      cases P h<;> rfl
theorem nsz_pos (n:Node):1≤nsz n:=by cases n;rw[nsz];omega
theorem nsz_mem (n k:Node) (h:k∈n.kids):nsz k< nsz n:=by
  obtain⟨i,hi,rfl⟩:=List.mem_iff_getElem.1 h
  exact kid_lt n i hi
theorem countP_pos (s:Step):∀(l:List Step),Rising l→l.countP (fun x=>aheadB x s)=stepPos s l
  | [],_=>rfl
  | a::l,h=>by
    rw[stepPos_cons,List.countP_cons]
    by_cases ha:aheadB a s=true
    · rw[if_pos ha,if_pos ha,countP_pos s l (rising_tail h)]
    · rw[if_neg ha,if_neg ha,Nat.add_zero]
      rw[List.countP_eq_zero]
      intro x hx hxs
      rw[Rising,List.pairwise_cons]at h
      exact ha (aheadB_trans _ _ _ (h.1 x hx) hxs)
theorem stepsS_all (l:List Rule) (path:List Bytes):∀(a:List Node),(∀k∈a,¬findS (path++ [k.name]) l 0< 0)→stepsS l path a=a.map fun k=>(⟨k.name,(keyS k (l.getD (findS (path++ [k.name]) l 0).toNat noRule).keys).getD []⟩:Step)
  | [],_=>rfl
  | k::r,h=>by
    rw[stepsS,if_neg (h k List.mem_cons_self),stepsS_all l path r fun k hk=>h k (List.mem_cons_of_mem _ hk)];rfl
theorem wfL_of (l:List Rule) (path:List Bytes):∀(ks:List Node),(∀k∈ks,wfN l k (path++ [k.name]))→wfL l ks path
  | [],_=>trivial
  | k::r,h=>⟨h k List.mem_cons_self,wfL_of l path r fun k hk=>h k (List.mem_cons_of_mem _ hk)⟩
theorem map_insAt {α β:Type} (f:α→β) (l:List α) (n:Nat) (x:α):(insAt l n x).map f=insAt (l.map f) n (f x):=by
  unfold insAt;rw[List.map_append,List.map_cons,List.map_take,List.map_drop]
def NInv (l:List Rule) (path:List Bytes) (steps:List Step) (out:List Node):Prop:=
  Rising steps∧(∀k∈out,¬findS (path++ [k.name]) l 0< 0∧wfN l k (path++ [k.name]))∧steps=out.map fun k=>(⟨k.name,(keyS k (l.getD (findS (path++ [k.name]) l 0).toNat noRule).keys).getD []⟩:Step)
end Go.Proofs.YtngmgjodcnknoaaGreatDoor
