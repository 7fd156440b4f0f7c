/-
 The walk of NormOrders. Helper lemmas;no statement of the seat is proved here.
-/
import Derived.Test.YtebhipeeogoagaaGreatDoorU25
import Derived.OpenShut
import Derived.Test.YtebhipeeogoagaaGreatDoorRows
import Derived.Deep.Slices
namespace Go.Proofs.YtebhipeeogoagaaGreatDoor
open Go.RowKit
set_option maxHeartbeats 32000000
set_option maxRecDepth 100000
set_option linter.unusedVariables false
set_option linter.unusedSimpArgs false
theorem attrsS_refl:∀l:List Attr,attrsS l l=true
 | []=>by unfold attrsS;rfl
 | a::x=>by unfold attrsS;simp[attrsS_refl x]
mutual
theorem sameN_refl:∀n:Node,sameN n n=true
 | .mk k nm tx la ks=>by
  rw[sameN]
  simp[attrsS_refl la,sameL_refl ks]
theorem sameL_refl:∀l:List Node,sameL l l=true
 | []=>by rw[sameL]
 | n::r=>by rw[sameL,sameN_refl n,sameL_refl r];rfl
end
theorem elP_code {l:List Rule} {n:Node} {path:List Bytes} {f:Int} {c:Int×Int} (h:elP l n path f= .inl c):c.1≠0:=by
 unfold elP at h
 split at h
 ·
  cases h
 ·
  rename_i h0
  cases h
  exact h0
theorem nrP_code {l:List Rule} {n:Node} {c:Int×Int} (h:nrP l n= .inl c):c.1≠0:=by
 unfold nrP at h
 split at h
 ·
  cases h;decide
 ·
  split at h
  ·
   cases h;decide
  ·
   split at h
   ·
    cases h;decide
   ·
    exact elP_code h
theorem findS_nil:∀(l:List Rule) (i:Nat),(∀r∈l,r.path≠ [])→findS [] l i< 0
 | [],_,_=>by unfold findS;decide
 | r::l,i,h=>by
  unfold findS
  rw[if_neg (fun e=>h r (List.mem_cons_self ..) ((textsS_iff r.path []).1 e))]
  exact findS_nil l (i+1) fun r hr=>h r (List.mem_cons_of_mem _ hr)
theorem findS_head (r:Rule) (l:List Rule) (i:Nat):¬findS r.path (r::l) i< 0:=by
 unfold findS
 rw[if_pos ((textsS_iff r.path r.path).2 rfl)]
 omega
theorem mix_nr (l:List Rule) (n m:Node) (h:nrP l n= .inr m):0< l.length∧nrP l (mixN l n (l.getD 0 noRule).path)= .inr m:=by
 unfold nrP at h
 split at h
 ·
  cases h
 ·
  rename_i h1
  have hm:mayP l=true:=by simpa using h1
  obtain⟨hl,hne⟩:=mayP_ne hm
  refine⟨hl,?_⟩
  split at h
  ·
   cases h
  ·
   rename_i h2
   split at h
   ·
    cases h
   ·
    rename_i h3
    obtain⟨hk,hf⟩:=Classical.not_not.1 h2
    obtain⟨r,l',rfl⟩:∃r l',l=r::l':=by
     cases l with
     | nil=>exact absurd hl (Nat.lt_irrefl 0)
     | cons r l'=>exact⟨r,l',rfl⟩
    have hP:((r::l').getD 0 noRule).path=r.path:=rfl
    have hmf:=mix_fair (by kernel_rfl) (r::l') (nsz n) n r.path (Nat.le_refl _) hf
    have hc:(normN (r::l') n r.path 0).2.1=0:=by
     unfold elP at h
     split at h
     ·
      assumption
     ·
      cases h
    have hmn:=mix_norm (r::l') (findS_nil _ _ hne) (nsz n) n r.path 0 0 (Nat.le_refl _) (fair_nd n hf) (findS_head r l' 0) hc
    unfold nrP
    rw[if_neg h1,hP]
    have hmk:(mixN (r::l') n r.path).kind=1:=by rw[mixN_eq];exact hk
    have hmm:(mixN (r::l') n r.path).name=n.name:=by rw[mixN_eq];rfl
    rw[if_neg (fun e=>e ⟨hmk,hmf⟩),hmm,if_neg (by rw[hP]at h3;exact h3)]
    rw[hP]at h
    unfold elP at h⊢
    rw[hmn]
    exact h
theorem exec_ridx0 {ev:Operand→Value} {oi:Oper} {x lo:Operand} {b o n c:Nat} (ho:oi.op= .indexAddr 22 x lo) (hx:ev x= .slice (some ⟨b,o,none⟩) n c) (hl:ev lo= .int .i64 0) (h:0< n) (W:World):(execOp ev oi).run Tryz.prog W= .ok (.value (.pointer (some ⟨b,o,none⟩))) W:=by
 have h1:(0:Int)< (n:Int):=by omega
 have h0:¬n=0:=by omega
 simp only[execOp,ho,hx,hl]
 simp[go_sem,h1,h0]
theorem norders_walk (l:List Rule) (n:Node) (hb:∀r∈l,r.path.length≤1048576∧r.keys.length≤1048576∧(∀x∈r.path,x.length≤1048576)∧∀x∈r.keys,x.length≤1048576) (hll:l.length≤1048576) (hcnt:cntN n≤1048576) (p q:Nat→Prop) (v va vk:Value) (w:World) (hE:EN w) (hG:GlobE w)
  (h:Rep w q v (rulesD l)) (hva:Rep w p va (attrsD n.attrs)) (hvk:Rep w p vk (nodesD n.kids)):
  Calls Tryz.prog 3 #[v,.agg #[.int .i64 n.kind,.string (bs n.name),.string (bs n.text),va,vk]] w fun e w'=>e= .returned (.bool true)∧Ext w w':=by
 obtain⟨la,lc,rfl,_,_⟩:=h.count z_rule (by omega)
 obtain⟨na,nac,rfl,_,_⟩:=hva.count z_attr (by omega)
 obtain⟨nk,nkc,rfl,_,_⟩:=hvk.count z_node (by omega)
 obtain⟨w1,hw1⟩:∃X,w.alloc (.cells #[.int .i64 n.kind,.string (bs n.name),.string (bs n.text),.slice na n.attrs.length nac,.slice nk n.kids.length nkc] 26)=X:=⟨_,rfl⟩
 obtain⟨t3,ht3⟩:∃t,w.heap.size=t:=⟨_,rfl⟩
 have hE1:Ext w w1:=by rw[←hw1];exact(Ext.refl w).alloc _
 have hb1:w1.heap[t3]? =some (.cells #[.int .i64 n.kind,.string (bs n.name),.string (bs n.text),.slice na n.attrs.length nac,.slice nk n.kids.length nkc] 26 (0,0)):=by rw[←hw1,←ht3];exact Array.getElem?_push_size ..
 have HAW:=Lh (awake_any w1 (hE.ext hE1) (hG.ext hE1))
 have HH:=Lh (show∀W,Ext w W→EN W∧GlobE W∧Rep W q (.slice la l.length lc) (rulesD l)∧Rep W p (.slice na n.attrs.length nac) (attrsD n.attrs)∧Rep W p (.slice nk n.kids.length nkc) (nodesD n.kids) from fun W hX=>⟨hE.ext hX,hG.ext hX,h.ext hX,hva.ext hX,hvk.ext hX⟩)
 have HB1:=Lh (And.intro hE1 hb1)
 clear h hva hvk hE hG hE1 hb1
 go_enter Tryz.func3,Tryz.ntmps3
 go_wp2_with fail
 try rw[ht3]
 refine HAW.out.mono ?_
 rintro e w2 ⟨rfl,hX2⟩
 clear HAW hw1
 have HB2:=Lh (And.intro (HB1.out.1.trans hX2) ((Below.block hX2 t3 (blk_lt HB1.out.2)).trans HB1.out.2))
 have k0:=blk_cell HB2.out.2 (k:=0) rfl;have k1:=blk_cell HB2.out.2 (k:=1) rfl;have k2:=blk_cell HB2.out.2 (k:=2) rfl;have k3:=blk_cell HB2.out.2 (k:=3) rfl;have k4:=blk_cell HB2.out.2 (k:=4) rfl
 have HSM:=Lh (lawsmall_any l n _ _ _ w2 hcnt (HH.out w2 HB2.out.1).2.2.1 (HH.out w2 HB2.out.1).2.2.2.1 (HH.out w2 HB2.out.1).2.2.2.2)
 clear hX2 HB1
 go_wp2_with fail
 refine HSM.out.mono ?_
 rintro e w3 ⟨⟨b,rfl,hbs⟩,hX3⟩
 clear HSM
 have HB3:=Lh (And.intro (HB2.out.1.trans hX3) ((Below.block hX3 t3 (blk_lt HB2.out.2)).trans HB2.out.2))
 cases b with
 | false=>
  go_wp2_with fail
  go_ret
  exact⟨rfl,HB3.out.1⟩
 | true=>
  have hc2:cntN n≤2000:=hbs rfl
  clear k0 k1 k2 k3 k4 HB2 hX3 hbs
  have k0:=blk_cell HB3.out.2 (k:=0) rfl;have k1:=blk_cell HB3.out.2 (k:=1) rfl;have k2:=blk_cell HB3.out.2 (k:=2) rfl;have k3:=blk_cell HB3.out.2 (k:=3) rfl;have k4:=blk_cell HB3.out.2 (k:=4) rfl
  have HN3:=Lh (normal_any l hb hll n hcnt _ _ _ _ _ w3 (HH.out w3 HB3.out.1).1 (HH.out w3 HB3.out.1).2.2.1 (HH.out w3 HB3.out.1).2.2.2.1 (HH.out w3 HB3.out.1).2.2.2.2)
  obtain⟨R,hR⟩:∃R,nrP l n=R:=⟨_,rfl⟩
  rw[hR]at HN3
  have HR:=Lh hR
  clear hR
  go_wp2_with fail
  refine HN3.out.mono ?_
  rintro e w4 ⟨hr,hX4⟩
  clear HN3
  cases R with
  | inl c=>
   obtain⟨ev,rfl,hev⟩:=hr
   have hc0:=nrP_code HR.out
   have HEV:=Lh hev
   have HX4:=Lh (HB3.out.1.trans hX4)
   clear hev hX4
   have hzv:zeroNV= .agg #[.int .i64 0,.string ⟨#[]⟩,.string ⟨#[]⟩,.slice none 0 0,.slice none 0 0]:=rfl
   rw[hzv]
   have HCO:=Lh (code_any c.1 c.2 _ ev (w4.alloc (.cells #[.int .i64 0,.string ⟨#[]⟩,.string ⟨#[]⟩,.slice none 0 0,.slice none 0 0] 26)) (HH.out _ (HX4.out.alloc _)).2.1 (HEV.out.ext ((Ext.refl w4).alloc _)))
   obtain⟨cc,hcc⟩:∃z,c.1=z:=⟨_,rfl⟩
   rw[hcc]at HCO hc0
   have hcb:(cc !=0)=true:=by rw[bne_iff_ne];exact hc0
   clear hcc hzv
   go_wp2_with fail
   refine HCO.out.mono ?_
   rintro e w5 ⟨rfl,hX5⟩
   go_wp2_with fail
   go_ret
   exact⟨rfl,(HX4.out.alloc _).trans hX5⟩
  | inr m=>
   obtain⟨xa,xk,rfl,hxa,hxk⟩:=hr
   obtain⟨ya,yac,rfl,_,_⟩:=hxa.count z_attr (by omega)
   obtain⟨yk,ykc,rfl,_,_⟩:=hxk.count z_node (by omega)
   obtain⟨hlpos,hmx⟩:=mix_nr l n m HR.out
   obtain⟨P,hP⟩:∃P,(l.getD 0 noRule).path=P:=⟨_,rfl⟩
   rw[hP]at hmx
   obtain⟨M,hM⟩:∃M,mixN l n P=M:=⟨_,rfl⟩
   rw[hM]at hmx
   have hl0:l[0].path=P:=by rw[←hP,List.getD_eq_getElem?_getD,List.getElem?_eq_getElem hlpos];rfl
   have hPl:P.length≤1048576:=by rw[←hl0];exact(hb _ (List.getElem_mem hlpos)).1
   have hMc:cntN M≤1048576:=by have:=mix_cnt l n P;rw[hM]at this;omega
   have hns:=nsz_cnt n
   obtain⟨w5,hw5⟩:∃X,w4.alloc (.cells #[.int .i64 m.kind,.string (bs m.name),.string (bs m.text),.slice ya m.attrs.length yac,.slice yk m.kids.length ykc] 26)=X:=⟨_,rfl⟩
   obtain⟨t5,ht5⟩:∃t,w4.heap.size=t:=⟨_,rfl⟩
   have hE5:Ext w4 w5:=by rw[←hw5];exact(Ext.refl w4).alloc _
   have hb5:w5.heap[t5]? =some (.cells #[.int .i64 m.kind,.string (bs m.name),.string (bs m.text),.slice ya m.attrs.length yac,.slice yk m.kids.length ykc] 26 (0,0)):=by rw[←hw5,←ht5];exact Array.getElem?_push_size ..
   have HCO:=Lh (code_nil w5)
   have HB5:=Lh (And.intro (HB3.out.1.trans (hX4.trans hE5)) (And.intro ((Below.block (hX4.trans hE5) t3 (blk_lt HB3.out.2)).trans HB3.out.2) (And.intro hb5 (And.intro (hxa.ext hE5) (hxk.ext hE5)))))
   have HMX:=Lh (And.intro hmx hM)
   clear hX4 hE5 hb5 hxa hxk k0 k1 k2 k3 k4 HB3 hmx hM hP
   go_wp2_with fail
   try rw[ht5]
   refine HCO.out.mono ?_
   rintro e w6 ⟨rfl,hX6⟩
   clear HCO hw5
   obtain⟨wz,hwz⟩:∃w,w=w6:=⟨_,rfl⟩
   subst hwz
   have hEz:=HB5.out.1.trans hX6
   have hbz:=(Below.block hX6 t3 (blk_lt HB5.out.2.1)).trans HB5.out.2.1
   have hbx:=(Below.block hX6 t5 (blk_lt HB5.out.2.2.1)).trans HB5.out.2.2.1
   have d0:=blk_cell hbz (k:=0) rfl;have d1:=blk_cell hbz (k:=1) rfl;have d2:=blk_cell hbz (k:=2) rfl;have d3:=blk_cell hbz (k:=3) rfl;have d4:=blk_cell hbz (k:=4) rfl
   have hld:=blk_lt hbz
   have hrz:=(HH.out wz hEz).2.2.1
   obtain⟨rb,ro,px,py,rfl,hrl,_,hrp,_,hpx,_⟩:=rule_at hrz 0 hlpos
   rw[hl0]at hpx
   obtain⟨pa,pc,rfl,_,_⟩:=hpx.count z_str (by omega)
   rw[Nat.zero_mul,Nat.add_zero]at hrp
   have HX:=Lh (show∀W:World,Ext wz W→Calls Tryz.prog 8 #[.slice (some ⟨rb,ro,none⟩) l.length lc,.agg #[.int .i64 n.kind,.string (bs n.name),.string (bs n.text),.slice na n.attrs.length nac,.slice nk n.kids.length nkc],.slice pa P.length pc] W fun e w'=>∃(ma:Option Addr) (mac:Nat) (mk:Option Addr) (mkc:Nat),e= .returned (.agg #[.int .i64 M.kind,.string (bs M.name),.string (bs M.text),.slice ma M.attrs.length mac,.slice mk M.kids.length mkc])∧Rep w' (fun b=>W.heap.size≤b) (.slice ma M.attrs.length mac) (attrsD M.attrs)∧Rep w' (fun b=>W.heap.size≤b) (.slice mk M.kids.length mkc) (nodesD M.kids)∧Ext W w' from fun W hX=>by
    refine(mixed_any l n P W _ _ _ _ hcnt (by omega) (hrz.ext hX) (hpx.ext hX) ((HH.out wz hEz).2.2.2.1.ext hX) ((HH.out wz hEz).2.2.2.2.ext hX)).mono ?_
    rintro e w' ⟨⟨xa,xk,rfl,h1,h2⟩,h3⟩
    rw[HMX.out.2]at h1 h2⊢
    obtain⟨a,c,rfl,_,_⟩:=h1.count z_attr (by omega)
    obtain⟨a2,c2,rfl,_,_⟩:=h2.count z_node (by omega)
    exact⟨a,c,a2,c2,rfl,h1,h2,h3⟩)
   have HN:=Lh (show∀(p1 p2:Nat→Prop) (W:World) (ma:Option Addr) (mac:Nat) (mk:Option Addr) (mkc:Nat),Ext wz W→Rep W p1 (.slice ma M.attrs.length mac) (attrsD M.attrs)→Rep W p2 (.slice mk M.kids.length mkc) (nodesD M.kids)→Calls Tryz.prog 6 #[.slice (some ⟨rb,ro,none⟩) l.length lc,.agg #[.int .i64 M.kind,.string (bs M.name),.string (bs M.text),.slice ma M.attrs.length mac,.slice mk M.kids.length mkc]] W fun e w'=>∃(xa:Option Addr) (xac:Nat) (xk:Option Addr) (xkc:Nat),e= .returned (.tuple #[.agg #[.int .i64 m.kind,.string (bs m.name),.string (bs m.text),.slice xa m.attrs.length xac,.slice xk m.kids.length xkc],.nilIface])∧Rep w' (fun b=>W.heap.size≤b) (.slice xa m.attrs.length xac) (attrsD m.attrs)∧Rep w' (fun b=>W.heap.size≤b) (.slice xk m.kids.length xkc) (nodesD m.kids)∧Ext W w' from
    fun p1 p2 W ma mac mk mkc hX h1 h2=>norm_ok l hb hll M m hMc HMX.out.1 (fun _=>True) q _ _ _ W (HH.out W (hEz.trans hX)).1 (hrz.ext hX) (h1.ok fun _ _=>trivial) (h2.ok fun _ _=>trivial))
   have HQ:=Lh (And.intro hEz (And.intro hbx (And.intro (HB5.out.2.2.2.1.ext hX6) (HB5.out.2.2.2.2.ext hX6))))
   clear hEz hbz hbx hX6 HB5 hrz hpx
   go_wp2_with fail
   refine region_merge (fun ac ac' w'=>∃(b3:Nat) (xa:Option Addr) (xk:Option Addr) (xac:Nat) (xkc:Nat) (ma:Option Addr) (mac:Nat) (mk:Option Addr) (mkc:Nat),ac'=((((((((((((((ac.put (some 25) (.slice (some ⟨rb,ro,none⟩) l.length lc)).put (some 26) (.slice (some ⟨rb,ro,none⟩) l.length lc)).put (some 27) (.agg #[.int .i64 n.kind,.string (bs n.name),.string (bs n.text),.slice na n.attrs.length nac,.slice nk n.kids.length nkc])).put (some 28) (.slice (some ⟨rb,ro,none⟩) l.length lc)).put (some 29) (.pointer (some ⟨rb,ro,none⟩))).put (some 30) (.pointer (some ⟨rb,ro,none⟩))).put (some 31) (.slice pa P.length pc)).put (some 32) (.agg #[.int .i64 M.kind,.string (bs M.name),.string (bs M.text),.slice ma M.attrs.length mac,.slice mk M.kids.length mkc])).put (some 33) (.tuple #[.agg #[.int .i64 m.kind,.string (bs m.name),.string (bs m.text),.slice xa m.attrs.length xac,.slice xk m.kids.length xkc],.nilIface])).put (some 24) (.tuple #[.agg #[.int .i64 m.kind,.string (bs m.name),.string (bs m.text),.slice xa m.attrs.length xac,.slice xk m.kids.length xkc],.nilIface])).put (some 34) (.agg #[.int .i64 m.kind,.string (bs m.name),.string (bs m.text),.slice xa m.attrs.length xac,.slice xk m.kids.length xkc])).put (some 35) (.nilIface)).put (some 7) (.pointer (some ⟨b3,0,none⟩))).put (some 8) (.nilIface))∧Sx wz w'∧w'.heap[b3]? =some (.cells #[.int .i64 m.kind,.string (bs m.name),.string (bs m.text),.slice xa m.attrs.length xac,.slice xk m.kids.length xkc] 26 (0,0))∧wz.heap.size≤b3∧Rep w' (fun b=>b≠b3) (.slice xa m.attrs.length xac) (attrsD m.attrs)∧Rep w' (fun b=>b≠b3) (.slice xk m.kids.length xkc) (nodesD m.kids)) ?_ ?_
   ·
    refine rg_begin (S:=Sx wz) (by kernel_rfl) (Sx.begin _) ?_
    have hSy:Sx wz (World.drew wz):=(Sx.begin _)
    refine rg_t 0 (some 25) (.slice (some ⟨rb,ro,none⟩) l.length lc) rfl hSy (fun w' hs=>by rfl) ?_
    simp only[Act.put,sA,sZ,sS]
    refine rg_t 1 (some 26) (.slice (some ⟨rb,ro,none⟩) l.length lc) rfl hSy (fun w' hs=>by rfl) ?_
    simp only[Act.put,sA,sZ,sS]
    refine rg_t 2 (some 27) (.agg #[.int .i64 n.kind,.string (bs n.name),.string (bs n.text),.slice na n.attrs.length nac,.slice nk n.kids.length nkc]) rfl hSy (fun w' hs=>by(have h0:=hs.cell hld d0;have h1:=hs.cell hld d1;have h2:=hs.cell hld d2;have h3:=hs.cell hld d3;have h4:=hs.cell hld d4;go_simp)) ?_
    simp only[Act.put,sA,sZ,sS]
    refine rg_t 3 (some 28) (.slice (some ⟨rb,ro,none⟩) l.length lc) rfl hSy (fun w' hs=>by rfl) ?_
    simp only[Act.put,sA,sZ,sS]
    refine rg_t 4 (some 29) (.pointer (some ⟨rb,ro,none⟩)) rfl hSy (fun w' hs=>by exact exec_ridx0 rfl rfl rfl hlpos _) ?_
    simp only[Act.put,sA,sZ,sS]
    refine rg_t 5 (some 30) (.pointer (some ⟨rb,ro,none⟩)) rfl hSy (fun w' hs=>by first | rfl | go_simp) ?_
    simp only[Act.put,sA,sZ,sS]
    refine rg_t 6 (some 31) (.slice pa P.length pc) rfl hSy (fun w' hs=>by(have h0:=hs.cell hrl hrp;go_simp)) ?_
    simp only[Act.put,sA,sZ,sS]
    refine rg_two 7 12 (by kernel_rfl) ?_ ?_
    ·
     refine tk_call 7 (some 32) 8 #[.slice (some ⟨rb,ro,none⟩) l.length lc,.agg #[.int .i64 n.kind,.string (bs n.name),.string (bs n.text),.slice na n.attrs.length nac,.slice nk n.kids.length nkc],.slice pa P.length pc] rfl rfl (by rfl) (fun w'=>by first | rfl | go_simp) (R:=fun v w'=>∃(ma:Option Addr) (mac:Nat) (mk:Option Addr) (mkc:Nat),v= .agg #[.int .i64 M.kind,.string (bs M.name),.string (bs M.text),.slice ma M.attrs.length mac,.slice mk M.kids.length mkc]∧Rep w' (fun b=>((World.drew wz)).heap.size≤b) (.slice ma M.attrs.length mac) (attrsD M.attrs)∧Rep w' (fun b=>((World.drew wz)).heap.size≤b) (.slice mk M.kids.length mkc) (nodesD M.kids)∧Ext ((World.drew wz)) w') ?_ ?_
     ·
      exact(HX.out ((World.drew wz)) (show Ext wz ((World.drew wz)) from hSy)).mono fun e w' ⟨ma,mac,mk,mkc,he,h1,h2,h3⟩=>⟨_,he,ma,mac,mk,mkc,rfl,h1,h2,h3⟩
     rintro _ x1 ⟨ma,mac,mk,mkc,rfl,hv1,hv2,hB1⟩
     have hS1:Sx wz x1:=hSy.ext hB1
     refine⟨hS1,?_⟩
     simp only[Act.put,sA,sZ,sS]
     refine rg_two 8 12 (by kernel_rfl) ?_ ?_
     ·
      refine tk_call 8 (some 33) 6 #[.slice (some ⟨rb,ro,none⟩) l.length lc,.agg #[.int .i64 M.kind,.string (bs M.name),.string (bs M.text),.slice ma M.attrs.length mac,.slice mk M.kids.length mkc]] rfl rfl (by rfl) (fun w'=>by first | rfl | go_simp) (R:=fun v w'=>∃(xa:Option Addr) (xac:Nat) (xk:Option Addr) (xkc:Nat),v= .tuple #[.agg #[.int .i64 m.kind,.string (bs m.name),.string (bs m.text),.slice xa m.attrs.length xac,.slice xk m.kids.length xkc],.nilIface]∧Rep w' (fun b=>(x1).heap.size≤b) (.slice xa m.attrs.length xac) (attrsD m.attrs)∧Rep w' (fun b=>(x1).heap.size≤b) (.slice xk m.kids.length xkc) (nodesD m.kids)∧Ext (x1) w') ?_ ?_
      ·
       exact(HN.out _ _ (x1) ma mac mk mkc (show Ext wz (x1) from hS1) hv1 hv2).mono fun e w' ⟨xa,xac,xk,xkc,he,h1,h2,h3⟩=>⟨_,he,xa,xac,xk,xkc,rfl,h1,h2,h3⟩
      rintro _ x2 ⟨xa,xac,xk,xkc,rfl,hq1,hq2,hB2⟩
      have hS2:Sx wz x2:=hS1.ext hB2
      refine⟨hS2,?_⟩
      simp only[Act.put,sA,sZ,sS]
      refine rg_t 9 (some 24) (.tuple #[.agg #[.int .i64 m.kind,.string (bs m.name),.string (bs m.text),.slice xa m.attrs.length xac,.slice xk m.kids.length xkc],.nilIface]) rfl hS2 (fun w' hs=>by rfl) ?_
      simp only[Act.put,sA,sZ,sS]
      refine rg_t 10 (some 34) (.agg #[.int .i64 m.kind,.string (bs m.name),.string (bs m.text),.slice xa m.attrs.length xac,.slice xk m.kids.length xkc]) rfl hS2 (fun w' hs=>by first | rfl | go_simp) ?_
      simp only[Act.put,sA,sZ,sS]
      refine rg_t 11 (some 35) (.nilIface) rfl hS2 (fun w' hs=>by first | rfl | go_simp) ?_
      simp only[Act.put,sA,sZ,sS]
      refine rg_one 12 (by kernel_rfl) ?_
      refine tk_new 12 (some 7) (.cells #[.int .i64 0,.string ⟨#[]⟩,.string ⟨#[]⟩,.slice none 0 0,.slice none 0 0] 26) (fun n=> .pointer (some ⟨n,0,none⟩)) rfl rfl (by rfl) (by first | rfl | go_simp) ?_
      intro b3 x3 eb3 hB3 hz3 hb3
      have hl3:wz.heap.size≤b3:=by rw[eb3];exact(show Ext wz _ from hS2).size
      have hS3:Sx wz x3:=hS2.ext hB3
      refine⟨hS3,?_⟩
      simp only[Act.put,sA,sZ,sS]
      replace hq1:=(hq1.lt.ext hB3).ok (q:=fun b=>b≠b3) fun b hb=>by have h:=hb.2;omega
      replace hq2:=(hq2.lt.ext hB3).ok (q:=fun b=>b≠b3) fun b hb=>by have h:=hb.2;omega
      refine rg_one 13 (by kernel_rfl) ?_
      refine tk_write 13 none (st5o x3 b3 0 (.int .i64 m.kind) (.string (bs m.name)) (.string (bs m.text)) (.slice xa m.attrs.length xac) (.slice xk m.kids.length xkc)) rfl rfl (by rfl) (exec_store rfl (store_nin hb3 (by decide) _ _ _ _ _ _ _ _ _)) ?_
      have hS8:Sx wz (st5o x3 b3 0 (.int .i64 m.kind) (.string (bs m.name)) (.string (bs m.text)) (.slice xa m.attrs.length xac) (.slice xk m.kids.length xkc)):=(((((show Ext wz x3 from hS3).set (p:=⟨b3,0,none⟩) hl3 _).set (p:=⟨b3,0+1,none⟩) hl3 _).set (p:=⟨b3,0+2,none⟩) hl3 _).set (p:=⟨b3,0+3,none⟩) hl3 _).set (p:=⟨b3,0+4,none⟩) hl3 _
      refine⟨hS8,?_⟩
      simp only[Act.put,sA,sZ,sS]
      have hb8:(st5o x3 b3 0 (.int .i64 m.kind) (.string (bs m.name)) (.string (bs m.text)) (.slice xa m.attrs.length xac) (.slice xk m.kids.length xkc)).heap[b3]? =some (.cells #[.int .i64 m.kind,.string (bs m.name),.string (bs m.text),.slice xa m.attrs.length xac,.slice xk m.kids.length xkc] 26 (0,0)):=st5o_blk hb3 0 _ _ _ _ _
      have hq18:=hq1.kept (w':=st5o x3 b3 0 (.int .i64 m.kind) (.string (bs m.name)) (.string (bs m.text)) (.slice xa m.attrs.length xac) (.slice xk m.kids.length xkc)) fun b hb _=>st5o_keep x3 hb 0 _ _ _ _ _
      have hq28:=hq2.kept (w':=st5o x3 b3 0 (.int .i64 m.kind) (.string (bs m.name)) (.string (bs m.text)) (.slice xa m.attrs.length xac) (.slice xk m.kids.length xkc)) fun b hb _=>st5o_keep x3 hb 0 _ _ _ _ _
      refine rg_t 14 (some 8) (.nilIface) rfl hS8 (fun w' hs=>by rfl) ?_
      simp only[Act.put,sA,sZ,sS]
      refine rg_done (by kernel_rfl) ?_
      exact⟨b3,xa,xk,xac,xkc,ma,mac,mk,mkc,(by first | rfl | simp only[Act.put,sA,sZ,sS]),hS8,hb8,hl3,hq18,hq28⟩
     ·
      refine tk_new 12 (some 7) (.cells #[.int .i64 0,.string ⟨#[]⟩,.string ⟨#[]⟩,.slice none 0 0,.slice none 0 0] 26) (fun n=> .pointer (some ⟨n,0,none⟩)) rfl rfl (by rfl) (by first | rfl | go_simp) ?_
      intro b3 x3 eb3 hB3 hz3 hb3
      have hl3:wz.heap.size≤b3:=by rw[eb3];exact(show Ext wz _ from hS1).size
      have hS3:Sx wz x3:=hS1.ext hB3
      refine⟨hS3,?_⟩
      simp only[Act.put,sA,sZ,sS]
      replace hv1:=hv1.ext hB3
      replace hv2:=hv2.ext hB3
      refine rg_one 8 (by kernel_rfl) ?_
      refine tk_call 8 (some 33) 6 #[.slice (some ⟨rb,ro,none⟩) l.length lc,.agg #[.int .i64 M.kind,.string (bs M.name),.string (bs M.text),.slice ma M.attrs.length mac,.slice mk M.kids.length mkc]] rfl rfl (by rfl) (fun w'=>by first | rfl | go_simp) (R:=fun v w'=>∃(xa:Option Addr) (xac:Nat) (xk:Option Addr) (xkc:Nat),v= .tuple #[.agg #[.int .i64 m.kind,.string (bs m.name),.string (bs m.text),.slice xa m.attrs.length xac,.slice xk m.kids.length xkc],.nilIface]∧Rep w' (fun b=>(x3).heap.size≤b) (.slice xa m.attrs.length xac) (attrsD m.attrs)∧Rep w' (fun b=>(x3).heap.size≤b) (.slice xk m.kids.length xkc) (nodesD m.kids)∧Ext (x3) w') ?_ ?_
      ·
       exact(HN.out _ _ (x3) ma mac mk mkc (show Ext wz (x3) from hS3) hv1 hv2).mono fun e w' ⟨xa,xac,xk,xkc,he,h1,h2,h3⟩=>⟨_,he,xa,xac,xk,xkc,rfl,h1,h2,h3⟩
      rintro _ x2 ⟨xa,xac,xk,xkc,rfl,hq1,hq2,hB2⟩
      have hS2:Sx wz x2:=hS3.ext hB2
      refine⟨hS2,?_⟩
      simp only[Act.put,sA,sZ,sS]
      have hl3':=blk_lt hb3
      replace hq1:=hq1.ok (q:=fun b=>b≠b3) fun b hb=>by have h:=(hb:x3.heap.size≤b);omega
      replace hq2:=hq2.ok (q:=fun b=>b≠b3) fun b hb=>by have h:=(hb:x3.heap.size≤b);omega
      replace hb3:=(Below.block hB2 b3 (blk_lt hb3)).trans hb3
      refine rg_t 9 (some 24) (.tuple #[.agg #[.int .i64 m.kind,.string (bs m.name),.string (bs m.text),.slice xa m.attrs.length xac,.slice xk m.kids.length xkc],.nilIface]) rfl hS2 (fun w' hs=>by rfl) ?_
      simp only[Act.put,sA,sZ,sS]
      refine rg_t 10 (some 34) (.agg #[.int .i64 m.kind,.string (bs m.name),.string (bs m.text),.slice xa m.attrs.length xac,.slice xk m.kids.length xkc]) rfl hS2 (fun w' hs=>by first | rfl | go_simp) ?_
      simp only[Act.put,sA,sZ,sS]
      refine rg_t 11 (some 35) (.nilIface) rfl hS2 (fun w' hs=>by first | rfl | go_simp) ?_
      simp only[Act.put,sA,sZ,sS]
      refine rg_one 13 (by kernel_rfl) ?_
      refine tk_write 13 none (st5o x2 b3 0 (.int .i64 m.kind) (.string (bs m.name)) (.string (bs m.text)) (.slice xa m.attrs.length xac) (.slice xk m.kids.length xkc)) rfl rfl (by rfl) (exec_store rfl (store_nin hb3 (by decide) _ _ _ _ _ _ _ _ _)) ?_
      have hS8:Sx wz (st5o x2 b3 0 (.int .i64 m.kind) (.string (bs m.name)) (.string (bs m.text)) (.slice xa m.attrs.length xac) (.slice xk m.kids.length xkc)):=(((((show Ext wz x2 from hS2).set (p:=⟨b3,0,none⟩) hl3 _).set (p:=⟨b3,0+1,none⟩) hl3 _).set (p:=⟨b3,0+2,none⟩) hl3 _).set (p:=⟨b3,0+3,none⟩) hl3 _).set (p:=⟨b3,0+4,none⟩) hl3 _
      refine⟨hS8,?_⟩
      simp only[Act.put,sA,sZ,sS]
      have hb8:(st5o x2 b3 0 (.int .i64 m.kind) (.string (bs m.name)) (.string (bs m.text)) (.slice xa m.attrs.length xac) (.slice xk m.kids.length xkc)).heap[b3]? =some (.cells #[.int .i64 m.kind,.string (bs m.name),.string (bs m.text),.slice xa m.attrs.length xac,.slice xk m.kids.length xkc] 26 (0,0)):=st5o_blk hb3 0 _ _ _ _ _
      have hq18:=hq1.kept (w':=st5o x2 b3 0 (.int .i64 m.kind) (.string (bs m.name)) (.string (bs m.text)) (.slice xa m.attrs.length xac) (.slice xk m.kids.length xkc)) fun b hb _=>st5o_keep x2 hb 0 _ _ _ _ _
      have hq28:=hq2.kept (w':=st5o x2 b3 0 (.int .i64 m.kind) (.string (bs m.name)) (.string (bs m.text)) (.slice xa m.attrs.length xac) (.slice xk m.kids.length xkc)) fun b hb _=>st5o_keep x2 hb 0 _ _ _ _ _
      refine rg_t 14 (some 8) (.nilIface) rfl hS8 (fun w' hs=>by rfl) ?_
      simp only[Act.put,sA,sZ,sS]
      refine rg_done (by kernel_rfl) ?_
      exact⟨b3,xa,xk,xac,xkc,ma,mac,mk,mkc,(by first | rfl | simp only[Act.put,sA,sZ,sS]),hS8,hb8,hl3,hq18,hq28⟩
    ·
     refine tk_new 12 (some 7) (.cells #[.int .i64 0,.string ⟨#[]⟩,.string ⟨#[]⟩,.slice none 0 0,.slice none 0 0] 26) (fun n=> .pointer (some ⟨n,0,none⟩)) rfl rfl (by rfl) (by first | rfl | go_simp) ?_
     intro b3 x3 eb3 hB3 hz3 hb3
     have hl3:wz.heap.size≤b3:=by rw[eb3];exact(show Ext wz _ from hSy).size
     have hS3:Sx wz x3:=hSy.ext hB3
     refine⟨hS3,?_⟩
     simp only[Act.put,sA,sZ,sS]
     refine rg_one 7 (by kernel_rfl) ?_
     refine tk_call 7 (some 32) 8 #[.slice (some ⟨rb,ro,none⟩) l.length lc,.agg #[.int .i64 n.kind,.string (bs n.name),.string (bs n.text),.slice na n.attrs.length nac,.slice nk n.kids.length nkc],.slice pa P.length pc] rfl rfl (by rfl) (fun w'=>by first | rfl | go_simp) (R:=fun v w'=>∃(ma:Option Addr) (mac:Nat) (mk:Option Addr) (mkc:Nat),v= .agg #[.int .i64 M.kind,.string (bs M.name),.string (bs M.text),.slice ma M.attrs.length mac,.slice mk M.kids.length mkc]∧Rep w' (fun b=>(x3).heap.size≤b) (.slice ma M.attrs.length mac) (attrsD M.attrs)∧Rep w' (fun b=>(x3).heap.size≤b) (.slice mk M.kids.length mkc) (nodesD M.kids)∧Ext (x3) w') ?_ ?_
     ·
      exact(HX.out (x3) (show Ext wz (x3) from hS3)).mono fun e w' ⟨ma,mac,mk,mkc,he,h1,h2,h3⟩=>⟨_,he,ma,mac,mk,mkc,rfl,h1,h2,h3⟩
     rintro _ x1 ⟨ma,mac,mk,mkc,rfl,hv1,hv2,hB1⟩
     have hS1:Sx wz x1:=hS3.ext hB1
     refine⟨hS1,?_⟩
     simp only[Act.put,sA,sZ,sS]
     replace hb3:=(Below.block hB1 b3 (blk_lt hb3)).trans hb3
     refine rg_one 8 (by kernel_rfl) ?_
     refine tk_call 8 (some 33) 6 #[.slice (some ⟨rb,ro,none⟩) l.length lc,.agg #[.int .i64 M.kind,.string (bs M.name),.string (bs M.text),.slice ma M.attrs.length mac,.slice mk M.kids.length mkc]] rfl rfl (by rfl) (fun w'=>by first | rfl | go_simp) (R:=fun v w'=>∃(xa:Option Addr) (xac:Nat) (xk:Option Addr) (xkc:Nat),v= .tuple #[.agg #[.int .i64 m.kind,.string (bs m.name),.string (bs m.text),.slice xa m.attrs.length xac,.slice xk m.kids.length xkc],.nilIface]∧Rep w' (fun b=>(x1).heap.size≤b) (.slice xa m.attrs.length xac) (attrsD m.attrs)∧Rep w' (fun b=>(x1).heap.size≤b) (.slice xk m.kids.length xkc) (nodesD m.kids)∧Ext (x1) w') ?_ ?_
     ·
      exact(HN.out _ _ (x1) ma mac mk mkc (show Ext wz (x1) from hS1) hv1 hv2).mono fun e w' ⟨xa,xac,xk,xkc,he,h1,h2,h3⟩=>⟨_,he,xa,xac,xk,xkc,rfl,h1,h2,h3⟩
     rintro _ x2 ⟨xa,xac,xk,xkc,rfl,hq1,hq2,hB2⟩
     have hS2:Sx wz x2:=hS1.ext hB2
     refine⟨hS2,?_⟩
     simp only[Act.put,sA,sZ,sS]
     have hl3':=blk_lt hb3
     replace hq1:=hq1.ok (q:=fun b=>b≠b3) fun b hb=>by have h:=(hb:x1.heap.size≤b);omega
     replace hq2:=hq2.ok (q:=fun b=>b≠b3) fun b hb=>by have h:=(hb:x1.heap.size≤b);omega
     replace hb3:=(Below.block hB2 b3 (blk_lt hb3)).trans hb3
     refine rg_t 9 (some 24) (.tuple #[.agg #[.int .i64 m.kind,.string (bs m.name),.string (bs m.text),.slice xa m.attrs.length xac,.slice xk m.kids.length xkc],.nilIface]) rfl hS2 (fun w' hs=>by rfl) ?_
     simp only[Act.put,sA,sZ,sS]
     refine rg_t 10 (some 34) (.agg #[.int .i64 m.kind,.string (bs m.name),.string (bs m.text),.slice xa m.attrs.length xac,.slice xk m.kids.length xkc]) rfl hS2 (fun w' hs=>by first | rfl | go_simp) ?_
     simp only[Act.put,sA,sZ,sS]
     refine rg_t 11 (some 35) (.nilIface) rfl hS2 (fun w' hs=>by first | rfl | go_simp) ?_
     simp only[Act.put,sA,sZ,sS]
     refine rg_one 13 (by kernel_rfl) ?_
     refine tk_write 13 none (st5o x2 b3 0 (.int .i64 m.kind) (.string (bs m.name)) (.string (bs m.text)) (.slice xa m.attrs.length xac) (.slice xk m.kids.length xkc)) rfl rfl (by rfl) (exec_store rfl (store_nin hb3 (by decide) _ _ _ _ _ _ _ _ _)) ?_
     have hS8:Sx wz (st5o x2 b3 0 (.int .i64 m.kind) (.string (bs m.name)) (.string (bs m.text)) (.slice xa m.attrs.length xac) (.slice xk m.kids.length xkc)):=(((((show Ext wz x2 from hS2).set (p:=⟨b3,0,none⟩) hl3 _).set (p:=⟨b3,0+1,none⟩) hl3 _).set (p:=⟨b3,0+2,none⟩) hl3 _).set (p:=⟨b3,0+3,none⟩) hl3 _).set (p:=⟨b3,0+4,none⟩) hl3 _
     refine⟨hS8,?_⟩
     simp only[Act.put,sA,sZ,sS]
     have hb8:(st5o x2 b3 0 (.int .i64 m.kind) (.string (bs m.name)) (.string (bs m.text)) (.slice xa m.attrs.length xac) (.slice xk m.kids.length xkc)).heap[b3]? =some (.cells #[.int .i64 m.kind,.string (bs m.name),.string (bs m.text),.slice xa m.attrs.length xac,.slice xk m.kids.length xkc] 26 (0,0)):=st5o_blk hb3 0 _ _ _ _ _
     have hq18:=hq1.kept (w':=st5o x2 b3 0 (.int .i64 m.kind) (.string (bs m.name)) (.string (bs m.text)) (.slice xa m.attrs.length xac) (.slice xk m.kids.length xkc)) fun b hb _=>st5o_keep x2 hb 0 _ _ _ _ _
     have hq28:=hq2.kept (w':=st5o x2 b3 0 (.int .i64 m.kind) (.string (bs m.name)) (.string (bs m.text)) (.slice xa m.attrs.length xac) (.slice xk m.kids.length xkc)) fun b hb _=>st5o_keep x2 hb 0 _ _ _ _ _
     refine rg_t 14 (some 8) (.nilIface) rfl hS8 (fun w' hs=>by rfl) ?_
     simp only[Act.put,sA,sZ,sS]
     refine rg_done (by kernel_rfl) ?_
     exact⟨b3,xa,xk,xac,xkc,ma,mac,mk,mkc,(by first | rfl | simp only[Act.put,sA,sZ,sS]),hS8,hb8,hl3,hq18,hq28⟩
   rintro _ w9 ⟨b3,xa,xk,xac,xkc,ma,mac,mk,mkc,rfl,hX9,hb9,hl9,hq19,hq29⟩
   simp only[Act.put,sA,sZ,sS]
   have HZ:=Lh (And.intro ((HQ.out.1.trans hX9)) (And.intro ((Below.block hX9 t5 (blk_lt HQ.out.2.1)).trans HQ.out.2.1) (And.intro hb9 (And.intro (HQ.out.2.2.1.ext hX9) (And.intro (HQ.out.2.2.2.ext hX9) (And.intro hq19 hq29))))))
   have HCO:=Lh (code_nil w9)
   clear hX9 hb9 hl9 hq19 hq29 HX HN d0 d1 d2 d3 d4 hrp
   go_wp2_with fail
   refine HCO.out.mono ?_
   rintro e w10 ⟨rfl,hX10⟩
   clear HCO
   have hbA:=(Below.block hX10 t5 (blk_lt HZ.out.2.1)).trans HZ.out.2.1
   have hbB:=(Below.block hX10 b3 (blk_lt HZ.out.2.2.1)).trans HZ.out.2.2.1
   have y0:=blk_cell hbA (k:=0) rfl;have y1:=blk_cell hbA (k:=1) rfl;have y2:=blk_cell hbA (k:=2) rfl;have y3:=blk_cell hbA (k:=3) rfl;have y4:=blk_cell hbA (k:=4) rfl
   have z0:=blk_cell hbB (k:=0) rfl;have z1:=blk_cell hbB (k:=1) rfl;have z2:=blk_cell hbB (k:=2) rfl;have z3:=blk_cell hbB (k:=3) rfl;have z4:=blk_cell hbB (k:=4) rfl
   have HS:=Lh (same_any (nsz m) m m _ _ _ _ _ _ w10 (Nat.le_refl _) (HZ.out.2.2.2.1.ext hX10) (HZ.out.2.2.2.2.1.ext hX10) (HZ.out.2.2.2.2.2.1.ext hX10) (HZ.out.2.2.2.2.2.2.ext hX10))
   rw[sameN_refl]at HS
   have HE10:=Lh (HZ.out.1.trans hX10)
   clear hbA hbB hX10 HZ
   go_wp2_with fail
   refine HS.out.mono ?_
   rintro e w11 ⟨rfl,hX11⟩
   go_wp2_with fail
   go_ret
   exact⟨rfl,HE10.out.trans hX11⟩
open Go.RowKit Go.Deep
theorem cell_spot {w:World} {a:Addr} {v:Value} (h:w.cell? a=some v):a.spot=none:=by
 unfold World.cell? at h
 split at h
 ·
  split at h
  ·
   cases h
  ·
   rename_i h2;simpa using h2
 ·
  cases h
def QLd {H:Type} {α:Type} (Q:α→DataW H→Prop) (l:List α) (es:List (DataW H)):Prop:=es.length=l.length∧∀(i:Nat) (y:α) (e:DataW H),l[i]? =some y→es[i]? =some e→Q y e
def QSd {H:Type} {α:Type} (Q:α→DataW H→Prop) (l:List α) (d:DataW H):Prop:=(l= []∧d= .nil)∨∃es sp,d= .slice es sp∧QLd Q l es
theorem pieces {α:Type} (z:Nat) (F:Nat→List α):∀(n:Nat),(∀i,i< n→(F i).length=z)→((List.range n).flatMap F).length=n*z∧∀(k:Nat) (u:α),((List.range n).flatMap F)[k]? =some u→∃i j,i< n∧j< z∧k=i*z+j∧(F i)[j]? =some u
 | 0,_=>by simp
 | n+1,h=>by
  obtain⟨h1,h2⟩:=pieces z F n fun i hi=>h i (by omega)
  rw[List.range_succ,List.flatMap_append]
  have e1: [n].flatMap F=F n:=by simp
  rw[e1]
  refine⟨by rw[List.length_append,h1,h n (by omega),Nat.add_mul];omega,fun k u hk=> ?_⟩
  by_cases hlt:k< n*z
  ·
   rw[List.getElem?_append_left (by rw[h1];exact hlt)]at hk
   obtain⟨i,j,a,b,c,d⟩:=h2 k u hk
   exact⟨i,j,by omega,b,c,d⟩
  ·
   rw[List.getElem?_append_right (by rw[h1];omega),h1]at hk
   have hz:k - n*z< z:=by have:=(List.getElem?_eq_some_iff.1 hk).1;rw[h n (by omega)]at this;exact this
   exact⟨n,k - n*z,by omega,hz,by omega,hk⟩
theorem reps_pieces {w:World} {p:Nat→Prop} {α:Type} (f:α→List DV) (CS:Nat→List Value) (Y:Nat→α):∀(n:Nat),(∀i,i< n→Reps w p (CS i) (f (Y i)))→Reps w p ((List.range n).flatMap CS) (((List.range n).map Y).flatMap f)
 | 0,_=>Reps.nil _ _
 | n+1,h=>by
  rw[List.range_succ,List.flatMap_append,List.map_append,List.flatMap_append]
  have e1: [n].flatMap CS=CS n:=by simp
  have e2:([n].map Y).flatMap f=f (Y n):=by simp
  rw[e1,e2]
  exact(reps_pieces f CS Y n fun i hi=>h i (by omega)).append (h n (by omega))
section
variable {H:Type} {enc:TypeId×Value→H} {P:Program} {w:World} {base:Nat} {held:Bool}
theorem open_rep {α:Type} [Inhabited α] {f:α→List DV} {z:Nat} (hf:∀y,(f y).length=z) {t e:TypeId} (Q:α→DataW H→Prop) (ht:P.underlying t=some (.slice e)) (hc:P.cellsOf e=z) (hz:0< z) {fuel:Nat} {cs:List Value} {x:DataW H×List MemPlace}
  (hel:∀n cs x,n< fuel→DataW.trod enc P w base (fun _=>true) held n e cs=some x→∃y:α,Reps w (fun _=>True) cs (f y)∧Q y x.1)
  (h:DataW.trod enc P w base (fun _=>true) held fuel t cs=some x):∃(v:Value) (l:List α),cs= [v]∧Rep w (fun _=>True) v (.s z (l.flatMap f))∧QSd Q l x.1:=by
 rcases DataW.trod_slice ht h with⟨rfl,rfl⟩ | ⟨a,len,cap,elems,rest,n,hn,rfl,rfl,hb,hl,hm,hlen,hall,hsp,hns⟩
 ·
  exact⟨_,[],rfl,.nil z,.inl ⟨rfl,rfl⟩⟩
 ·
  have each:∀i,i< len→∃q:α×List Value,w.cells? base (a.add (i*z)) z=some q.2∧Reps w (fun _=>True) q.2 (f q.1)∧∀e',elems[i]? =some e'→Q q.1 e'.1:=fun i hi=>by
   have h1:=hall i hi
   have h2:elems[i]? =some elems[i]:=List.getElem?_eq_getElem (by omega)
   rw[h2]at h1
   obtain⟨cs',h3,h4⟩:=Option.bind_eq_some_iff.1 h1
   obtain⟨y,h5,h6⟩:=hel n cs' _ (by omega) h4
   rw[hc]at h3
   exact⟨(y,cs'),h3,h5,fun e' he'=>by rw[h2]at he';cases he';exact h6⟩
  obtain⟨q,hq⟩:=choose_lt (α:=α×List Value) each
  refine⟨_,(List.range len).map fun i=>(q i).1,rfl,?_,.inr ⟨_,_,rfl,by rw[List.length_map,List.length_map,List.length_range,hlen],fun i y e' hy he=> ?_⟩⟩
  rotate_left
  ·
   rw[List.getElem?_map]at hy he
   obtain⟨i',hi',rfl⟩:=Option.map_eq_some_iff.1 hy
   obtain⟨e2,he2,rfl⟩:=Option.map_eq_some_iff.1 he
   have hlt:=(List.getElem?_eq_some_iff.1 hi').1
   rw[List.length_range]at hlt
   rw[List.getElem?_range hlt]at hi'
   cases hi'
   exact(hq i hlt).2.2 e2 he2
  ·
   have hcell:∀i,i< len→(q i).2.length=z∧∀j u,(q i).2[j]? =some u→w.cell? ((a.add (i*z)).add j)=some u:=fun i hi=>by
    obtain⟨_,h2,h3⟩:=World.cells?_some (hq i hi).1
    refine⟨h2,fun j u hj=> ?_⟩
    have hjz:j< z:=by have:=(List.getElem?_eq_some_iff.1 hj).1;omega
    rw[h3 j hjz];exact hj
   have hadd0:a.add (0*z)=a:=by rw[Nat.zero_mul];unfold Addr.add;rw[if_pos rfl]
   have hspot:0< cap→a.spot=none:=fun hcap=>by
    by_cases hl0:0< len
    ·
     obtain⟨h2,h3⟩:=hcell 0 hl0
     have h4:=h3 0 _ (List.getElem?_eq_getElem (by omega))
     rw[hadd0]at h4
     have e:a.add 0=a:=by unfold Addr.add;rw[if_pos rfl]
     rw[e]at h4
     exact cell_spot h4
    ·
     have hs:=(hsp rfl).2 0 (by omega)
     have hlen0:len=0:=by omega
     have hr:rest.length=cap - len:=(hsp rfl).1
     rw[List.getElem?_eq_getElem (by omega)]at hs
     obtain⟨cs',h3,_⟩:=Option.bind_eq_some_iff.1 hs
     rw[hlen0,hc,show 0+0=0 from rfl,hadd0]at h3
     obtain⟨_,h5,h6⟩:=World.cells?_some h3
     have h7:=h6 0 hz
     have e:a.add 0=a:=by unfold Addr.add;rw[if_pos rfl]
     rw[e,List.getElem?_eq_getElem (by omega)]at h7
     exact cell_spot h7
   by_cases hcap:0< cap
   ·
    obtain⟨b,o,sp⟩:=a
    have:=hspot hcap
    simp only at this
    subst this
    obtain⟨hpl,hpc⟩:=pieces z (fun i=>(q i).2) len fun i hi=>(hcell i hi).1
    have hr:=reps_pieces f (fun i=>(q i).2) (fun i=>(q i).1) len fun i hi=>(hq i hi).2.1
    refine .row b o len cap z ((List.range len).flatMap fun i=>(q i).2) _ (fun _=>trivial) (by rw[flat_len f z hf,List.length_map,List.length_range]) hpl hl (by unfold maxLen at hm;omega) (fun k u hk=> ?_) hr.2
    obtain⟨i,j,hi,hj,rfl,hu⟩:=hpc k u hk
    have h8:=(hcell i hi).2 j u hu
    have e1:((⟨b,o,none⟩:Addr).add (i*z)).add j=⟨b,o+(i*z+j),none⟩:=by
     have ha:∀(o j:Nat),(⟨b,o,none⟩:Addr).add j=⟨b,o+j,none⟩:=fun o j=>by unfold Addr.add;split<;> simp_all
     rw[ha,ha,Nat.add_assoc]
    rw[e1]at h8;exact h8
   ·
    obtain rfl:cap=0:=by omega
    obtain rfl:len=0:=by omega
    exact .emp a z
theorem open_fields {t:TypeId} {fs:Array Field} (ht:P.underlying t=some (.struct fs)) (hsz:P.cellsOf t=fs.size) (hoff:∀(i:Nat) (f:Field),fs[i]? =some f→f.offset=i∧P.cellsOf f.type=1) {spare:Nat→Bool} {fuel:Nat} {cs:List Value} {x:DataW H×List MemPlace}
  (h:DataW.trod enc P w base spare held fuel t cs=some x):∃(xs:List (DataW H×List MemPlace)) (n:Nat),n< fuel∧x.1= .agg (xs.map (·.1))∧cs.length=fs.size∧xs.length=fs.size∧
   ∀(i:Nat) (f:Field),fs[i]? =some f→∃v y,cs[i]? =some v∧xs[i]? =some y∧DataW.trod enc P w base spare held n f.type [v]=some y:=by
 obtain⟨xs,n,h1,h2,h3,h4,h5⟩:=DataW.trod_struct ht h
 refine⟨xs,n,by omega,by rw[h2],by rw[h3,hsz],h4,fun i f hf=> ?_⟩
 have hi:i< fs.size:=by
  rcases Nat.lt_or_ge i fs.size with h' | h'
  ·
   exact h'
  ·
   rw[Array.getElem?_eq_none h']at hf;cases hf
 obtain⟨ho,hcf⟩:=hoff i f hf
 have h6:=h5 i f hf
 rw[ho,hcf,List.getElem?_eq_getElem (show i< xs.length by omega)]at h6
 have hics:i< cs.length:=by rw[h3,hsz];exact hi
 have e:(cs.drop i).take 1= [cs[i]]:=by rw[List.drop_eq_getElem_cons hics];rfl
 rw[e]at h6
 exact⟨cs[i],xs[i],List.getElem?_eq_getElem hics,List.getElem?_eq_getElem (show i< xs.length by omega),h6⟩
end
section
variable {H:Type} {enc:TypeId×Value→H} {w:World} {base:Nat} {held:Bool}
instance:Inhabited Attr:=⟨⟨[],[]⟩⟩
instance:Inhabited Step:=⟨⟨[],[]⟩⟩
instance:Inhabited Rule:=⟨⟨[],[]⟩⟩
instance:Inhabited Node:=⟨zeroN⟩
def QBd (y:Bytes) (d:DataW H):Prop:=d= .lit (.string y)
def QAd (a:Attr) (d:DataW H):Prop:=d= .agg [.lit (.string a.n),.lit (.string a.v)]
def QRd (r:Rule) (d:DataW H):Prop:=∃d1 d2,d= .agg [d1,d2]∧QSd QBd r.path d1∧QSd QBd r.keys d2
def QNd (n:Node) (d:DataW H):Prop:=cntN n≤Rows.uptoBulk d
theorem bs_data (s:ByteArray):bs s.data.toList=s:=by cases s;simp[bs]
theorem open_bytes {t:TypeId} (ht:Tryz.prog.underlying t=some .string) {spare:Nat→Bool} {n:Nat} {v:Value} {x:DataW H×List MemPlace} (h:DataW.trod enc Tryz.prog w base spare held n t [v]=some x):∃y:Bytes,Rep w (fun _=>True) v (strD y)∧x.1= .lit (.string y):=by
 obtain⟨s,h1,h2,h3⟩:=DataW.trod_string ht h
 cases h1
 refine⟨s.data.toList,?_,by rw[h2]⟩
 unfold strD
 rw[bs_data]
 exact Rep.string _ _ _ (by unfold maxLen at h3;omega)
theorem open_texts {n:Nat} {cs:List Value} {x:DataW H×List MemPlace} (h:DataW.trod enc Tryz.prog w base (fun _=>true) held n 36 cs=some x):∃(v:Value) (l:List Bytes),cs= [v]∧Rep w (fun _=>True) v (strsD l)∧QSd QBd l x.1:=
 open_rep (f:=fun x=> [strD x]) (z:=1) z_str QBd Tryz.underlying36 (by kernel_rfl) (by omega) (fun n cs x _ h=>by
  obtain⟨s,rfl,_⟩:=DataW.trod_string Tryz.underlying9 h
  obtain⟨y,h1,h2⟩:=open_bytes Tryz.underlying9 h
  exact⟨y,Reps.cons h1 (Reps.nil _ _),h2⟩) h
theorem open_attr {n:Nat} {cs:List Value} {x:DataW H×List MemPlace} (h:DataW.trod enc Tryz.prog w base (fun _=>true) held n 62 cs=some x):∃a:Attr,Reps w (fun _=>True) cs (attrC a)∧QAd a x.1:=by
 obtain⟨xs,m,_,hx,hl,hxl,hf⟩:=open_fields Tryz.underlying62 (by kernel_rfl) (by intro i f hf;match i,hf with | 0,hf=>cases hf;exact⟨rfl,by kernel_rfl⟩ | 1,hf=>cases hf;exact⟨rfl,by kernel_rfl⟩ | i+2,hf=>simp at hf) h
 obtain⟨v0,y0,a0,b0,c0⟩:=hf 0 _ rfl
 obtain⟨v1,y1,a1,b1,c1⟩:=hf 1 _ rfl
 match cs,hl,xs,hxl with
 | [_,_],_,[_,_],_=>
  cases a0;cases a1;cases b0;cases b1
  obtain⟨n0,r0,e0⟩:=open_bytes Tryz.underlying9 c0
  obtain⟨n1,r1,e1⟩:=open_bytes Tryz.underlying9 c1
  exact⟨⟨n0,n1⟩,Reps.cons r0 (Reps.cons r1 (Reps.nil _ _)),by rw[hx];simp[QAd,e0,e1]⟩
theorem open_attrs {n:Nat} {cs:List Value} {x:DataW H×List MemPlace} (h:DataW.trod enc Tryz.prog w base (fun _=>true) held n 23 cs=some x):∃(v:Value) (l:List Attr),cs= [v]∧Rep w (fun _=>True) v (attrsD l)∧QSd QAd l x.1:=
 open_rep z_attr QAd Tryz.underlying23 (by kernel_rfl) (by omega) (fun n cs x _ h=>open_attr h) h
theorem open_rule {n:Nat} {cs:List Value} {x:DataW H×List MemPlace} (h:DataW.trod enc Tryz.prog w base (fun _=>true) held n 38 cs=some x):∃a:Rule,Reps w (fun _=>True) cs (ruleC a)∧QRd a x.1:=by
 obtain⟨xs,m,_,hx,hl,hxl,hf⟩:=open_fields Tryz.underlying38 (by kernel_rfl) (by intro i f hf;match i,hf with | 0,hf=>cases hf;exact⟨rfl,by kernel_rfl⟩ | 1,hf=>cases hf;exact⟨rfl,by kernel_rfl⟩ | i+2,hf=>simp at hf) h
 obtain⟨v0,y0,a0,b0,c0⟩:=hf 0 _ rfl
 obtain⟨v1,y1,a1,b1,c1⟩:=hf 1 _ rfl
 match cs,hl,xs,hxl with
 | [_,_],_,[_,_],_=>
  cases a0;cases a1;cases b0;cases b1
  obtain⟨v,k,e,r1,q1⟩:=open_texts c0
  cases e
  obtain⟨v,k',e,r2,q2⟩:=open_texts c1
  cases e
  exact⟨⟨k,k'⟩,Reps.cons r1 (Reps.cons r2 (Reps.nil _ _)),_,_,by rw[hx];simp,q1,q2⟩
theorem open_rules {n:Nat} {cs:List Value} {x:DataW H×List MemPlace} (h:DataW.trod enc Tryz.prog w base (fun _=>true) held n 22 cs=some x):∃(v:Value) (l:List Rule),cs= [v]∧Rep w (fun _=>True) v (rulesD l)∧QSd QRd l x.1:=
 open_rep z_rule QRd Tryz.underlying22 (by kernel_rfl) (by omega) (fun n cs x _ h=>open_rule h) h
-- bulk
theorem bulk_attrs:∀(l:List Attr) (es:List (DataW H)),QLd QAd l es→cntA l≤Rows.uptoBulkAll es
 | [],[],_=>Nat.le_refl _
 | [],_::_,h=>by have:=h.1;simp at this
 | _::_,[],h=>by have:=h.1;simp at this
 | a::l,e::es,h=>by
  have h1:=h.2 0 a e rfl rfl
  have h2:=bulk_attrs l es ⟨by have:=h.1;simpa using this,fun i y e' hy he=>h.2 (i+1) y e' (by simpa using hy) (by simpa using he)⟩
  rw[cntA,Rows.uptoBulkAll,h1]
  simp only[Rows.uptoBulk,Rows.uptoBulkAll]
  omega
theorem bulk_nodes:∀(l:List Node) (es:List (DataW H)),QLd QNd l es→cntL l≤Rows.uptoBulkAll es
 | [],[],_=>Nat.le_refl _
 | [],_::_,h=>by have:=h.1;simp at this
 | _::_,[],h=>by have:=h.1;simp at this
 | a::l,e::es,h=>by
  have h1:=h.2 0 a e rfl rfl
  have h2:=bulk_nodes l es ⟨by have:=h.1;simpa using this,fun i y e' hy he=>h.2 (i+1) y e' (by simpa using hy) (by simpa using he)⟩
  rw[cntL,Rows.uptoBulkAll]
  unfold QNd at h1
  omega
theorem bulk_slice {α:Type} {Q:α→DataW H→Prop} {l:List α} {d:DataW H} (m:List α→Nat) (h0:m []=0) (hm:∀es,QLd Q l es→m l≤Rows.uptoBulkAll es) (h:QSd Q l d):m l+1≤Rows.uptoBulk d:=by
 rcases h with⟨rfl,rfl⟩ | ⟨es,sp,rfl,hq⟩
 ·
  rw[h0];simp[Rows.uptoBulk]
 ·
  have:=hm es hq;simp only[Rows.uptoBulk];omega
theorem open_node:∀(N:Nat) {n:Nat} {cs:List Value} {x:DataW H×List MemPlace},n≤N→DataW.trod enc Tryz.prog w base (fun _=>true) held n 26 cs=some x→∃a:Node,Reps w (fun _=>True) cs (nodeC a)∧QNd a x.1:=by
 intro N
 induction N with
 | zero=>
  intro n cs x hn h
  obtain rfl:n=0:=(by omega)
  simp[DataW.trod]at h
 | succ N ih=>
  intro n cs x hn h
  obtain⟨xs,m,hm,hx,hl,hxl,hf⟩:=open_fields Tryz.underlying26 (by kernel_rfl) (by intro i f hf;match i,hf with | 0,hf=>cases hf;exact⟨rfl,by kernel_rfl⟩ | 1,hf=>cases hf;exact⟨rfl,by kernel_rfl⟩ | 2,hf=>cases hf;exact⟨rfl,by kernel_rfl⟩ | 3,hf=>cases hf;exact⟨rfl,by kernel_rfl⟩ | 4,hf=>cases hf;exact⟨rfl,by kernel_rfl⟩ | i+5,hf=>simp at hf) h
  obtain⟨v0,y0,a0,b0,c0⟩:=hf 0 _ rfl
  obtain⟨v1,y1,a1,b1,c1⟩:=hf 1 _ rfl
  obtain⟨v2,y2,a2,b2,c2⟩:=hf 2 _ rfl
  obtain⟨v3,y3,a3,b3,c3⟩:=hf 3 _ rfl
  obtain⟨v4,y4,a4,b4,c4⟩:=hf 4 _ rfl
  match cs,hl,xs,hxl with
  | [_,_,_,_,_],_,[_,_,_,_,_],_=>
   cases a0;cases a1;cases a2;cases a3;cases a4;cases b0;cases b1;cases b2;cases b3;cases b4
   obtain⟨k,e,e0,_⟩:=DataW.trod_int Tryz.underlying3 c0
   cases e
   obtain⟨n1,r1,e1⟩:=open_bytes Tryz.underlying9 c1
   obtain⟨n2,r2,e2⟩:=open_bytes Tryz.underlying9 c2
   obtain⟨v,la,e,r3,q3⟩:=open_attrs c3
   cases e
   obtain⟨v,ks,e,r4,q4⟩:=open_rep z_node QNd Tryz.underlying24 (by kernel_rfl) (by omega) (fun n' cs' x' hn' h'=>ih (by omega) h') c4
   cases e
   refine⟨.mk k n1 n2 la ks,?_,?_⟩
   ·
    rw[nodeC_eq]
    exact Reps.cons (Rep.int _ _ _ _) (Reps.cons r1 (Reps.cons r2 (Reps.cons r3 (Reps.cons r4 (Reps.nil _ _)))))
   ·
    have h3:=bulk_slice cntA rfl (fun es=>bulk_attrs la es) q3
    have h4:=bulk_slice cntL rfl (fun es=>bulk_nodes ks es) q4
    unfold QNd
    rw[hx,cntN]
    simp only[List.map_cons,List.map_nil,e0,e1,e2,Rows.uptoBulk,Rows.uptoBulkAll]
    omega
theorem ql_len {α:Type} {Q:α→DataW H→Prop} {l:List α} {es:List (DataW H)} (h:QLd Q l es):l.length≤Rows.uptoBulkAll es:=by
 have h1:∀es:List (DataW H),es.length≤Rows.uptoBulkAll es:=fun es=>by
  induction es with
  | nil=>simp[Rows.uptoBulkAll]
  | cons e r ih=>
   rw[Rows.uptoBulkAll,List.length_cons]
   have:1≤Rows.uptoBulk e:=by
    cases e with
    | lit l=>cases l<;> simp[Rows.uptoBulk]
    | _=>simp[Rows.uptoBulk]
   omega
 rw[←h.1];exact h1 es
theorem part_le:∀(es:List (DataW H)) (e:DataW H),e∈es→Rows.uptoBulk e≤Rows.uptoBulkAll es
 | [],_,h=>by cases h
 | a::r,e,h=>by
  rw[Rows.uptoBulkAll]
  rcases List.mem_cons.1 h with h | h
  ·
   rw[h];omega
  ·
   have:=part_le r e h;omega
theorem qs_len {α:Type} {Q:α→DataW H→Prop} {l:List α} {d:DataW H} (h:QSd Q l d):l.length≤Rows.uptoBulk d:=by
 have:=bulk_slice List.length rfl (fun es=>ql_len (es:=es)) h;omega
theorem qs_mem {α:Type} {Q:α→DataW H→Prop} {l:List α} {d:DataW H} (h:QSd Q l d) (y:α) (hy:y∈l):∃e,Q y e∧Rows.uptoBulk e≤Rows.uptoBulk d:=by
 rcases h with⟨rfl,rfl⟩ | ⟨es,sp,rfl,hq⟩
 ·
  cases hy
 ·
  obtain⟨i,hi,rfl⟩:=List.mem_iff_getElem.1 hy
  have hie:i< es.length:=by rw[hq.1];exact hi
  refine⟨es[i],hq.2 i _ _ (List.getElem?_eq_getElem hi) (List.getElem?_eq_getElem hie),?_⟩
  have:=part_le es es[i] (List.getElem_mem hie)
  simp only[Rows.uptoBulk];omega
theorem texts_bulk {l:List Bytes} {d:DataW H} (h:QSd QBd l d) (y:Bytes) (hy:y∈l):y.length≤Rows.uptoBulk d:=by
 obtain⟨e,he,hb⟩:=qs_mem h y hy
 have he':e= .lit (.string y):=he
 rw[he']at hb
 simp only[Rows.uptoBulk]at hb;omega
theorem rules_b {l:List Rule} {d:DataW H} (h:QSd QRd l d) (hd:Rows.uptoBulk d≤1048576):∀r∈l,r.path.length≤1048576∧r.keys.length≤1048576∧(∀x∈r.path,x.length≤1048576)∧∀x∈r.keys,x.length≤1048576:=fun r hr=>by
 obtain⟨e,⟨d1,d2,rfl,q1,q2⟩,hb⟩:=qs_mem h r hr
 simp only[Rows.uptoBulk,Rows.uptoBulkAll]at hb
 have h1:=qs_len q1
 have h2:=qs_len q2
 exact⟨by omega,by omega,fun x hx=>by have:=texts_bulk q1 x hx;omega,fun x hx=>by have:=texts_bulk q2 x hx;omega⟩
theorem open_nodeV {n:Nat} {cs:List Value} {x:DataW H×List MemPlace} (h:DataW.trod enc Tryz.prog w base (fun _=>true) held n 26 cs=some x):∃(a:Node) (va vk:Value),cs= [.int .i64 a.kind,.string (bs a.name),.string (bs a.text),va,vk]∧Rep w (fun _=>True) va (attrsD a.attrs)∧Rep w (fun _=>True) vk (nodesD a.kids)∧QNd a x.1:=by
 obtain⟨a,hr,hq⟩:=open_node n (Nat.le_refl _) h
 rw[nodeC_eq]at hr
 have hl:cs.length=5:=hr.1
 match cs,hl with
 | [c0,c1,c2,c3,c4],_=>
  have r0:Rep w (fun _=>True) c0 (intD a.kind):=hr.2 0 _ _ rfl rfl
  have r1:Rep w (fun _=>True) c1 (strD a.name):=hr.2 1 _ _ rfl rfl
  have r2:Rep w (fun _=>True) c2 (strD a.text):=hr.2 2 _ _ rfl rfl
  refine⟨a,c3,c4,?_,hr.2 3 _ _ rfl rfl,hr.2 4 _ _ rfl rfl,hq⟩
  rw[Rep.is r0,Rep.is r1,Rep.is r2]
end
end Go.Proofs.YtebhipeeogoagaaGreatDoor
