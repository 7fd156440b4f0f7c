/-
 Plain:characters;what is written is its tokens. Helper lemmas;no statement of the seat is proved here.
-/
import Derived.Test.YtcfibjiikhnfhaaGreatDoorU25
namespace Go.Proofs.YtcfibjiikhnfhaaGreatDoor
open Go.RowKit
set_option maxHeartbeats 32000000
set_option maxRecDepth 100000
set_option linter.unusedVariables false
set_option linter.unusedSimpArgs false
theorem decN_ok (n b0 b1 b2 b3:Nat) (h:¬((Lib.decodeN n b0 b1 b2 b3).1=65533∧(Lib.decodeN n b0 b1 b2 b3).2< 2)):
  (b0< 128∧Lib.decodeN n b0 b1 b2 b3=(b0,1))∨(128≤b0∧2≤(Lib.decodeN n b0 b1 b2 b3).2∧(Lib.decodeN n b0 b1 b2 b3).2≤n∧(Lib.decodeN n b0 b1 b2 b3).2≤4∧
   128≤b1∧(3≤(Lib.decodeN n b0 b1 b2 b3).2→128≤b2)∧(4≤(Lib.decodeN n b0 b1 b2 b3).2→128≤b3)∧
   ∀n' c1 c2 c3,(Lib.decodeN n b0 b1 b2 b3).2≤n'→c1=b1→(3≤(Lib.decodeN n b0 b1 b2 b3).2→c2=b2)→(4≤(Lib.decodeN n b0 b1 b2 b3).2→c3=b3)→Lib.decodeN n' b0 c1 c2 c3=Lib.decodeN n b0 b1 b2 b3):=by
 unfold Lib.decodeN at h⊢
 by_cases h0:b0< 128
 ·
  left;rw[if_pos h0];exact⟨h0,rfl⟩
 right
 rw[if_neg h0]at h⊢
 by_cases h1:b0 / 32=6∧(1< n∧b1 / 64=2)
 ·
  rw[if_pos h1]at h⊢
  split at h
  ·
   rename_i h2
   rw[if_pos h2]
   refine⟨by omega,by simp,by simp;omega,by simp,by omega,by simp,by simp,?_⟩
   intro n' c1 c2 c3 hn e1 e2 e3
   simp only at hn
   subst e1
   rw[if_neg h0,if_pos ⟨h1.1,by omega,h1.2.2⟩,if_pos h2]
  ·
   simp at h
 rw[if_neg h1]at h⊢
 by_cases h3:b0 / 16=14∧(1< n∧b1 / 64=2)∧(2< n∧b2 / 64=2)
 ·
  rw[if_pos h3]at h⊢
  split at h
  ·
   rename_i h2
   rw[if_pos h2]
   refine⟨by omega,by simp,by simp;omega,by simp,by omega,by simp;omega,by simp,?_⟩
   intro n' c1 c2 c3 hn e1 e2 e3
   simp only at hn e2
   have e2:=e2 (by omega)
   subst e1 e2
   rw[if_neg h0,if_neg (by omega),if_pos ⟨h3.1,⟨by omega,h3.2.1.2⟩,by omega,h3.2.2.2⟩,if_pos h2]
  ·
   simp at h
 rw[if_neg h3]at h⊢
 by_cases h4:b0 / 8=30∧(1< n∧b1 / 64=2)∧(2< n∧b2 / 64=2)∧(3< n∧b3 / 64=2)
 ·
  rw[if_pos h4]at h⊢
  split at h
  ·
   rename_i h2
   rw[if_pos h2]
   refine⟨by omega,by simp,by simp;omega,by simp,by omega,by simp;omega,by simp;omega,?_⟩
   intro n' c1 c2 c3 hn e1 e2 e3
   simp only at hn e2 e3
   have e2:=e2 (by omega)
   have e3:=e3 (by omega)
   subst e1 e2 e3
   rw[if_neg h0,if_neg (by omega),if_neg (by omega),if_pos ⟨h4.1,⟨by omega,h4.2.1.2⟩,⟨by omega,h4.2.2.1.2⟩,by omega,h4.2.2.2.2⟩,if_pos h2]
  ·
   simp at h
 rw[if_neg h4]at h
 simp at h
theorem decB_L (l:Bytes) (h:l≠ []):Lib.decodeGoB (bs l)=Lib.decodeL l:=by
 have hs:¬(bs l).size=0:=by rw[bs_size];exact fun e=>h (List.eq_nil_of_length_eq_zero e)
 unfold Lib.decodeGoB
 rw[if_neg hs,←Lib.decodeL_drop,List.drop_zero]
 congr 1
theorem getD_app {l m:Bytes} {k:Nat} (h:k< l.length):(l++m).getD k 0=l.getD k 0:=by simp[List.getD,List.getElem?_append_left h]
theorem next_cases {l:Bytes} (h:0< (nextS l).2):nextS l=Lib.decodeL l∧charR (nextS l).1=true∧(nextS l).2≤l.length∧
  ((∃c r,l=c::r∧c.toNat< 128∧nextS l=(c.toNat,1))∨(2≤(nextS l).2∧∀c∈l.take (nextS l).2,128≤c.toNat))∧
  ∀m,nextS (l.take (nextS l).2++m)=nextS l:=by
 have hne:l≠ []:=by rintro rfl;simp[nextS]at h
 have hle:=next_le l
 obtain⟨c,r,rfl⟩:∃c r,l=c::r:=by cases l with
  | nil=>exact absurd rfl hne
  | cons c r=>exact⟨c,r,rfl⟩
 have e:=nextS_eq (c::r) hne
 rw[decB_L _ hne]at e
 split at e
 ·
  rw[e]at h;exact absurd h (by simp)
 ·
  rename_i h1
  split at e
  ·
   rename_i h2
   have hD:=Lib.decodeL_N (c::r)
   have k0:(c::r).getD 0 0=c:=rfl
   rw[k0]at hD
   rw[hD]at h1
   have hcase:=decN_ok _ _ _ _ _ h1
   rw[←hD]at hcase
   refine⟨e,by rw[e];exact h2,hle,?_,fun m=> ?_⟩
   ·
    rcases hcase with⟨a,b⟩ | ⟨a0,a1,a2,a3,a4,a5,a6,_⟩
    ·
     exact .inl ⟨c,r,rfl,a,by rw[e];exact b⟩
    ·
     right
     rw[e]
     refine⟨a1,fun x hx=> ?_⟩
     obtain⟨i,hi,rfl⟩:=List.getElem_of_mem hx
     rw[List.length_take]at hi
     rw[List.getElem_take]
     have hg:∀k (hk:k< (c::r).length),((c::r).getD k 0)=(c::r)[k]:=fun k hk=>by rw[List.getD_eq_getElem?_getD,List.getElem?_eq_getElem hk];rfl
     have hi4:i< 4:=by omega
     have hl:i< (c::r).length:=by omega
     rw[←hg i hl]
     match i,hi4 with
     | 0,_=>exact a0
     | 1,_=>exact a4
     | 2,_=>exact a5 (by omega)
     | 3,_=>exact a6 (by omega)
   ·
    obtain⟨d,hd⟩:∃d,(nextS (c::r)).2=d:=⟨_,rfl⟩
    rw[hd]at hle h⊢
    obtain⟨d,rfl⟩:∃d',d=d'+1:=⟨d - 1,by omega⟩
    have hne2:(c::r).take (d+1)++m≠ []:=by simp
    have hED:Lib.decodeL ((c::r).take (d+1)++m)=Lib.decodeL (c::r):=by
     rw[Lib.decodeL_N ((c::r).take (d+1)++m)]
     have z0:((c::r).take (d+1)++m).getD 0 0=c:=by simp
     rw[z0]
     have hd2:(Lib.decodeL (c::r)).2=d+1:=by rw[←e];exact hd
     rcases hcase with⟨a,b⟩ | ⟨a0,a1,a2,a3,a4,a5,a6,a7⟩
     ·
      rw[b]
      exact Lib.decodeN_ascii _ _ _ _ _ a
     ·
      rw[hd2]at a1 a2 a3 a5 a6 a7
      have hlen:(((c::r).take (d+1))).length=d+1:=by rw[List.length_take];omega
      have hgt:∀k,k< d+1→((c::r).take (d+1)++m).getD k 0=(c::r).getD k 0:=fun k hk=>by
       rw[getD_app (by omega),Lib.getD_takeU _ _ _ hk]
      exact a7 _ _ _ _ (by rw[List.length_append];omega) (by rw[hgt 1 (by omega)]) (fun h=>by rw[hgt 2 (by omega)]) (fun h=>by rw[hgt 3 (by omega)])
    rw[nextS_eq _ hne2,decB_L _ hne2,hED,nextS_eq _ hne,decB_L _ hne]
  ·
   rw[e]at h;exact absurd h (by simp)
theorem next_app {l:Bytes} (m:Bytes) (h:0< (nextS l).2):nextS (l++m)=nextS l:=by
 have e:=(next_cases h).2.2.2.2 (l.drop (nextS l).2++m)
 rw[←List.append_assoc,List.take_append_drop]at e
 exact e
inductive Chs:Bytes→Prop
 | nil:Chs []
 | step (l:Bytes) (h:0< (nextS l).2) (t:Chs (l.drop (nextS l).2)):Chs l
theorem badGo_chs:∀(f i:Nat) (l:Bytes),l.length≤f→(badGo f i l< 0↔Chs l)
 | 0,i,l,hf=>by
  obtain rfl:l= []:=List.eq_nil_of_length_eq_zero (by omega)
  exact⟨fun _=> .nil,fun _=>by unfold badGo;decide⟩
 | f+1,i,l,hf=>by
  unfold badGo
  by_cases h:l= []
  ·
   rw[if_pos h];subst h;exact⟨fun _=> .nil,fun _=>by decide⟩
  ·
   rw[if_neg h]
   by_cases h0:(nextS l).2=0
   ·
    rw[if_pos h0]
    refine⟨fun e=>absurd e (by omega),fun e=> ?_⟩
    cases e with
    | nil=>exact absurd rfl h
    | step _ h1 _=>omega
   ·
    rw[if_neg h0,badGo_chs f _ _ (by rw[List.length_drop];omega)]
    refine⟨fun e=> .step l (by omega) e,fun e=> ?_⟩
    cases e with
    | nil=>exact absurd rfl h
    | step _ h1 h2=>exact h2
theorem bad_chs (l:Bytes):badS l< 0↔Chs l:=badGo_chs _ _ _ (Nat.le_refl _)
theorem badGo_neg:∀(f i:Nat) (l:Bytes),badGo f i l< 0→badGo f i l= -1
 | 0,i,l,_=>rfl
 | f+1,i,l,h=>by
  unfold badGo at h⊢
  split at h
  ·
   rename_i e;rw[if_pos e]
  ·
   rename_i e
   rw[if_neg e]
   split at h
   ·
    omega
   ·
    rename_i e2;rw[if_neg e2];exact badGo_neg f _ _ h
theorem Chs.app {l m:Bytes} (h:Chs l) (hm:Chs m):Chs (l++m):=by
 induction h with
 | nil=>exact hm
 | step l h t ih=>
  have e:=next_app m h
  have hle:=next_le l
  refine .step _ (by rw[e];exact h) ?_
  rw[e,List.drop_append_of_le_length hle]
  exact ih
theorem charR_all (c:UInt8) (h:charR c.toNat=true) (h2:c.toNat< 128):Chs [c]:=by
 have e:nextS [c]=(c.toNat,1):=by
  show(if c< 128 then _ else _)=_
  rw[if_pos (show c< 128 from h2),if_pos h]
 exact .step _ (by rw[e];exact Nat.one_pos) (by rw[e];exact .nil)
def ascB (c:UInt8):Bool:=decide (c.toNat< 128) && charR c.toNat
theorem chs_asc:∀l:Bytes,l.all ascB=true→Chs l
 | [],_=> .nil
 | c::r,h=>by
  rw[List.all_cons,Bool.and_eq_true]at h
  have h1:=h.1
  unfold ascB at h1
  rw[Bool.and_eq_true,decide_eq_true_eq]at h1
  exact(charR_all c h1.2 h1.1).app (chs_asc r h.2)
theorem escC_hi (v:Bool) {c:UInt8} (h:128≤c.toNat):escC v c= [c]:=by
 unfold escC
 rw[if_neg (by omega),if_neg (by omega),if_neg (by omega),if_neg (by omega),if_neg (by omega),if_neg (by omega),if_neg (by omega)]
theorem escS_hi (v:Bool):∀l:Bytes,(∀c∈l,128≤c.toNat)→escS v l=l
 | [],_=>rfl
 | c::r,h=>by
  have h1:=escS_hi v r fun x hx=>h x (List.mem_cons_of_mem _ hx)
  unfold escS at h1⊢
  rw[List.flatMap_cons,h1,escC_hi v (h c (List.mem_cons_self ..))];rfl
theorem escC_chs (v:Bool) {c:UInt8} (h:charR c.toNat=true) (h2:c.toNat< 128):Chs (escC v c):=by
 unfold escC
 repeat' split
 all_goals first | exact charR_all c h h2 | exact chs_asc _ (by decide)
theorem escS_app (v:Bool) (l m:Bytes):escS v (l++m)=escS v l++escS v m:=by unfold escS;rw[List.flatMap_append]
theorem Chs.esc (v:Bool) {l:Bytes} (h:Chs l):Chs (escS v l):=by
 induction h with
 | nil=>exact .nil
 | step l h t ih=>
  obtain⟨e1,e2,e3,e4,e5⟩:=next_cases h
  rcases e4 with⟨c,r,rfl,hc,e⟩ | ⟨h2,hall⟩
  ·
   rw[e]at ih e2
   have:escS v (c::r)=escC v c++escS v r:=by unfold escS;rw[List.flatMap_cons]
   rw[this]
   exact(escC_chs v e2 hc).app ih
  ·
   have e6:escS v l=l.take (nextS l).2++escS v (l.drop (nextS l).2):=by
    conv=>lhs;rw[←List.take_append_drop (nextS l).2 l]
    rw[escS_app,escS_hi v _ hall]
   rw[e6]
   have e7:=e5 (escS v (l.drop (nextS l).2))
   refine .step _ (by rw[e7];exact h) ?_
   rw[e7,List.drop_append_of_le_length (by rw[List.length_take];omega),List.drop_of_length_le (by rw[List.length_take];omega)]
   exact ih
theorem goes_char {r:Nat} (h:goesR r=true):charR r=true:=by
 unfold goesR beginsR inR at h
 unfold charR
 simp only[List.any_cons,List.any_nil,Bool.or_false,Bool.or_eq_true,Bool.and_eq_true,decide_eq_true_eq]at h⊢
 omega
theorem goE_next {f:Nat} {b:Bool} {l:Bytes} (hne:l≠ []) (hv:Lib.validD l=true) (hg:goE (f+1) b l=true):
  0< (nextS l).2∧Lib.validD (l.drop (nextS l).2)=true∧goE f false (l.drop (nextS l).2)=true∧(b && !beginsR (nextS l).1)=false∧goesR (nextS l).1=true:=by
 rw[goE_at f b l hne]at hg
 rw[Lib.validD_step l hne]at hv
 split at hg
 ·
  cases hg
 ·
  rename_i h1
  split at hv
  ·
   cases hv
  ·
   rename_i h2
   rw[Bool.not_eq_true,Bool.or_eq_false_iff]at h1
   have hgo:goesR (Lib.decodeL l).1=true:=by simpa using h1.2
   have h3:¬((Lib.decodeL l).1=65533∧(Lib.decodeL l).2< 2):=fun e=>h2 ⟨e.1,by
    have:=Lib.decodeL_width l
    have:=List.length_pos_iff.2 hne
    omega⟩
   have e:nextS l=Lib.decodeL l:=by
    rw[nextS_eq l hne,decB_L l hne,if_neg h3,if_pos (goes_char hgo)]
   rw[e]
   refine⟨?_,hv,hg,h1.1,hgo⟩
   rw[←e]
   exact goesR_pos l hne (by rw[e];exact hgo)
theorem name_chs:∀(f:Nat) (b:Bool) (l:Bytes),l.length≤f→Lib.validD l=true→goE f b l=true→Chs l
 | 0,b,l,hf,_,_=>by
  obtain rfl:l= []:=List.eq_nil_of_length_eq_zero (by omega)
  exact .nil
 | f+1,b,l,hf,hv,hg=>by
  by_cases hne:l= []
  ·
   subst hne;exact .nil
  ·
   obtain⟨h1,h2,h3,_,_⟩:=goE_next hne hv hg
   exact .step l h1 (name_chs f false _ (by rw[List.length_drop];omega) h2 h3)
theorem nmL_name (c:UInt8) (rest:Bytes) (hc:c.toNat< 128) (hg:goesR c.toNat=false):∀(k f:Nat) (b:Bool) (l:Bytes),l.length≤k→l.length≤f→Lib.validD l=true→goE k b l=true→nmL f b (l++c::rest)=l.length:=by
 intro k
 induction k with
 | zero=>
  intro f b l hk hf hv _
  obtain rfl:l= []:=List.eq_nil_of_length_eq_zero (by omega)
  cases f with
  | zero=>rfl
  | succ f=>
   rw[nmL,if_neg (by simp),if_pos]
   ·
    rfl
   ·
    have:goesR (nextS ([]++c::rest)).1=false:=by
     show goesR (if c< 128 then(if charR c.toNat=true then(c.toNat,1)else(0,0))else _).1=false
     rw[if_pos (show c< 128 from hc)]
     split
     ·
      exact hg
     ·
      decide
    rw[this];simp
 | succ k ih=>
  intro f b l hk hf hv hgo
  by_cases hne:l= []
  ·
   subst hne
   cases f with
   | zero=>rfl
   | succ f=>
    rw[nmL,if_neg (by simp),if_pos]
    ·
     rfl
    ·
     have:goesR (nextS ([]++c::rest)).1=false:=by
      show goesR (if c< 128 then(if charR c.toNat=true then(c.toNat,1)else(0,0))else _).1=false
      rw[if_pos (show c< 128 from hc)]
      split
      ·
       exact hg
      ·
       decide
     rw[this];simp
  ·
   obtain⟨h1,h2,h3,h4,h5⟩:=goE_next hne hv hgo
   have hle:=next_le l
   obtain⟨f,rfl⟩:∃f',f=f'+1:=⟨f - 1,by omega⟩
   have e:=next_app (c::rest) h1
   rw[nmL,if_neg (by simp),e,h4,h5,if_neg (by simp),List.drop_append_of_le_length hle,ih f false _ (by rw[List.length_drop];omega) (by rw[List.length_drop];omega) h2 h3,List.length_drop]
   omega
theorem name_len {nm:Bytes} (h:nameE nm=true) (c:UInt8) (rest:Bytes) (hc:c.toNat< 128) (hg:goesR c.toNat=false):nameS (nm++c::rest)=nm.length∧Chs nm∧nm≠ []:=by
 unfold nameE at h
 rw[Bool.and_eq_true,Bool.and_eq_true,decide_eq_true_eq]at h
 exact⟨nmL_name c rest hc hg nm.length _ true nm (Nat.le_refl _) (by rw[List.length_append];omega) h.1 h.2.1,name_chs _ _ _ (Nat.le_refl _) h.1 h.2.1,h.2.2⟩
def openT (nm:Bytes) (la:List Attr):Bytes:= [60]++nm++la.flatMap attrT
mutual
def tkN:Nat→Node→List TokX
 | p,.mk k nm tx la ks=>
  if k=2 then [⟨4,p,[],tx,[]⟩]else if k=3 then [⟨6,p,[],tx,[]⟩]else if k=4 then [⟨7,p,nm,tx,[]⟩]
  else if ks= []then [⟨2,p,nm,[],la⟩]
  else⟨1,p,nm,[],la⟩::(tkL (p+((openT nm la).length+1)) ks++ [⟨3,p+((openT nm la).length+1)+(txtL ks).length,nm,[],[]⟩])
def tkL:Nat→List Node→List TokX
 | _,[]=> []
 | p,k::r=>tkN p k++tkL (p+(txtN k).length) r
end
theorem u8_eq {c:UInt8} {k:Nat} (hk:k< 256) (h:c.toNat=k):c=UInt8.ofNat k:=by rw[←h,UInt8.ofNat_toNat]
theorem escC_pcV (c:UInt8):PcR (plV 34) (escC true c) [c]:=by
 unfold escC
 split
 ·
  rename_i h;rw[u8_eq (by decide) h];exact .ref [97,109,112] 38 [] [] (by decide) .nil
 split
 ·
  rename_i h;rw[u8_eq (by decide) h];exact .ref [108,116] 60 [] [] (by decide) .nil
 split
 ·
  rename_i h;rw[u8_eq (by decide) h];exact .ref [35,49,51] 13 [] [] (by decide) .nil
 split
 ·
  rename_i h;exact absurd h.2 (by decide)
 split
 ·
  rename_i h;rw[u8_eq (by decide) h.1];exact .ref [113,117,111,116] 34 [] [] (by decide) .nil
 split
 ·
  rename_i h;rw[u8_eq (by decide) h.1];exact .ref [35,57] 9 [] [] (by decide) .nil
 split
 ·
  rename_i h;rw[u8_eq (by decide) h.1];exact .ref [35,49,48] 10 [] [] (by decide) .nil
 rename_i h1 h2 h3 h4 h5 h6 h7
 refine .one c [] [] ?_ .nil
 unfold plV
 simp only[Bool.and_eq_true,bne_iff_ne,ne_eq]
 refine⟨⟨⟨⟨⟨?_,?_⟩,?_⟩,?_⟩,?_⟩,?_⟩<;> (rintro rfl;first | exact h1 rfl | exact h2 rfl | exact h3 rfl | exact h5 ⟨rfl,rfl⟩ | exact h6 ⟨rfl,rfl⟩ | exact h7 ⟨rfl,rfl⟩)
theorem escC_pcC (c:UInt8):PcR plC (escC false c) [c]:=by
 unfold escC
 split
 ·
  rename_i h;rw[u8_eq (by decide) h];exact .ref [97,109,112] 38 [] [] (by decide) .nil
 split
 ·
  rename_i h;rw[u8_eq (by decide) h];exact .ref [108,116] 60 [] [] (by decide) .nil
 split
 ·
  rename_i h;rw[u8_eq (by decide) h];exact .ref [35,49,51] 13 [] [] (by decide) .nil
 split
 ·
  rename_i h;rw[u8_eq (by decide) h.1];exact .ref [103,116] 62 [] [] (by decide) .nil
 split
 ·
  rename_i h;exact absurd h.2 (by decide)
 split
 ·
  rename_i h;exact absurd h.2 (by decide)
 split
 ·
  rename_i h;exact absurd h.2 (by decide)
 rename_i h1 h2 h3 h4 h5 h6 h7
 refine .one c [] [] ?_ .nil
 unfold plC
 simp only[Bool.and_eq_true,bne_iff_ne,ne_eq]
 refine⟨⟨⟨?_,?_⟩,?_⟩,?_⟩<;> (rintro rfl;first | exact h1 rfl | exact h2 rfl | exact h3 rfl | exact h4 ⟨rfl,rfl⟩)
theorem escS_pc {ok:UInt8→Bool} {v:Bool} (h:∀c,PcR ok (escC v c) [c]):∀l:Bytes,PcR ok (escS v l) l
 | []=> .nil
 | c::r=>by
  have h1:=(h c).app (escS_pc h r)
  have e:escS v (c::r)=escC v c++escS v r:=by unfold escS;rw[List.flatMap_cons]
  rw[e]
  exact h1
theorem name_first {nm:Bytes} (h:nameE nm=true):∃c r,nm=c::r∧(c.toNat< 128→beginsR c.toNat=true):=by
 unfold nameE at h
 rw[Bool.and_eq_true,Bool.and_eq_true,decide_eq_true_eq]at h
 obtain⟨hv,hg,hne⟩:=h
 cases nm with
 | nil=>exact absurd rfl hne
 | cons c r=>
  refine⟨c,r,rfl,fun hc=> ?_⟩
  obtain⟨h1,h2,h3,h4,h5⟩:=goE_next (f:=r.length) hne hv hg
  obtain⟨e1,e2,e3,e4,e5⟩:=next_cases h1
  have e:nextS (c::r)=(c.toNat,1):=by
   rcases e4 with⟨c',r',e,hc',e6⟩ | ⟨_,hall⟩
   ·
    cases e;exact e6
   ·
    exfalso
    have:=hall c (by
     obtain⟨k,hk⟩:∃k,(nextS (c::r)).2=k+1:=⟨(nextS (c::r)).2 - 1,by omega⟩
     rw[hk,List.take_succ_cons];exact List.mem_cons_self ..)
    omega
  rw[e]at h4
  simpa using h4
theorem first_ne {c:UInt8} (h:c.toNat< 128→beginsR c.toNat=true) (k:Nat) (hk:k< 128) (hb:beginsR k=false):c≠UInt8.ofNat k:=by
 rintro rfl
 have e:(UInt8.ofNat k).toNat=k:=by simp;omega
 rw[e]at h
 rw[h hk]at hb;cases hb
theorem blS_zero {c:UInt8} {r:Bytes} (h:blankB c=false):blS (c::r)=0:=by
 unfold blS
 rw[List.takeWhile_cons_of_neg (by simp[h])];rfl
theorem first_blank {c:UInt8} (h:c.toNat< 128→beginsR c.toNat=true):blankB c=false:=by
 cases hb:blankB c with
 | false=>rfl
 | true=>
  exfalso
  unfold blankB blankI at hb
  simp only[Bool.or_eq_true,beq_iff_eq]at hb
  have h4:c.toNat=9∨c.toNat=10∨c.toNat=13∨c.toNat=32:=by omega
  rcases h4 with h4 | h4 | h4 | h4<;> (rw[h4]at h;exact absurd (h (by decide)) (by decide))
theorem drop_more {s:Bytes} {p:Nat} {a b:Bytes} (h:s.drop p=a++b):s.drop (p+a.length)=b:=by
 rw[←List.drop_drop,h,List.drop_left]
theorem drop_more' {s:Bytes} {p q:Nat} {a b:Bytes} (h:s.drop p=a++b) (hq:q=p+a.length):s.drop q=b:=by subst hq;exact drop_more h
def TksTo (s:Bytes):Nat→List TokX→Nat→Prop
 | p,[],e=>p=e
 | p,t::r,e=>∃q,TokR s p t q∧TksTo s q r e
theorem TksTo.app {s:Bytes}:∀{l m:List TokX} {p q e:Nat},TksTo s p l q→TksTo s q m e→TksTo s p (l++m) e
 | [],m,p,q,e,h,h2=>by cases h;exact h2
 | t::r,m,p,q,e,⟨x,h,h1⟩,h2=>⟨x,h,TksTo.app h1 h2⟩
theorem TksTo.all {s:Bytes}:∀{l:List TokX} {p:Nat},TksTo s p l s.length→TksR s p l
 | [],p,h=>h
 | t::r,p,⟨x,h,h1⟩=>⟨x,h,TksTo.all h1⟩
theorem name_at {s nm:Bytes} {p:Nat} {c:UInt8} {r:Bytes} (hn:nameE nm=true) (h:s.drop p=nm++c::r) (hc:c.toNat< 128) (hg:goesR c.toNat=false):nameS (s.drop p)=nm.length∧(s.drop p).take nm.length=nm∧0< nm.length:=by
 have h1:=name_len hn c r hc hg
 rw[h]
 exact⟨h1.1,List.take_left,List.length_pos_iff.2 h1.2.2⟩
theorem att_at {s:Bytes} {p:Nat} {a:Attr} {r:Bytes} (hn:nameE a.n=true) (h:s.drop p=a.n++61::34::(escS true a.v++34::r)):AttR s p a (p+a.n.length+(escS true a.v).length+3):=by
 obtain⟨h1,h2,h3⟩:=name_at hn h (by decide) (by decide)
 have h4:s.drop (p+a.n.length)=61::34::(escS true a.v++34::r):=drop_more h
 have h5:s.drop (p+a.n.length+1)=34::(escS true a.v++34::r):=drop_more (a:= [61]) h4
 refine⟨a.n.length,0,0,34,escS true a.v,34::(escS true a.v++34::r),r,h1,h3,h2.symm,?_,h4,?_,.inl rfl,h5,escS_pc escC_pcV a.v,by omega⟩
 ·
  rw[h4];exact blS_zero (by decide)
 ·
  show blS (s.drop (p+a.n.length+1))=0
  rw[h5];exact blS_zero (by decide)
theorem tag_at {s:Bytes} {k:Int} {tl r:Bytes} {d:Nat} (hk:(k=1∧tl=62::r∧d=1)∨(k=2∧tl=47::62::r∧d=2)):∀(R A:List Attr) (q:Nat),((A++R).map (·.n)).Nodup→(∀a∈R,nameE a.n=true)→s.drop q=R.flatMap attrT++tl→TagR s q A k (A++R) (q+(R.flatMap attrT).length+d)
 | [],A,q,hn,ha,h=>by
  rw[List.append_nil]
  rw[List.flatMap_nil,List.nil_append]at h
  rcases hk with⟨rfl,rfl,rfl⟩ | ⟨rfl,rfl,rfl⟩
  ·
   have hb:blS (s.drop q)=0:=by rw[h];exact blS_zero (by decide)
   exact TagR.gt' (m:=q) (r:=r) (by rw[hb];rfl) h (by simp)
  ·
   have hb:blS (s.drop q)=0:=by rw[h];exact blS_zero (by decide)
   exact TagR.sl' (m:=q) (r:=r) (by rw[hb];rfl) h (by simp)
 | a::R,A,q,hn,ha,h=>by
  have ha1:=ha a (List.mem_cons_self ..)
  obtain⟨c,r',hc,hf⟩:=name_first ha1
  have hat:attrT a=32::(a.n++61::34::(escS true a.v++ [34])):=by unfold attrT;simp
  have h1:s.drop q= [32]++(a.n++61::34::(escS true a.v++34::(R.flatMap attrT++tl))):=by
   rw[h,List.flatMap_cons,hat];simp
  have h2:s.drop (q+1)=a.n++61::34::(escS true a.v++34::(R.flatMap attrT++tl)):=drop_more h1
  have hb:blS (s.drop q)=1:=by
   rw[h1,hc]
   unfold blS
   rw[List.singleton_append,List.takeWhile_cons_of_pos (by decide),List.cons_append,List.takeWhile_cons_of_neg (by rw[first_blank hf];decide)];rfl
  have hAt:=att_at ha1 h2
  have h3:s.drop (q+1+a.n.length+(escS true a.v).length+3)=R.flatMap attrT++tl:=by
   have e:s.drop (q+1)=(a.n++61::34::(escS true a.v++ [34]))++(R.flatMap attrT++tl):=by rw[h2];simp
   exact drop_more' e (by simp;omega)
  have hl:(List.flatMap attrT (a::R)).length=1+a.n.length+(escS true a.v).length+3+(R.flatMap attrT).length:=by
   rw[List.flatMap_cons,hat];simp;omega
  have ih:=tag_at hk R (A++ [a]) (q+1+a.n.length+(escS true a.v).length+3) (by rw[List.append_assoc];exact hn) (fun x hx=>ha x (List.mem_cons_of_mem _ hx)) h3
  rw[List.append_assoc]at ih
  have he:q+1+a.n.length+(escS true a.v).length+3+(R.flatMap attrT).length+d=q+(List.flatMap attrT (a::R)).length+d:=by rw[hl];omega
  rw[he]at ih
  have hq1:q+blS (s.drop q)=q+1:=by rw[hb]
  refine .at' q A k (A++a::R) _ a _ c (r'++61::34::(escS true a.v++34::(R.flatMap attrT++tl))) (by omega) ?_ (first_ne hf 62 (by decide) (by decide)) (first_ne hf 47 (by decide) (by decide)) ?_ ?_ ih
  ·
   rw[hq1,h2,hc];rfl
  ·
   rw[hq1];exact hAt
  ·
   intro x hx e
   rw[List.map_append,List.nodup_append]at hn
   exact hn.2.2 x.n (List.mem_map.2 ⟨x,hx,rfl⟩) a.n (by simp) e
theorem attE_parts {la:List Attr} (h:attE la=true):(la.map (·.n)).Nodup∧∀a∈la,nameE a.n=true∧chE a.v=true:=by
 unfold attE at h
 rw[Bool.and_eq_true,decide_eq_true_eq,List.all_eq_true]at h
 exact⟨h.1,fun a ha=>by have:=h.2 a ha;rwa [Bool.and_eq_true]at this⟩
theorem start_at {s:Bytes} {p:Nat} {nm:Bytes} {la:List Attr} {k:Int} {tl r:Bytes} {d:Nat} (hk:(k=1∧tl=62::r∧d=1)∨(k=2∧tl=47::62::r∧d=2)) (hn:nameE nm=true) (ha:attE la=true) (h:s.drop p=openT nm la++tl):
  TokR s p ⟨k,p,nm,[],la⟩ (p+(openT nm la).length+d):=by
 obtain⟨c,r',hc,hf⟩:=name_first hn
 obtain⟨hnd,hat⟩:=attE_parts ha
 have h0:s.drop p= [60]++(nm++(la.flatMap attrT++tl)):=by rw[h];unfold openT;simp
 have h1:s.drop (p+1)=nm++(la.flatMap attrT++tl):=drop_more h0
 obtain⟨x,xr,hx,hx1,hx2⟩:∃x xr,la.flatMap attrT++tl=x::xr∧x.toNat< 128∧goesR x.toNat=false:=by
  cases la with
  | nil=>rcases hk with⟨_,rfl,_⟩ | ⟨_,rfl,_⟩<;> exact⟨_,_,rfl,by decide,by decide⟩
  | cons a R=>exact⟨32,(a.n++ [61,34]++escS true a.v++ [34])++R.flatMap attrT++tl,by rw[List.flatMap_cons];unfold attrT;simp,by decide,by decide⟩
 obtain⟨g1,g2,g3⟩:=name_at hn (by rw[h1,hx]) hx1 hx2
 have h2:s.drop (p+1+nm.length)=la.flatMap attrT++tl:=drop_more h1
 have ht:=tag_at hk la [] (p+1+nm.length) (by simpa using hnd) (fun a ha=>(hat a ha).1) h2
 have hl:(openT nm la).length=1+nm.length+(la.flatMap attrT).length:=by unfold openT;simp;omega
 rw[List.nil_append,show p+1+nm.length+(la.flatMap attrT).length+d=p+(openT nm la).length+d by rw[hl];omega]at ht
 refine .inr (.inr (.inl ⟨c,r'++(la.flatMap attrT++tl),nm.length,k,la,?_,first_ne hf 33 (by decide) (by decide),first_ne hf 63 (by decide) (by decide),first_ne hf 47 (by decide) (by decide),g1,g3,ht,by rw[g2]⟩))
 rw[h0,hc];rfl
theorem end_at {s:Bytes} {p:Nat} {nm r:Bytes} (hn:nameE nm=true) (h:s.drop p= [60,47]++(nm++62::r)):TokR s p ⟨3,p,nm,[],[]⟩ (p+nm.length+3):=by
 have h1:s.drop (p+2)=nm++62::r:=drop_more h
 obtain⟨g1,g2,g3⟩:=name_at hn h1 (by decide) (by decide)
 have h2:s.drop (p+2+nm.length)=62::r:=drop_more h1
 exact .inr (.inl ⟨nm,_,h,⟨nm.length,0,r,g1,g3,by rw[h2];exact blS_zero (by decide),h2,g2.symm,by omega⟩,rfl⟩)
theorem pre2 {a b x y:UInt8} {l:Bytes}:([a,b]:Bytes).isPrefixOf (x::y::l)=(a==x && b==y):=by simp[List.isPrefixOf]
theorem index_two {a b:UInt8} {v r:Bytes} (h:∀j,j< v.length→([a,b]:Bytes).isPrefixOf ((v++a::b::r).drop j)=false):Lib.index (v++a::b::r) [a,b]=v.length:=by
 refine Lib.index_first (by simp) ?_ fun j hj=>h j hj
 unfold Lib.occAt
 rw[List.drop_left]
 simp[List.isPrefixOf]
theorem index_cm {v r:Bytes} (h1:Lib.contains v [45,45]=false) (h2:Lib.hasSuffix v [45]=false):Lib.index (v++45::45::r) [45,45]=v.length:=by
 have hno:∀j,j≤v.length→Lib.occAt v [45,45] j=false:=by
  rcases Lib.index_spec v [45,45]with⟨_,h⟩ | ⟨i,e,_,_,_⟩
  ·
   exact h
  ·
   unfold Lib.contains at h1
   rw[e]at h1
   exact absurd h1 (by simp)
 refine index_two fun j hj=> ?_
 have hn:=hno j (by omega)
 unfold Lib.occAt at hn
 rw[List.drop_append_of_le_length (by omega)]
 obtain⟨x,l,hx⟩:∃x l,v.drop j=x::l:=by
  cases hd:v.drop j with
  | nil=>have:=congrArg List.length hd;rw[List.length_drop]at this;simp at this;omega
  | cons x l=>exact⟨x,l,rfl⟩
 rw[hx]at hn⊢
 cases l with
 | nil=>
  -- the last character
  have hv:v=v.take j++ [x]:=by rw[←hx,List.take_append_drop]
  have hxx:x≠45:=by
   rintro rfl
   have:Lib.hasSuffix v [45]=true:=by
    unfold Lib.hasSuffix
    rw[List.isSuffixOf_iff_suffix,hv]
    exact⟨v.take j,rfl⟩
   rw[this]at h2;cases h2
  show([45,45]:Bytes).isPrefixOf (x::45::45::r)=false
  rw[pre2]
  have:(45==x)=false:=by rw[beq_eq_false_iff_ne];exact fun e=>hxx e.symm
  rw[this];rfl
 | cons y l=>
  rw[pre2]at hn
  show([45,45]:Bytes).isPrefixOf (x::y::(l++45::45::r))=false
  rw[pre2];exact hn
theorem index_pi {v r:Bytes} (h1:Lib.contains v [63,62]=false):Lib.index (v++63::62::r) [63,62]=v.length:=by
 have hno:∀j,j≤v.length→Lib.occAt v [63,62] j=false:=by
  rcases Lib.index_spec v [63,62]with⟨_,h⟩ | ⟨i,e,_,_,_⟩
  ·
   exact h
  ·
   unfold Lib.contains at h1
   rw[e]at h1
   exact absurd h1 (by simp)
 refine index_two fun j hj=> ?_
 have hn:=hno j (by omega)
 unfold Lib.occAt at hn
 rw[List.drop_append_of_le_length (by omega)]
 obtain⟨x,l,hx⟩:∃x l,v.drop j=x::l:=by
  cases hd:v.drop j with
  | nil=>have:=congrArg List.length hd;rw[List.length_drop]at this;simp at this;omega
  | cons x l=>exact⟨x,l,rfl⟩
 rw[hx]at hn⊢
 cases l with
 | nil=>
  show([63,62]:Bytes).isPrefixOf (x::63::62::r)=false
  rw[pre2]
  simp
 | cons y l=>
  rw[pre2]at hn
  show([63,62]:Bytes).isPrefixOf (x::y::(l++63::62::r))=false
  rw[pre2];exact hn
theorem indexByte_no:∀{v:Bytes} {c:UInt8},Lib.indexByte v c< 0→∀x∈v,x≠c
 | y::r,c,h,x,hx=>by
  have hge:∀l:Bytes, -1≤Lib.indexByte l c:=fun l=>by
   induction l with
   | nil=>exact Int.le_refl _
   | cons z l ih=>unfold Lib.indexByte;split<;> (try split)<;> omega
  unfold Lib.indexByte at h
  split at h
  ·
   exact absurd h (by decide)
  ·
   rename_i hy
   have hy:y≠c:=fun e=>hy (by rw[e];exact beq_self_eq_true c)
   have hr:Lib.indexByte r c< 0:=by
    have:=hge r
    split at h
    ·
     rename_i e;rw[beq_iff_eq]at e;omega
    ·
     omega
   rcases List.mem_cons.1 hx with rfl | hx
   ·
    exact hy
   ·
    exact indexByte_no hr x hx
theorem plE_parts {v:Bytes} (h:plE v=true):Chs v∧∀x∈v,x≠13:=by
 unfold plE chE at h
 rw[Bool.and_eq_true,decide_eq_true_eq,decide_eq_true_eq]at h
 exact⟨(bad_chs v).1 h.1,indexByte_no h.2⟩
theorem cm_at {s:Bytes} {p:Nat} {v r:Bytes} (hc:cmE v=true) (h:s.drop p= [60,33,45,45]++v++ [45,45,62]++r):TokR s p ⟨6,p,[],v,[]⟩ (p+v.length+7):=by
 unfold cmE at hc
 rw[Bool.and_eq_true,Bool.and_eq_true,Bool.not_eq_true',Bool.not_eq_true']at hc
 obtain⟨h1,h2,h3⟩:=hc
 have h0:s.drop p= [60,33,45,45]++(v++45::45::62::r):=by rw[h];simp
 have h4:s.drop (p+4)=v++45::45::62::r:=drop_more h0
 exact .inr (.inr (.inr (.inl ⟨v,⟨r,h0,by rw[h4];exact index_cm h2 h3,(plE_parts h1).2,by omega⟩,rfl⟩)))
theorem pi_at {s:Bytes} {p:Nat} {nm v r:Bytes} (hc:piE nm v=true) (h:s.drop p=(if v= []then [60,63]++nm++ [63,62]else [60,63]++nm++ [32]++v++ [63,62])++r):
  TokR s p ⟨7,p,nm,v,[]⟩ (p+(if v= []then [60,63]++nm++ [63,62]else [60,63]++nm++ [32]++v++ [63,62]).length):=by
 unfold piE at hc
 simp only[Bool.and_eq_true,Bool.not_eq_true',decide_eq_true_eq]at hc
 obtain⟨h1,h2,h3,h4,h5⟩:=hc
 by_cases hv:v= []
 ·
  rw[if_pos hv]at h⊢
  have h0:s.drop p= [60,63]++(nm++63::62::r):=by rw[h];simp
  have h6:s.drop (p+2)=nm++63::62::r:=drop_more h0
  obtain⟨g1,g2,g3⟩:=name_at h1 h6 (by decide) (by decide)
  have h7:s.drop (p+2+nm.length)=63::62::r:=drop_more h6
  refine .inr (.inr (.inr (.inr ⟨nm,v,_,h0,⟨nm.length,0,r,g1,g3,g2.symm,h2,by rw[h7];exact blS_zero (by decide),.inl ⟨rfl,hv,h7,?_⟩⟩,rfl⟩)))
  simp;omega
 ·
  rw[if_neg hv]at h⊢
  have h0:s.drop p= [60,63]++(nm++32::(v++63::62::r)):=by rw[h];simp
  have h6:s.drop (p+2)=nm++32::(v++63::62::r):=drop_more h0
  obtain⟨g1,g2,g3⟩:=name_at h1 h6 (by decide) (by decide)
  have h7:s.drop (p+2+nm.length)= [32]++(v++63::62::r):=drop_more h6
  have h8:s.drop (p+2+nm.length+1)=v++63::62::r:=drop_more h7
  obtain⟨c,v',rfl⟩:∃c v',v=c::v':=by cases v with
   | nil=>exact absurd rfl hv
   | cons c v'=>exact⟨c,v',rfl⟩
  have hb:blankB c=false:=by
   rw[Bool.and_eq_false_iff]at h5
   rcases h5 with h5 | h5
   ·
    exact absurd (of_decide_eq_false h5) (by simp)
   ·
    exact h5
  have hbl:blS (s.drop (p+2+nm.length))=1:=by
   rw[h7]
   unfold blS
   rw[List.singleton_append,List.takeWhile_cons_of_pos (by decide),List.cons_append,List.takeWhile_cons_of_neg (by rw[hb];decide)];rfl
  refine .inr (.inr (.inr (.inr ⟨nm,c::v',_,h0,⟨nm.length,1,r,g1,g3,g2.symm,h2,hbl,.inr ⟨by decide,h8,by rw[h8];exact index_pi h4,(plE_parts h3).2,?_⟩⟩,rfl⟩)))
  simp;omega
theorem txt_lt:∀n:Node,fairE n=true→n.kind≠2→∃c,txtN n=60::c
 | .mk k nm t la ks,hf,hk=>by
  have hk:k≠2:=hk
  rw[fairE]at hf
  rw[txtN,if_neg hk]
  by_cases k1:k=1
  ·
   subst k1
   rw[if_neg (by decide),if_neg (by decide),if_neg (by decide)]
   split<;> exact⟨_,by simp;rfl⟩
  ·
   rw[if_neg k1]at hf
   simp only[Bool.and_eq_true]at hf
   have f3:=hf.2
   unfold leafE at f3
   rw[if_neg hk]at f3
   split
   ·
    exact⟨_,rfl⟩
   ·
    rename_i k3
    rw[if_neg k3]at f3
    split
    ·
     split<;> exact⟨_,rfl⟩
    ·
     rename_i k4;rw[if_neg k4]at f3;cases f3
theorem attrs_chs:∀la:List Attr,(∀a∈la,nameE a.n=true∧chE a.v=true)→Chs (la.flatMap attrT)
 | [],_=> .nil
 | a::R,h=>by
  obtain⟨h1,h2⟩:=h a (List.mem_cons_self ..)
  unfold chE at h2
  rw[decide_eq_true_eq,bad_chs]at h2
  rw[List.flatMap_cons]
  refine Chs.app ?_ (attrs_chs R fun x hx=>h x (List.mem_cons_of_mem _ hx))
  unfold attrT
  exact((((chs_asc [32] (by decide)).app (name_len h1 32 [] (by decide) (by decide)).2.1).app (chs_asc [61,34] (by decide))).app (h2.esc true)).app (chs_asc [34] (by decide))
mutual
theorem txt_chs:∀n:Node,fairE n=true→Chs (txtN n)
 | .mk k nm t la ks,hf=>by
  rw[fairE]at hf
  rw[txtN]
  by_cases k1:k=1
  ·
   subst k1
   rw[if_pos rfl,Bool.and_eq_true,Bool.and_eq_true,Bool.and_eq_true]at hf
   obtain⟨⟨⟨f1,f2⟩,f3⟩,f4⟩:=hf
   have hn:=(name_len f1 32 [] (by decide) (by decide)).2.1
   have ho:Chs ([60]++nm++la.flatMap attrT):=((chs_asc [60] (by decide)).app hn).app (attrs_chs la (attE_parts f3).2)
   rw[if_neg (by decide),if_neg (by decide),if_neg (by decide),if_neg (by decide)]
   split
   ·
    exact ho.app (chs_asc [47,62] (by decide))
   ·
    exact((((ho.app (chs_asc [62] (by decide))).app (txtL_chs ks 0 f4)).app (chs_asc [60,47] (by decide))).app hn).app (chs_asc [62] (by decide))
  ·
   rw[if_neg k1]at hf
   simp only[Bool.and_eq_true]at hf
   have f3:=hf.2
   unfold leafE at f3
   by_cases k2:k=2
   ·
    subst k2
    rw[if_pos rfl]at f3⊢
    simp only[Bool.and_eq_true]at f3
    have h2:=f3.2.2
    unfold chE at h2
    rw[decide_eq_true_eq,bad_chs]at h2
    exact h2.esc false
   ·
    rw[if_neg k2]at f3⊢
    by_cases k3:k=3
    ·
     subst k3
     rw[if_pos rfl]at f3⊢
     simp only[Bool.and_eq_true]at f3
     have h2:=f3.2
     unfold cmE at h2
     rw[Bool.and_eq_true]at h2
     exact((chs_asc [60,33,45,45] (by decide)).app (plE_parts h2.1).1).app (chs_asc [45,45,62] (by decide))
    ·
     rw[if_neg k3]at f3⊢
     by_cases k4:k=4
     ·
      subst k4
      rw[if_pos rfl]at f3⊢
      unfold piE at f3
      simp only[Bool.and_eq_true]at f3
      have hn:=(name_len f3.1 32 [] (by decide) (by decide)).2.1
      have hb:=(chs_asc [60,63] (by decide)).app hn
      split
      ·
       exact hb.app (chs_asc [63,62] (by decide))
      ·
       exact((hb.app (chs_asc [32] (by decide))).app (plE_parts f3.2.2.1).1).app (chs_asc [63,62] (by decide))
     ·
      rw[if_neg k4]at f3;cases f3
theorem txtL_chs:∀(ks:List Node) (w:Int),kidE ks w=true→Chs (txtL ks)
 | [],_,_=>by rw[txtL];exact .nil
 | k::r,w,h=>by
  rw[kidE,Bool.and_eq_true,Bool.and_eq_true]at h
  rw[txtL]
  exact(txt_chs k h.1.1).app (txtL_chs r _ h.2)
end
theorem txt_el0 (nm t:Bytes) (la:List Attr):txtN (.mk 1 nm t la [])=openT nm la++ [47,62]:=by
 rw[txtN,if_neg (by decide),if_neg (by decide),if_neg (by decide),if_neg (by decide)];rfl
theorem txt_el (nm t:Bytes) (la:List Attr) {ks:List Node} (h:ks≠ []):txtN (.mk 1 nm t la ks)=openT nm la++ [62]++txtL ks++ [60,47]++nm++ [62]:=by
 rw[txtN,if_neg (by decide),if_neg (by decide),if_neg (by decide),if_neg (by decide),if_neg (fun e=>h (List.eq_nil_of_length_eq_zero e))];rfl
theorem txt_tx (nm t:Bytes) (la:List Attr) (ks:List Node):txtN (.mk 2 nm t la ks)=escS false t:=by rw[txtN,if_pos rfl]
theorem txt_cm (nm t:Bytes) (la:List Attr) (ks:List Node):txtN (.mk 3 nm t la ks)= [60,33,45,45]++t++ [45,45,62]:=by rw[txtN,if_neg (by decide),if_pos rfl]
theorem txt_pi (nm t:Bytes) (la:List Attr) (ks:List Node):txtN (.mk 4 nm t la ks)=if t= []then [60,63]++nm++ [63,62]else [60,63]++nm++ [32]++t++ [63,62]:=by rw[txtN,if_neg (by decide),if_neg (by decide),if_pos rfl]
theorem tk_el0 (p:Nat) (nm t:Bytes) (la:List Attr):tkN p (.mk 1 nm t la [])= [⟨2,p,nm,[],la⟩]:=by rw[tkN,if_neg (by decide),if_neg (by decide),if_neg (by decide),if_pos rfl]
theorem tk_el (p:Nat) (nm t:Bytes) (la:List Attr) {ks:List Node} (h:ks≠ []):tkN p (.mk 1 nm t la ks)=⟨1,p,nm,[],la⟩::(tkL (p+((openT nm la).length+1)) ks++ [⟨3,p+((openT nm la).length+1)+(txtL ks).length,nm,[],[]⟩]):=by
 rw[tkN,if_neg (by decide),if_neg (by decide),if_neg (by decide),if_neg h]
theorem tk_tx (p:Nat) (nm t:Bytes) (la:List Attr) (ks:List Node):tkN p (.mk 2 nm t la ks)= [⟨4,p,[],t,[]⟩]:=by rw[tkN,if_pos rfl]
theorem tk_cm (p:Nat) (nm t:Bytes) (la:List Attr) (ks:List Node):tkN p (.mk 3 nm t la ks)= [⟨6,p,[],t,[]⟩]:=by rw[tkN,if_neg (by decide),if_pos rfl]
theorem tk_pi (p:Nat) (nm t:Bytes) (la:List Attr) (ks:List Node):tkN p (.mk 4 nm t la ks)= [⟨7,p,nm,t,[]⟩]:=by rw[tkN,if_neg (by decide),if_neg (by decide),if_pos rfl]
mutual
theorem tok_N {s:Bytes}:∀(n:Node) (p:Nat) (rest:Bytes),fairE n=true→s.drop p=txtN n++rest→(n.kind=2→∃r,rest=60::r)→TksTo s p (tkN p n) (p+(txtN n).length)
 | .mk k nm t la ks,p,rest,hf,h,ht=>by
  rw[fairE]at hf
  by_cases k1:k=1
  ·
   subst k1
   rw[if_pos rfl,Bool.and_eq_true,Bool.and_eq_true,Bool.and_eq_true]at hf
   obtain⟨⟨⟨f1,f2⟩,f3⟩,f4⟩:=hf
   by_cases k0:ks= []
   ·
    subst k0
    rw[txt_el0]at h⊢
    rw[tk_el0]
    have:=start_at (s:=s) (p:=p) (k:=2) (tl:=47::62::rest) (.inr ⟨rfl,rfl,rfl⟩) f1 f3 (by rw[h];simp)
    exact⟨_,this,by show _=_;rw[List.length_append];simp;omega⟩
   ·
    rw[txt_el _ _ _ k0]at h⊢
    rw[tk_el _ _ _ _ k0]
    have h0:s.drop p=openT nm la++62::(txtL ks++([60,47]++(nm++62::rest))):=by rw[h];simp
    have h1:=start_at (s:=s) (p:=p) (k:=1) (tl:=62::(txtL ks++([60,47]++(nm++62::rest)))) (.inl ⟨rfl,rfl,rfl⟩) f1 f3 h0
    have h2:s.drop (p+((openT nm la).length+1))=txtL ks++([60,47]++(nm++62::rest)):=by
     have e:s.drop p=(openT nm la++ [62])++(txtL ks++([60,47]++(nm++62::rest))):=by rw[h0];simp
     exact drop_more' e (by simp)
    have h3:=tok_L ks (p+((openT nm la).length+1)) 0 _ f4 h2 (fun _=>⟨_,rfl⟩)
    have h4:s.drop (p+((openT nm la).length+1)+(txtL ks).length)= [60,47]++(nm++62::rest):=drop_more h2
    have h5:=end_at f1 h4
    refine⟨_,h1,?_⟩
    rw[show p+(openT nm la).length+1=p+((openT nm la).length+1) by omega]
    exact h3.app ⟨_,h5,by show _=_;simp only[List.length_append,List.length_cons,List.length_nil];omega⟩
  ·
   rw[if_neg k1]at hf
   simp only[Bool.and_eq_true,decide_eq_true_eq]at hf
   obtain⟨⟨f1,f2⟩,f3⟩:=hf
   subst f1 f2
   unfold leafE at f3
   by_cases k2:k=2
   ·
    subst k2
    rw[if_pos rfl]at f3
    rw[txt_tx]at h⊢
    rw[tk_tx]
    simp only[Bool.and_eq_true,decide_eq_true_eq]at f3
    obtain⟨r,rfl⟩:=ht rfl
    exact⟨_,.inl ⟨escS false t,t,r,h,f3.2.1,escS_pc escC_pcC t,rfl,rfl⟩,rfl⟩
   ·
    rw[if_neg k2]at f3
    by_cases k3:k=3
    ·
     subst k3
     rw[if_pos rfl]at f3
     rw[txt_cm]at h⊢
     rw[tk_cm]
     simp only[Bool.and_eq_true,decide_eq_true_eq]at f3
     exact⟨_,cm_at f3.2 h,by show _=_;simp;omega⟩
    ·
     rw[if_neg k3]at f3
     by_cases k4:k=4
     ·
      subst k4
      rw[if_pos rfl]at f3
      rw[txt_pi]at h⊢
      rw[tk_pi]
      exact⟨_,pi_at f3 h,rfl⟩
     ·
      rw[if_neg k4]at f3;cases f3
theorem tok_L {s:Bytes}:∀(ks:List Node) (p:Nat) (was:Int) (rest:Bytes),kidE ks was=true→s.drop p=txtL ks++rest→(ks≠ []→∃r,rest=60::r)→TksTo s p (tkL p ks) (p+(txtL ks).length)
 | [],p,was,rest,hf,h,ht=>by rw[tkL,txtL];rfl
 | k::r,p,was,rest,hf,h,ht=>by
  rw[kidE,Bool.and_eq_true,Bool.and_eq_true]at hf
  obtain⟨⟨f1,f2⟩,f3⟩:=hf
  obtain⟨z,hz⟩:=ht (by simp)
  rw[txtL]at h⊢
  rw[List.append_assoc]at h
  rw[tkL]
  have h2:s.drop (p+(txtN k).length)=txtL r++rest:=drop_more h
  have h1:=tok_N k p (txtL r++rest) f1 h (fun hk=>by
   cases r with
   | nil=>rw[txtL,hz];exact⟨_,rfl⟩
   | cons x r=>
    rw[kidE,Bool.and_eq_true,Bool.and_eq_true,hk]at f3
    have hx:x.kind≠2:=fun e=>by rw[e]at f3;exact absurd f3.1.2 (by decide)
    rw[txtL]
    obtain⟨c,hc⟩:=txt_lt x f3.1.1 hx
    exact⟨c++txtL r++rest,by rw[hc];simp⟩)
  have h3:=tok_L r (p+(txtN k).length) k.kind rest f3 h2 (fun _=>⟨z,hz⟩)
  rw[show p+(txtN k++txtL r).length=p+(txtN k).length+(txtL r).length by rw[List.length_append];omega]
  exact h1.app h3
end
theorem root_toks (n:Node) (hk:n.kind=1) (hf:fairE n=true):0< (txtN n).length∧badS (txtN n)= -1∧hasS (txtN n) [60,63,120,109,108]=false∧TksR (txtN n) 0 (tkN 0 n):=by
 have h1:=tok_N (s:=txtN n) n 0 [] hf (by simp) (fun e=>by omega)
 have hb:badS (txtN n)= -1:=badGo_neg _ _ _ ((bad_chs _).2 (txt_chs n hf))
 obtain⟨c,hc⟩:=txt_lt n hf (by omega)
 refine⟨by rw[hc];simp,hb,?_,by rw[Nat.zero_add]at h1;exact h1.all⟩
 obtain⟨k,nm,t,la,ks⟩:=n
 obtain rfl:k=1:=hk
 rw[fairE,if_pos rfl,Bool.and_eq_true,Bool.and_eq_true,Bool.and_eq_true]at hf
 obtain⟨⟨⟨f1,f2⟩,f3⟩,f4⟩:=hf
 obtain⟨x,r,hx,hfx⟩:=name_first f1
 have h63:=first_ne hfx 63 (by decide) (by decide)
 obtain⟨z,hz⟩:∃z,txtN (.mk 1 nm t la ks)=60::x::z:=by
  rw[txtN,if_neg (by decide),if_neg (by decide),if_neg (by decide),if_neg (by decide),hx]
  split<;> exact⟨_,by simp;rfl⟩
 rw[hz]
 unfold hasS
 have:(63==x)=false:=by rw[beq_eq_false_iff_ne];exact fun e=>h63 e.symm
 simp[List.isPrefixOf,this]
def addKids (n:Node) (ks:List Node):Node:= .mk n.kind n.name n.text n.attrs (n.kids++ks)
theorem addKids_nil (n:Node):addKids n []=n:=by cases n;unfold addKids;rw[List.append_nil];rfl
theorem addKids_cons (n k:Node) (r:List Node):addKids (addKid n k) r=addKids n (k::r):=by
 cases n;unfold addKids addKid
 show Node.mk _ _ _ _ ((_++ [k])++r)=Node.mk _ _ _ _ (_++k::r)
 rw[List.append_assoc];rfl
theorem foldT_app (st:St):∀a b:List TokX,foldT st (a++b)=(foldT st a).bind fun s=>foldT s b:=by
 intro a
 induction a generalizing st with
 | nil=>intro b;rfl
 | cons t r ih=>
  intro b
  rw[List.cons_append,foldT,foldT]
  cases h:stepT st t with
  | none=>rfl
  | some s=>exact ih s b
theorem flN_name (n:Node) (tx:Bytes):(flN n tx).name=n.name:=by unfold flN;split<;> rfl
theorem flN_len (n:Node) (tx:Bytes):n.kids.length≤(flN n tx).kids.length:=by
 unfold flN;split
 ·
  exact Nat.le_refl _
 ·
  show _≤(n.kids++ [_]).length
  rw[List.length_append];omega
theorem okK_cons {u:Node} {P:List Node} (h:u.kids.length≤1048576) (hP:okK P=true):okK (u::P)=true:=by
 unfold okK at hP⊢
 rw[List.all_cons,hP,decide_eq_true h];rfl
theorem stepT_start {st:St} {t:TokX} (hk:t.kind=1):stepT st t=startT st t:=by unfold stepT;rw[if_pos hk]
theorem nodes_pos (n:Node):0< nodesN n:=by cases n;rw[nodesN];omega
theorem startT_some {u:Node} {P:List Node} {rn:Node} {tx:Bytes} {nn:Nat} {rt:Bool} {t:TokX} (hd:P.length+1< 32) (hn:nn+(1+t.attrs.length)≤4096) (hx:tx.length≤65536) (hu:u.kids.length≤1048576) (hP:okK P=true) (hm:t.name.length≤65536):
  startT ⟨u::P,rn,tx,nn,rt⟩ t=some ⟨.mk 1 t.name [] t.attrs []::flN u tx::P,rn,[],nn+(1+t.attrs.length),rt⟩:=by
 unfold startT
 rw[if_pos]
 ·
  rfl
 ·
  simp only[List.length_cons,List.isEmpty_cons,Bool.not_false,Bool.true_or,Bool.and_true,Bool.and_eq_true,decide_eq_true_eq]
  exact⟨⟨⟨⟨hd,hn⟩,hx⟩,okK_cons hu hP⟩,hm⟩
theorem endT_some {n m:Node} {Q:List Node} {rn:Node} {tx:Bytes} {nn:Nat} {rt:Bool} (hx:tx.length≤65536) (hk:okK (n::m::Q)=true) (hq:Q.length≤999):
  endT ⟨n::m::Q,rn,tx,nn,rt⟩=some ⟨addKid m (flN n tx)::Q,rn,[],nn,rt⟩:=by
 unfold endT
 simp only
 rw[if_pos (by simp only[Bool.and_eq_true,decide_eq_true_eq];exact⟨⟨hx,hk⟩,hq⟩)]
theorem flN_nil (n:Node):flN n []=n:=by unfold flN;rw[if_pos rfl]
theorem addKid_len (n k:Node):(addKid n k).kids.length=n.kids.length+1:=by
 show(n.kids++ [k]).length=_
 rw[List.length_append];rfl
theorem nodesL_len:∀l:List Node,l.length≤nodesL l
 | []=>Nat.le_refl _
 | k::r=>by rw[nodesL,List.length_cons];have:=nodesL_len r;have:=nodes_pos k;omega
mutual
theorem fold_N:∀(n:Node) (p:Nat) (u:Node) (P:List Node) (rn:Node) (tx:Bytes) (nn:Nat) (rt:Bool),fairE n=true→(tx≠ []→n.kind≠2)→
  P.length+1+depN n≤32→nn+nodesN n≤4096→tx.length≤65536→(flN u tx).kids.length≤nn→okK P=true→cntN n≤65536→
  ∃u' tx',foldT ⟨u::P,rn,tx,nn,rt⟩ (tkN p n)=some ⟨u'::P,rn,tx',nn+nodesN n,rt⟩∧flN u' tx'=addKid (flN u tx) n∧(tx'≠ []→n.kind=2)∧tx'.length≤65536∧u'.name=u.name
 | .mk k nm t la ks,p,u,P,rn,tx,nn,rt,hf,ht,hd,hn,hx,hu,hP,hc=>by
  have hu2:=flN_len u tx
  rw[fairE]at hf
  rw[cntN]at hc
  rw[nodesN]at hn⊢
  rw[tkN]
  by_cases k1:k=1
  ·
   subst k1
   rw[if_pos rfl]at hf
   rw[if_neg (by decide),if_neg (by decide),if_neg (by decide)]
   rw[Bool.and_eq_true,Bool.and_eq_true,Bool.and_eq_true]at hf
   obtain⟨⟨⟨f1,f2⟩,f3⟩,f4⟩:=hf
   have f2:t= []:=of_decide_eq_true f2
   subst f2
   rw[depN,if_neg (by decide)]at hd
   have hst:∀kk,startT ⟨u::P,rn,tx,nn,rt⟩ ⟨kk,p,nm,[],la⟩=some ⟨.mk 1 nm [] la []::flN u tx::P,rn,[],nn+(1+la.length),rt⟩:=fun kk=>
    startT_some (t:=⟨kk,p,nm,[],la⟩) (by omega) (by show nn+(1+la.length)≤_;omega) hx (by omega) hP (by show nm.length≤_;omega)
   have hok:okK (flN u tx::P)=true:=okK_cons (by omega) hP
   by_cases k0:ks= []
   ·
    subst k0
    rw[if_pos rfl]
    refine⟨addKid (flN u tx) (.mk 1 nm [] la []),[],?_,flN_nil _,fun h=>absurd rfl h,Nat.zero_le _,flN_name u tx⟩
    rw[foldT]
    have e:stepT ⟨u::P,rn,tx,nn,rt⟩ ⟨2,p,nm,[],la⟩=some ⟨addKid (flN u tx) (.mk 1 nm [] la [])::P,rn,[],nn+(1+la.length),rt⟩:=by
     unfold stepT
     rw[if_neg (by simp),if_pos rfl,hst]
     show endT ⟨.mk 1 nm [] la []::flN u tx::P,rn,[],nn+(1+la.length),rt⟩=_
     rw[endT_some (by simp) (okK_cons (by simp[Node.kids]) hok) (by omega),flN_nil]
    rw[e]
    rw[nodesL]
    rfl
   ·
    rw[if_neg k0]
    have h0:flN (.mk 1 nm [] la []) []= .mk 1 nm [] la []:=flN_nil _
    obtain⟨w,tx',g1,g2,g3,g4⟩:=fold_L ks (p+((openT nm la).length+1)) 0 (.mk 1 nm [] la []) (flN u tx::P) rn [] (nn+(1+la.length)) rt f4 (fun h=>absurd rfl h)
     (by simp only[List.length_cons];omega) (by omega) (by simp) (by rw[h0];simp[Node.kids]) hok (by omega)
    rw[h0]at g2
    have ga:addKids (.mk 1 nm [] la []) ks= .mk 1 nm [] la ks:=by unfold addKids;rfl
    rw[ga]at g2
    refine⟨addKid (flN u tx) (.mk 1 nm [] la ks),[],?_,flN_nil _,fun h=>absurd rfl h,Nat.zero_le _,flN_name u tx⟩
    rw[foldT,stepT_start rfl,hst]
    show foldT _ (_++_)=_
    rw[foldT_app,g1]
    show foldT ⟨w::flN u tx::P,rn,tx',_,rt⟩ [_]=_
    rw[foldT]
    have hwn:w.name=nm:=g4
    have hwl:w.kids.length≤1048576:=by
     have h1:=flN_len w tx'
     rw[g2]at h1
     have h2:(Node.mk 1 nm [] la ks).kids.length=ks.length:=rfl
     have h3:=nodesL_len ks
     omega
    have e:stepT ⟨w::flN u tx::P,rn,tx',nn+(1+la.length)+nodesL ks,rt⟩ ⟨3,p+((openT nm la).length+1)+(txtL ks).length,nm,[],[]⟩=some ⟨addKid (flN u tx) (.mk 1 nm [] la ks)::P,rn,[],nn+(1+la.length)+nodesL ks,rt⟩:=by
     unfold stepT
     rw[if_neg (by simp),if_neg (by simp),if_pos rfl]
     simp only
     rw[if_pos ⟨hwn,by simp only[List.length_cons];omega⟩,endT_some g3 (okK_cons hwl hok) (by omega),g2]
    rw[e]
    rw[show nn+(1+la.length)+nodesL ks=nn+(1+la.length+nodesL ks) by omega]
    rfl
  ·
   rw[if_neg k1]at hf
   simp only[Bool.and_eq_true,decide_eq_true_eq]at hf
   obtain⟨⟨f1,f2⟩,f3⟩:=hf
   subst f1 f2
   unfold leafE at f3
   rw[nodesL]
   by_cases k2:k=2
   ·
    subst k2
    rw[if_pos rfl]at f3⊢
    simp only[Bool.and_eq_true,decide_eq_true_eq]at f3
    obtain⟨f3,f4,_⟩:=f3
    subst f3
    have htx:tx= []:=Classical.byContradiction fun h=>ht h rfl
    subst htx
    refine⟨u,t,?_,?_,fun _=>rfl,by omega,rfl⟩
    ·
     rw[foldT]
     have e:stepT ⟨u::P,rn,[],nn,rt⟩ ⟨4,p,[],t,[]⟩=some ⟨u::P,rn,t,nn+1,rt⟩:=by
      unfold stepT charT
      rw[if_neg (by simp),if_neg (by simp),if_neg (by simp),if_pos rfl]
      simp only
      rw[if_pos]
      have:t.isEmpty=false:=by cases t with
       | nil=>exact absurd rfl f4
       | cons=>rfl
      simp only[List.isEmpty_nil,this,Bool.not_false,Bool.true_and,Bool.and_eq_true,decide_eq_true_eq]
      simp only[List.length_nil,nodesL]at hn
      omega
     rw[e];rfl
    ·
     rw[flN_nil]
     unfold flN
     rw[if_neg f4]
     rfl
   ·
    have hlen:t.length≤65536∧nm.length≤65536:=by omega
    have ho:∀kk,otherT ⟨u::P,rn,tx,nn,rt⟩ k ⟨kk,p,nm,t,[]⟩=some ⟨addKid (flN u tx) (.mk k nm t [] [])::P,rn,[],nn+1,rt⟩:=fun kk=>by
     unfold otherT
     simp only
     rw[if_pos]
     simp only[Bool.and_eq_true,decide_eq_true_eq]
     simp only[List.length_nil,nodesL]at hn
     exact⟨⟨⟨⟨⟨⟨by omega,hx⟩,okK_cons (by omega) hP⟩,by omega⟩,hlen.1⟩,hlen.2⟩,by omega⟩
    by_cases k3:k=3
    ·
     subst k3
     rw[if_neg (by decide),if_pos rfl]at f3
     simp only[Bool.and_eq_true,decide_eq_true_eq]at f3
     obtain⟨f3,_⟩:=f3
     subst f3
     rw[if_neg (by decide),if_pos rfl]
     refine⟨addKid (flN u tx) (.mk 3 [] t [] []),[],?_,flN_nil _,fun h=>absurd rfl h,Nat.zero_le _,flN_name u tx⟩
     rw[foldT]
     have e:stepT ⟨u::P,rn,tx,nn,rt⟩ ⟨6,p,[],t,[]⟩=otherT ⟨u::P,rn,tx,nn,rt⟩ 3 ⟨6,p,[],t,[]⟩:=by
      unfold stepT
      rw[if_neg (by simp),if_neg (by simp),if_neg (by simp),if_neg (by simp),if_pos rfl]
     rw[e,ho];rfl
    ·
     by_cases k4:k=4
     ·
      subst k4
      rw[if_neg (by decide),if_neg (by decide),if_pos rfl]
      refine⟨addKid (flN u tx) (.mk 4 nm t [] []),[],?_,flN_nil _,fun h=>absurd rfl h,Nat.zero_le _,flN_name u tx⟩
      rw[foldT]
      have e:stepT ⟨u::P,rn,tx,nn,rt⟩ ⟨7,p,nm,t,[]⟩=otherT ⟨u::P,rn,tx,nn,rt⟩ 4 ⟨7,p,nm,t,[]⟩:=by
       unfold stepT
       rw[if_neg (by simp),if_neg (by simp),if_neg (by simp),if_neg (by simp),if_neg (by simp),if_pos rfl]
      rw[e,ho];rfl
     ·
      rw[if_neg k2,if_neg k3,if_neg k4]at f3;cases f3
theorem fold_L:∀(ks:List Node) (p:Nat) (was:Int) (u:Node) (P:List Node) (rn:Node) (tx:Bytes) (nn:Nat) (rt:Bool),kidE ks was=true→(tx≠ []→was=2)→
  P.length+1+depL ks≤32→nn+nodesL ks≤4096→tx.length≤65536→(flN u tx).kids.length≤nn→okK P=true→cntL ks≤65536→
  ∃u' tx',foldT ⟨u::P,rn,tx,nn,rt⟩ (tkL p ks)=some ⟨u'::P,rn,tx',nn+nodesL ks,rt⟩∧flN u' tx'=addKids (flN u tx) ks∧tx'.length≤65536∧u'.name=u.name
 | [],p,was,u,P,rn,tx,nn,rt,hf,ht,hd,hn,hx,hu,hP,hc=>by
  rw[tkL,nodesL]
  exact⟨u,tx,rfl,(addKids_nil _).symm,hx,rfl⟩
 | k::r,p,was,u,P,rn,tx,nn,rt,hf,ht,hd,hn,hx,hu,hP,hc=>by
  rw[kidE,Bool.and_eq_true,Bool.and_eq_true]at hf
  obtain⟨⟨f1,f2⟩,f3⟩:=hf
  rw[nodesL]at hn⊢
  rw[depL]at hd
  rw[cntL]at hc
  have hpos:=nodes_pos k
  obtain⟨u1,t1,a1,a2,a3,a4,a5⟩:=fold_N k p u P rn tx nn rt f1 (fun h e=>by rw[ht h,e]at f2;exact absurd f2 (by decide)) (by omega) (by omega) hx hu hP (by omega)
  obtain⟨u2,t2,b1,b2,b3,b4⟩:=fold_L r (p+(txtN k).length) k.kind u1 P rn t1 (nn+nodesN k) rt f3 a3 (by omega) (by omega) a4 (by rw[a2,addKid_len];omega) hP (by omega)
  refine⟨u2,t2,?_,?_,b3,b4.trans a5⟩
  ·
   rw[tkL,foldT_app,a1]
   show foldT _ _=_
   rw[b1,Nat.add_assoc]
  ·
   rw[b2,a2,addKids_cons]
end
theorem fold_root (n:Node) (hk:n.kind=1) (hf:fairE n=true) (hd:depN n≤32) (hn:nodesN n≤4096) (hc:cntN n≤65536):foldT st0 (tkN 0 n)=some ⟨[],n,[],nodesN n,true⟩:=by
 obtain⟨k,nm,t,la,ks⟩:=n
 obtain rfl:k=1:=hk
 rw[fairE,if_pos rfl,Bool.and_eq_true,Bool.and_eq_true,Bool.and_eq_true]at hf
 obtain⟨⟨⟨f1,f2⟩,f3⟩,f4⟩:=hf
 have f2:t= []:=of_decide_eq_true f2
 subst f2
 rw[cntN]at hc
 rw[nodesN]at hn⊢
 rw[depN,if_neg (by decide)]at hd
 have hst:∀kk,startT st0 ⟨kk,0,nm,[],la⟩=some ⟨[.mk 1 nm [] la []],.mk 0 [] [] [] [],[],1+la.length,true⟩:=fun kk=>by
  unfold startT st0
  rw[if_pos]
  ·
   simp[flP]
  ·
   simp only[List.length_nil,List.isEmpty_nil,Bool.not_false,Bool.not_true,Bool.false_or,Bool.and_true,Bool.and_eq_true,decide_eq_true_eq]
   refine⟨⟨⟨⟨by decide,?_⟩,by decide⟩,by decide⟩,?_⟩
   ·
    show 0+(1+la.length)≤4096;omega
   ·
    show nm.length≤65536;omega
 rw[tkN,if_neg (by decide),if_neg (by decide),if_neg (by decide)]
 by_cases k0:ks= []
 ·
  subst k0
  rw[if_pos rfl,foldT]
  have e:stepT st0 ⟨2,0,nm,[],la⟩=some ⟨[],.mk 1 nm [] la [],[],1+la.length,true⟩:=by
   unfold stepT
   rw[if_neg (by simp),if_pos rfl,hst]
   show endT ⟨[.mk 1 nm [] la []],_,[],_,true⟩=_
   unfold endT
   simp only
   rw[if_pos,flN_nil]
   simp only[Bool.and_eq_true,decide_eq_true_eq]
   exact⟨⟨by simp,okK_cons (by simp[Node.kids]) rfl⟩,rfl⟩
  rw[e,nodesL];rfl
 ·
  rw[if_neg k0]
  have h0:flN (.mk 1 nm [] la []) []= .mk 1 nm [] la []:=flN_nil _
  obtain⟨w,tx',g1,g2,g3,g4⟩:=fold_L ks (0+((openT nm la).length+1)) 0 (.mk 1 nm [] la []) [] (.mk 0 [] [] [] []) [] (1+la.length) true f4 (fun h=>absurd rfl h)
   (by simp only[List.length_nil];omega) (by omega) (by simp) (by rw[h0];simp[Node.kids]) rfl (by omega)
  rw[h0]at g2
  have ga:addKids (.mk 1 nm [] la []) ks= .mk 1 nm [] la ks:=by unfold addKids;rfl
  rw[ga]at g2
  rw[foldT,stepT_start rfl,hst]
  show foldT _ (_++_)=_
  rw[foldT_app,g1]
  show foldT ⟨[w],_,tx',_,true⟩ [_]=_
  rw[foldT]
  have hwn:w.name=nm:=g4
  have hwk:w.kind=1:=by rw[←flN_kind w tx',g2];rfl
  have hwl:w.kids.length≤1048576:=by
   have h1:=flN_len w tx'
   rw[g2]at h1
   have h2:(Node.mk 1 nm [] la ks).kids.length=ks.length:=rfl
   have h3:=nodesL_len ks
   omega
  have e:stepT ⟨[w],.mk 0 [] [] [] [],tx',1+la.length+nodesL ks,true⟩ ⟨3,0+((openT nm la).length+1)+(txtL ks).length,nm,[],[]⟩=some ⟨[],.mk 1 nm [] la ks,[],1+la.length+nodesL ks,true⟩:=by
   unfold stepT
   rw[if_neg (by simp),if_neg (by simp),if_pos rfl]
   simp only
   rw[if_pos ⟨hwn,by simp only[List.length_cons,List.length_nil];omega⟩]
   unfold endT
   simp only
   rw[if_pos,g2]
   simp only[Bool.and_eq_true,decide_eq_true_eq]
   exact⟨⟨g3,okK_cons hwl rfl⟩,hwk⟩
  rw[e];rfl
end Go.Proofs.YtcfibjiikhnfhaaGreatDoor
