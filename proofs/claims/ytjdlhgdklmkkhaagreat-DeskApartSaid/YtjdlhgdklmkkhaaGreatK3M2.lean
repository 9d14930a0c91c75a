import Derived.Test.YtjdlhgdklmkkhaaGreatK3M0
import Derived.Test.YtjdlhgdklmkkhaaGreatK3M1
import Derived.Test.YtjdlhgdklmkkhaaGreatK3FQ11
import Derived.Test.YtjdlhgdklmkkhaaGreatK3FH
import Derived.Test.YtjdlhgdklmkkhaaGreatK3FQ0
import Derived.Test.YtjdlhgdklmkkhaaGreatK3FQ10
import Derived.Test.YtjdlhgdklmkkhaaGreatK3FQ12
import Derived.Test.YtjdlhgdklmkkhaaGreatK3FQ8
import Derived.Test.YtjdlhgdklmkkhaaGreatK3FQ9
import Derived.Test.YtjdlhgdklmkkhaaGreatK3FQ14
import Derived.Test.YtjdlhgdklmkkhaaGreatK3FGood
set_option linter.unusedVariables false
set_option linter.unusedSimpArgs false
set_option maxRecDepth 100000
namespace Go.VP
open Go Go.VI
def Tg' (t:Tlv):Prop:=((0≤t.type_∧t.type_≤255)∧t.data.length≤255)∧t.type_≠0∧t.type_≠1
def aL3 (c:Ctx) (s:Bs) (M:List Msg) (d:Ctx):Prop:=∀ p,∃ l,spl p s=.ok l∧(∀ t∈l,Tg' t)∧∀ acc,ag6 c l acc=(acc++M,d,0,0)
theorem ds9 (c:Ctx):aL3 c [] [] c:=fun p=>⟨[],aD3 p,(fun t ht=>by cases ht),fun acc=>by rw [ag6,List.append_nil]⟩
theorem dt0 {c d e:Ctx} {s t:Bs} {M N:List Msg} (h:aL3 c s M d) (h2:aL3 d t N e):aL3 c (s++t) (M++N) e:=fun p=>by
 obtain ⟨l,l1,l2,l3⟩:=h p
 obtain ⟨k,k1,k2,k3⟩:=h2 (p+s.length)
 refine ⟨l++k,by rw [eu1 s p l l1,k1]; rfl,fun x hx=>?_,fun acc=>?_⟩
 ·rcases List.mem_append.1 hx with hx | hx
  ·exact l2 x hx
  ·exact k2 x hx
 ·rw [dR5 l k c acc (by rw [l3]),l3,k3,List.append_assoc]
theorem bE4 {c d:Ctx} {t:Int} {b:Bs} {M:List Msg} (ht:2≤t∧t≤255) (hb:b.length≤255) (h:aq6 c t b=(d,M,0)):aL3 c (au5 t b).1 M d:=fun p=>by
 have e:(au5 t b).1=aa1 t::aa1 b.length::b:=by unfold au5; rw [if_pos ⟨by omega,ht.2,hb⟩]
 refine ⟨[⟨t,p,b⟩],by rw [e]; exact eL5 ⟨by omega,ht.2⟩ hb,fun x hx=>?_,fun acc=>?_⟩
 ·rw [List.mem_singleton] at hx; subst hx
  exact ⟨⟨⟨by show 0≤t; omega,ht.2⟩,hb⟩,by show t≠0; omega,by show t≠1; omega⟩
 ·rw [ag6]
  dsimp only
  rw [h,if_neg (by simp),ag6]
theorem eg7 {c:Ctx} {m:Msg}:bl4 c (m,true,0)=(c,[m],0):=by unfold bl4; rw [if_neg (by simp),if_pos rfl]
theorem ev3 {c:Ctx} {m:Msg} (h:aB6 m):aL3 c (aF9 m).1 [m] c:=by
 obtain ⟨h1,h2,h3⟩:=el1 h
 have e:(aF9 m).1=(au5 (m.kind - 5) (ah0 m++ab5 m.subs)).1:=by unfold aF9; rw [if_pos (ay4.2 h)]
 rw [e]
 refine bE4 (by omega) h2 ?_
 unfold aq6
 rw [if_neg (by omega),if_neg (by omega),if_pos (by omega),el0 h,eg7]
theorem ev4 {c:Ctx} {m:Msg} (h:au7 m):aL3 c (aG0 m).1 [m] c:=by
 obtain ⟨h1,h2⟩:=el7 h
 have e:(aG0 m).1=(au5 (if m.kind=13 then 10 else 9) (aC4 m++ab5 m.subs)).1:=by unfold aG0; rw [if_pos (ay6.2 h)]
 have ht:(if m.kind=13 then (10:Int) else 9)=9∨(if m.kind=13 then (10:Int) else 9)=10:=by split <;> omega
 have hb:=el5 h
 rw [e]
 generalize (if m.kind=13 then (10:Int) else 9)=t at *
 refine bE4 (by omega) h2 ?_
 unfold aq6
 rw [if_neg (by omega),if_neg (by omega),if_neg (by omega),if_pos (by omega),hb,eg7]
theorem eg0.eq {m:Msg} (h:eg0 m):df7 m.type_ m.data=m:=by
 have hx:ah2 m=some ⟨m.kind,0,0,[],0,0,[],0,0,[],0,[],0,0,0,0,0,0,0,[],[],[],m.type_,m.data,[]⟩:=by
  have hk:=h.kind
  unfold ah2; rw [if_neg (by omega),if_neg (by omega),if_neg (by omega),if_neg (by omega),if_neg (by omega),if_neg (by omega),if_neg (by omega),if_neg (by omega),if_neg (by omega),if_neg (by omega),if_neg (by omega),if_neg (by omega),if_neg (by omega),if_pos hk]
 have hb:=h.bare
 rw [ag0,hx] at hb
 have:=aO2.1 hb
 rw [h.kind] at this
 exact this
theorem eM9 {c:Ctx} {m:Msg} (h:eg0 m):aL3 c (au5 m.type_ m.data).1 [m] c:=by
 refine bE4 (by have:=h.ty; omega) (by have:=h.len; omega) ?_
 have:=h.ty
 unfold aq6
 rw [if_neg (by omega),if_neg (by omega),if_neg (by omega),if_neg (by omega),h.eq]
theorem ev5 {c:Ctx} {m:Msg} (h:bw9 m) (hk:m.kind≠11):aL3 c (ck9 m) [m] c:=by
 unfold ck9
 cases h with
 | field h=>
  have:=bH2 (ay4.2 h)
  rw [if_neg (by omega),if_neg (by omega)]; exact ev3 h
 | route h=>
  have:=bH3 (ay6.2 h)
  rw [if_pos this]; exact ev4 h
 | upd h=>exact absurd h.kind hk
 | opq h=>
  have:=h.kind
  rw [if_neg (by omega),if_pos this]; exact eM9 h
theorem eV9 {c:Ctx} {s:Bs} (h:s.length=8):aL3 c (idT s) [] (au0 c s):=by
 refine bE4 (by omega) (by unfold idD; simp; omega) ?_
 unfold aq6
 rw [if_neg (by omega),if_pos (by omega)]
 unfold bj5
 rw [if_pos rfl,eM6 h]
theorem eN0 {a:Bs} (h:a.length≤16):(dM7 a).length≤255:=by
 unfold dM7; split
 ·simp; omega
 split <;> simp <;> omega
theorem eN1 {c:Ctx} {a:Bs} {f:Int} (h:(f=0∧a.length=4)∨(f=1∧a.length=16)):aL3 c (dd0 a) [] (bl3 c f a):=by
 refine bE4 (by omega) (eN0 (by omega)) ?_
 unfold aq6
 rw [if_neg (by omega),if_pos (by omega)]
 unfold bj5
 rw [if_neg (by omega),if_pos rfl,eC6 h]
theorem eg8 {c:Ctx} {m:Msg} {n:Nat} (hc:okC c) (h:aB8 m) (hn:n≤(ac5 m).length)
  (hk:n≠0→aq5 c m.ae≠[]∧((aq5 c m.ae).drop (ag2 m.ae).toNat).take n=(ac5 m).take n)
  (hf:m.metric≠65535→c.id=m.id∧aj3 c (af1 m.ae)=m.next):aL3 c (cx0 m n) [m] (aG2 c m.ae m.prefix_):=by
 have hl:=ef9 h n
 have hs:=bc7 h.subs
 obtain ⟨_,_,_,h16,_,_⟩:=h.pre
 refine bE4 (by omega) (by omega) ?_
 unfold aq6
 rw [if_neg (by omega),if_pos (by omega)]
 unfold bj5
 rw [if_neg (by omega),if_neg (by omega),if_pos rfl,eM5 hc h hn hk hf]
theorem eN2 (c:Ctx) (m:Msg):as0 c m≠0→aq5 c m.ae≠[]∧((aq5 c m.ae).drop (ag2 m.ae).toNat).take (as0 c m)=(ac5 m).take (as0 c m):=by
 intro h
 by_cases hq:aq5 c m.ae=[]
 ·unfold as0 at h; rw [if_pos hq] at h; exact absurd rfl h
 ·refine ⟨hq,?_⟩
  unfold as0; rw [if_neg hq]; exact dE7 _ _
theorem ev6 {c:Ctx} {f:Int} {a:Bs} (hf:f=0∨f=1):aj3 (bl3 c f a) f=a:=by rcases hf with rfl | rfl <;> rfl
theorem bw9.upd_of {m:Msg} (h:bw9 m) (hk:m.kind=11):aB8 m:=by
 cases h with
 | field h=>have:=bH2 (ay4.2 h); omega
 | route h=>have:=bH3 (ay6.2 h); omega
 | upd h=>exact h
 | opq h=>have:=h.kind; omega
theorem el8 {c:Ctx} {m:Msg} {n:Nat} {i h:Bs} (hc:okC c) (hu:aB8 m) (hm:m.metric≠65535) (hn:n≤(ac5 m).length)
  (hk:n≠0→aq5 c m.ae≠[]∧((aq5 c m.ae).drop (ag2 m.ae).toNat).take n=(ac5 m).take n)
  (hi:i=idT m.id∨(i=[]∧m.id=c.id)) (hh:(h=dd0 m.next∧m.next≠[])∨(h=[]∧m.next=aj3 c (af1 m.ae))) :
  aL3 c ((i++h)++cx0 m n) [m] (aG2 (bl3 (au0 c m.id) (af1 m.ae) m.next) m.ae m.prefix_):=by
 obtain ⟨hf,hop⟩:=hu.fam hm
 have hid:=(hu.near hm).2.1
 have hc1:=bM3 hc hid
 have s1:aL3 c i [] (au0 c m.id):=by
  rcases hi with rfl | ⟨rfl,e⟩
  ·exact eV9 hid
  ·rw [cJ9 e]; exact ds9 c
 have hc2:okC (bl3 (au0 c m.id) (af1 m.ae) m.next)∧aL3 (au0 c m.id) h [] (bl3 (au0 c m.id) (af1 m.ae) m.next):=by
  rcases hh with ⟨rfl,e⟩ | ⟨rfl,e⟩
  ·exact ⟨ds8 hc1 (hop e),eN1 (hop e)⟩
  ·have e':m.next=aj3 (au0 c m.id) (af1 m.ae):=e
   rw [dd1 hf e']; exact ⟨hc1,ds9 _⟩
 have s3:aL3 (bl3 (au0 c m.id) (af1 m.ae) m.next) (cx0 m n) [m] _:=eg8 hc2.1 hu hn hk (fun _=>⟨rfl,ev6 hf⟩)
 have:=dt0 (dt0 s1 hc2.2) s3
 exact this
theorem eD8 {c:Ctx} {m:Msg} (hc:okC c) (h:bw9 m) (he:(au9 c m).2.2=0):aL3 c (au9 c m).1 [m] (au9 c m).2.1:=by
 unfold au9 at he ⊢
 rw [bM2.2 h] at he ⊢
 rw [if_neg (show ¬(true=false) by simp)] at he ⊢
 by_cases hk:m.kind≠11
 ·rw [if_pos hk]; exact ev5 h hk
 rw [if_neg hk] at he ⊢
 have hu:=h.upd_of (by simpa using hk)
 by_cases hx:m.metric≠65535∧m.next=[]∧aj3 c (af1 m.ae)≠[]
 ·rw [if_pos hx] at he; exact absurd he (show ¬((9:Int)=0) by decide)
 rw [if_neg hx]
 have hle:=eg5 c m
 have hok:=eN2 c m
 unfold dE8 cD9
 by_cases hm:m.metric=65535
 ·rw [if_pos hm,if_pos hm,List.nil_append]
  exact eg8 hc hu hle hok (fun q=>absurd hm q)
 ·rw [if_neg hm,if_neg hm]
  refine el8 hc hu hm hle hok ?_ ?_
  ·by_cases hi:m.id=c.id
   ·rw [if_pos hi]; exact .inr ⟨rfl,hi⟩
   ·rw [if_neg hi]; exact .inl rfl
  ·by_cases hnx:m.next=aj3 c (af1 m.ae)
   ·rw [if_pos hnx]; exact .inr ⟨rfl,hnx⟩
   ·rw [if_neg hnx]
    refine .inl ⟨rfl,fun e=>?_⟩
    exact hx ⟨hm,e,fun q=>hnx (by rw [e,q])⟩
theorem eo6 {c:Ctx} {m:Msg} (hc:okC c) (h:bw9 m):okC (au9 c m).2.1:=by
 unfold au9
 split
 ·exact hc
 split
 ·exact hc
 split
 ·exact hc
 rename_i hk hx
 have hu:=h.upd_of (by simpa using hk)
 have hk2:okC (cD9 c m):=by
  unfold cD9
  split
  ·exact hc
  ·rename_i hm
   obtain ⟨hf,hop⟩:=hu.fam hm
   have hc1:=bM3 (i:=m.id) hc (hu.near hm).2.1
   by_cases hne:m.next=[]
   ·have e:m.next=aj3 (au0 c m.id) (af1 m.ae):=by
     rw [hne]
     show []=aj3 c (af1 m.ae)
     cases hq:aj3 c (af1 m.ae) with
     | nil=>rfl
     | cons a b=>exact absurd ⟨hm,hne,by rw [hq]; simp⟩ hx
    rw [dd1 hf e]; exact hc1
   ·exact ds8 hc1 (hop hne)
 obtain ⟨a,b,c',d,e⟩:=df5.1 hu.inn
 obtain ⟨h0,h1,h2,h3,h4,h5,h6⟩:=hk2
 show okC (aG2 (cD9 c m) m.ae m.prefix_)
 unfold aG2
 split
 ·exact ⟨h0,h1,h2,h3,h4,h5,h6⟩
 ·refine ⟨h0,?_,?_,?_,h4,h5,h6⟩
  ·dsimp only
   split
   ·rename_i q; rw [q] at b; right; have:szA 1=4:=rfl; omega
   ·exact h1
  ·dsimp only
   split
   ·rename_i q; rw [q] at b; right; have:szA 2=16:=rfl; omega
   ·exact h2
  ·dsimp only
   split
   ·rename_i q; exact .inr (e q)
   ·exact h3
end Go.VP
namespace Go.VP
open Go Go.VI
noncomputable def bT5:Ctx→List Msg→Option (Bs × Ctx)
 | c,[]=>some ([],c)
 | c,m::r=>if (au9 c m).2.2≠0 then none else (bT5 (au9 c m).2.1 r).map fun x=>((au9 c m).1++x.1,x.2)
noncomputable def goO:Ctx→List Msg→Nat→Bs→Bs × Int × Int
 | _,[],_,b=>((aI0 b).1,0,0)
 | c,m::r,i,b=>if (au9 c m).2.2≠0 then ([],i,(au9 c m).2.2) else if 65531 < ((b++(au9 c m).1).length:Int) then ([],i,10) else goO (au9 c m).2.1 r (i+1) (b++(au9 c m).1)
noncomputable def dd2:List Msg→Nat→Option Nat
 | [],_=>none
 | m::r,i=>if aU9 m=false then some i else dd2 r (i+1)
noncomputable def dM9 (l:List Msg):Bs × Int × Int:=match dd2 l 0 with
 | some i=>([],i,1)
 | none=>goO c0 l 0 []
theorem dS3:∀ {l:List Msg} {i:Nat},dd2 l i=none↔∀ m∈l,aU9 m=true
 | [],i=>by simp [dd2]
 | m::r,i=>by
  rw [dd2]
  by_cases h:aU9 m=false
  ·rw [if_pos h]; simp [h]
  ·rw [if_neg h,dS3 (l:=r)]
   simp at h; simp [h]
theorem dS4:∀ {l:List Msg} {c d:Ctx} {s:Bs},okC c→(∀ m∈l,bw9 m)→bT5 c l=some (s,d)→aL3 c s l d∧okC d
 | [],c,d,s,hc,hl,h=>by rw [bT5] at h; cases h; exact ⟨ds9 c,hc⟩
 | m::r,c,d,s,hc,hl,h=>by
  rw [bT5] at h
  split at h
  ·cases h
  ·rename_i he
   have he:(au9 c m).2.2=0:=by simpa using he
   cases ho:bT5 (au9 c m).2.1 r with
   | none=>rw [ho] at h; cases h
   | some x=>
    rw [ho] at h
    cases h
    have hR:=hl m (List.mem_cons_self ..)
    obtain ⟨h1,h2⟩:=dS4 (eo6 hc hR) (fun x hx=>hl x (List.mem_cons_of_mem _ hx)) ho
    exact ⟨dt0 (eD8 hc hR he) h1,h2⟩
theorem eD9:∀ {l:List Msg} {c d:Ctx} {s b:Bs} {i:Nat},bT5 c l=some (s,d)→((b++s).length:Int)≤65531→goO c l i b=((aI0 (b++s)).1,0,0)
 | [],c,d,s,b,i,h,hl=>by rw [bT5] at h; cases h; rw [goO,List.append_nil]
 | m::r,c,d,s,b,i,h,hl=>by
  rw [bT5] at h
  split at h
  ·cases h
  ·rename_i he
   cases ho:bT5 (au9 c m).2.1 r with
   | none=>rw [ho] at h; cases h
   | some x=>
    rw [ho] at h
    cases h
    rw [← List.append_assoc] at hl ⊢
    have hl2:(((b++(au9 c m).1)++x.1).length:Int)≤65531:=hl
    rw [goO,if_neg he,if_neg (by simp only [List.length_append] at hl2 ⊢; omega)]
    exact eD9 ho hl2
theorem eo7:∀ {l:List Msg} {c:Ctx} {b:Bs} {i:Nat},(goO c l i b).2.2=0→(b.length:Int)≤65531→∃ s d,bT5 c l=some (s,d)∧((b++s).length:Int)≤65531
 | [],c,b,i,h,hb=>⟨[],c,rfl,by simpa using hb⟩
 | m::r,c,b,i,h,hb=>by
  rw [goO] at h
  split at h
  ·rename_i he; exact absurd h he
  rename_i he
  split at h
  ·exact absurd h (show ¬((10:Int)=0) by decide)
  rename_i hl
  obtain ⟨s,d,h1,h2⟩:=eo7 h (by omega)
  exact ⟨(au9 c m).1++s,d,by rw [bT5,if_neg he,h1]; rfl,by rw [← List.append_assoc]; exact h2⟩
theorem eE0 {l:List Msg} {s:Bs} {d:Ctx} (h:aL3 c0 s l d) (hs:(s.length:Int)≤65531):au8 (aI0 s).1=(l,0,0):=by
 obtain ⟨w1,w2,w3,w4⟩:=dR9 (s:=s) (t:=[]) (by omega) (by simp; omega)
 rw [List.append_nil] at w1 w2
 obtain ⟨tl,h1,h2,h3⟩:=h 4
 have hf:=h3 []
 unfold au8
 rw [w1,w2,if_neg (by simp)]
 dsimp only
 rw [h1,aD3]
 dsimp only
 rw [hf]; rfl
theorem eW0 {l:List Msg} (h:(dM9 l).2.2=0):(∀ m∈l,aU9 m=true)∧∃ s d,bT5 c0 l=some (s,d)∧(s.length:Int)≤65531∧dM9 l=((aI0 s).1,0,0)∧aL3 c0 s l d∧(dM9 l).1.length=4+s.length:=by
 unfold dM9 at h ⊢
 cases hb:dd2 l 0 with
 | some i=>rw [hb] at h; exact absurd h (show ¬((1:Int)=0) by decide)
 | none=>
  rw [hb] at h
  dsimp only at h ⊢
  have hl:=dS3.1 hb
  obtain ⟨s,d,h1,h2⟩:=eo7 h (by simp)
  have h2':(s.length:Int)≤65531:=by simpa using h2
  have h3:=eD9 (i:=0) (b:=[]) h1 (by simpa using h2')
  rw [List.nil_append] at h3
  refine ⟨hl,s,d,h1,h2',h3,(dS4 cD6 (fun m hm=>bM2.1 (hl m hm)) h1).1,?_⟩
  rw [h3]
  exact (dR9 (s:=s) (t:=[]) (by omega) (by simp; omega)).2.2.1
end Go.VP
namespace Go.VP
open Go Go.VI
theorem ev7 (c:Ctx) (m:Msg):(au9 c m).1.length≤800:=by
 have h1:=eo5 m.id; have h2:=eg6 m.next; have h3:(cx0 m (as0 c m)).length≤257:=bl5 _ _
 have h4:(ck9 m).length≤257:=by
  unfold ck9 aG0 aF9
  split
  ·split
   ·exact bl5 _ _
   ·simp
  split
  ·exact bl5 _ _
  split
  ·exact bl5 _ _
  ·simp
 have h5:(dE8 c m).length≤514:=by
  unfold dE8
  split
  ·simp
  ·have a1:(if m.id=c.id then [] else idT m.id).length≤257:=by
    split
    ·simp
    ·exact h1
   have a2:(if m.next=aj3 c (af1 m.ae) then [] else dd0 m.next).length≤257:=by
    split
    ·simp
    ·exact h2
   rw [List.length_append]; omega
 unfold au9
 split
 ·simp
 split
 ·dsimp only; omega
 split
 ·simp
 ·dsimp only; rw [List.length_append]; omega
theorem ev8 {l:List Msg} {n:Nat} (hl:l.length≤100000) (hg:∀ m∈l,aE8 m) (hb:∀ m∈l,aU9 m=true):∀ (d k i:Nat) (c:Ctx) (b:Bs),i+d=l.length→d < k→okC c→b.length≤65531→
  aG9 n k l b c.prefix_c0 c.prefix_c1 c.prefix_c2 c.prefix_c3 c.next_c0 c.next_c1 c.id i=some (ag4 (goO c (l.drop i) i b),()):=by
 intro d
 induction d with
 | zero=>
  intro k i c b hd hk hc hbl
  obtain ⟨k,rfl⟩:∃ q,k=q+1:=⟨k - 1,by omega⟩
  rw [bv5,ifn (by omega),eV4 (by omega),List.drop_eq_nil_of_le (by omega)]; rfl
 | succ d ih=>
  intro k i c b hd hk hc hbl
  obtain ⟨k,rfl⟩:∃ q,k=q+1:=⟨k - 1,by omega⟩
  have hi:i < l.length:=by omega
  have hp:0≤(i:Int):=by omega
  have hm:=hb _ (List.getElem_mem hi)
  have hgm:=hg _ (List.getElem_mem hi)
  have ih':=fun c b=>ih k (i+1) c b (by omega) (by omega)
  rw [show ((i+1:Nat):Int)=(i:Int)+1 by omega] at ih'
  rw [bv5,ifd (by omega),if_pos hp,Int.toNat_natCast,ag1 hi,List.drop_eq_getElem_cons hi,goO]
  generalize l[i]=m at *
  have hlen:=ev7 c m
  rw [show (ad8.mk c.prefix_c0 c.prefix_c1 c.prefix_c2 c.prefix_c3 c.next_c0 c.next_c1 c.id)=c from rfl,eD7 hc hgm,Option.bind_some]
  dsimp only
  refine ab9 (fun he=>by rw [if_pos he]) (fun he=>?_)
  rw [if_neg (show ¬(au9 c m).2.2≠0 from fun q=>q he),if_pos (ah6 (by omega))]
  refine at4 (fun q=>by rw [if_pos q]) (fun q=>?_)
  rw [if_neg q,w64 (by omega) (by omega)]
  exact ih' _ _ (eo6 hc (bM2.1 hm)) (by omega)
theorem ev9 {l:List Msg} {n:Nat} (hn:1000000≤n) (hl:l.length≤100000) (hg:∀ m∈l,aE8 m):∀ (d k i:Nat),i+d=l.length→d < k→(∀ m∈l.take i,aU9 m=true)→
  aG8 n k l i=some (ag4 (match dd2 (l.drop i) i with | some j=>([],(j:Int),1) | none=>goO c0 l 0 []),()):=by
 intro d
 induction d with
 | zero=>
  intro k i hd hk hq
  obtain ⟨k,rfl⟩:∃ q,k=q+1:=⟨k - 1,by omega⟩
  rw [List.take_of_length_le (by omega)] at hq
  have:=ev8 (n:=n) hl hg hq l.length n 0 c0 [] (by omega) (by omega) cD6 (by simp)
  rw [bv4,ifn (by omega),List.drop_eq_nil_of_le (by omega)]
  exact this
 | succ d ih=>
  intro k i hd hk hq
  obtain ⟨k,rfl⟩:∃ q,k=q+1:=⟨k - 1,by omega⟩
  have hi:i < l.length:=by omega
  have hp:0≤(i:Int):=by omega
  have ih':=ih k (i+1) (by omega) (by omega)
  rw [show ((i+1:Nat):Int)=(i:Int)+1 by omega] at ih'
  have hgm:=hg _ (List.getElem_mem hi)
  rw [bv4,ifd (by omega),if_pos hp,Int.toNat_natCast,ag1 hi,dc9 hgm,Option.bind_some,List.drop_eq_getElem_cons hi,dd2]
  dsimp only
  cases hm:aU9 l[i] with
  | false=>rw [am5,if_pos rfl]
  | true=>
   rw [ah3,if_neg (show ¬(true=false) by simp),w64 (by omega) (by omega)]
   refine ih' (fun x hx=>?_)
   rw [List.take_succ_eq_append_getElem hi,List.mem_append,List.mem_singleton] at hx
   rcases hx with hx | rfl
   ·exact hq x hx
   ·exact hm
theorem eW1 {l:List Msg} (hl:l.length≤100000) (hg:∀ m∈l,aE8 m):bs6 (l,())=some (ag4 (dM9 l),()):=by
 show bs5 fuel (l,())=_
 rw [da5]
 exact ev9 (n:=fuel) (Nat.le_of_lt (ae2 (by omega))) hl hg l.length fuel 0 (by omega) (ae2 (by omega)) (fun m hm=>by simp at hm)
end Go.VP
namespace Go.VP
open Go Go.VI
def bx1 (s:Bs):Bool:=s.all (·==0)
theorem eE1 {n:Nat} {s:Bs} (hs:s.length≤1000000000):∀ (d m i:Nat),i+d=s.length→d < m→ba6 n m s i=some (((s.drop i).all (·==0),()),()):=by
 intro d
 induction d with
 | zero=>
  intro m i hd hm
  obtain ⟨m,rfl⟩:∃ k,m=k+1:=⟨m - 1,by omega⟩
  rw [bV8,ifn (by omega),List.drop_eq_nil_of_le (by omega)]; rfl
 | succ d ih=>
  intro m i hd hm
  obtain ⟨m,rfl⟩:∃ k,m=k+1:=⟨m - 1,by omega⟩
  have ha:i < s.length:=by omega
  have:=ih m (i+1) (by omega) (by omega)
  rw [show ((i+1:Nat):Int)=(i:Int)+1 by omega] at this
  rw [bV8,ifd (by omega),if_pos (by omega),Int.toNat_natCast,ag1 ha,w64 (by omega) (by omega),this,List.drop_eq_getElem_cons ha,List.all_cons]
  refine ab9 (fun h=>?_) (fun h=>?_)
  ·have:(s[i]==0)=false:=by
    rw [beq_eq_false_iff_ne]; intro e; rw [e] at h; exact h rfl
   rw [this]; rfl
  ·have:s[i]=0:=bG7 h
   rw [this]; simp
theorem ca0 {s:Bs} (hs:s.length≤1000000000):ad4 (s,())=some ((bx1 s,()),()):=by
 show cb6 fuel (s,())=_
 rw [dB2]
 exact eE1 hs s.length fuel 0 (by omega) (ae2 (by omega))
abbrev z4:Bs:=[0,0,0,0]
theorem dZ4 {s:Bs} (h:s.length=4):bx1 s=true↔s=z4:=by
 match s,h with
 | [a,b,c,d],_=>simp [bx1]
theorem eR9 {s t:Bs} (h:s.length=4) (h':t.length=4):bx1 (s++t)=true↔s=z4∧t=z4:=by
 rw [← dZ4 h,← dZ4 h']; simp [bx1,List.all_append]
def bE5 (s:Bs):ad7:=⟨num (aa2 s 0 2),num (aa2 s 2 2),aa2 s 4 4,aa2 s 8 4,aa2 s 12 4,num (aa2 s 16 4)⟩
theorem dN0 {s:Bs} {p q n:Int} (w:WfC s p q) (h:1≤n) (h7:n≤7) (h2:p+n≤q):ap9 (⟨s,p,q,false⟩,n,())=some ((num (aa2 s p n),()),(⟨s,p+n,q,false⟩,())):=by
 rw [cB3]
 have:=as2 w h h7 h2
 unfold cu at this
 dsimp only
 rw [this]; rfl
theorem dt1 {s:Bs} {p q:Int} (w:WfC s p q) (h2:p+4≤q):an9 (⟨s,p,q,false⟩,())=some ((aa2 s p 4,()),(⟨s,p+4,q,false⟩,())):=by
 rw [cv5]
 have:=av6 (n:=4) w (by omega) h2
 unfold cu at this
 dsimp only
 rw [this]; rfl
theorem eE2 {s:Bs} (h:s.length=20):bG3 (s,())=some ((bE5 s,true,()),()):=by
 have w:=WfC.whole (s:=s) (by omega)
 rw [dH8,if_neg (by simp [h]),bw0,Option.bind_some]
 dsimp only [cu]
 rw [dN0 w (by omega) (by omega) (by omega),Option.bind_some]
 dsimp only
 rw [dN0 (w.fwd (by omega) (by omega)) (by omega) (by omega) (by omega),Option.bind_some]
 dsimp only
 rw [dt1 ((w.fwd (n:=2) (by omega) (by omega)).fwd (by omega) (by omega)) (by omega),Option.bind_some]
 dsimp only
 rw [dt1 (((w.fwd (n:=2) (by omega) (by omega)).fwd (n:=2) (by omega) (by omega)).fwd (by omega) (by omega)) (by omega),Option.bind_some]
 dsimp only
 rw [dt1 ((((w.fwd (n:=2) (by omega) (by omega)).fwd (n:=2) (by omega) (by omega)).fwd (n:=4) (by omega) (by omega)).fwd (by omega) (by omega)) (by omega),Option.bind_some]
 dsimp only
 rw [dN0 (((((w.fwd (n:=2) (by omega) (by omega)).fwd (n:=2) (by omega) (by omega)).fwd (n:=4) (by omega) (by omega)).fwd (n:=4) (by omega) (by omega)).fwd (by omega) (by omega)) (by omega) (by omega) (by omega),Option.bind_some]
 rfl
def ap3 (n:Int):Bs:=ai2 [255,255,255,255] n
theorem eE3:∀ k:Fin 33,([(aa1 (IntKind.wrap .u8 (ac8 .u32 (ai0 .u32 4294967295 (IntKind.wrap .u64 (IntKind.wrap .i64 (32 - (k.val:Int))))) 24))),(aa1 (IntKind.wrap .u8 (ac8 .u32 (ai0 .u32 4294967295 (IntKind.wrap .u64 (IntKind.wrap .i64 (32 - (k.val:Int))))) 16))),(aa1 (IntKind.wrap .u8 (ac8 .u32 (ai0 .u32 4294967295 (IntKind.wrap .u64 (IntKind.wrap .i64 (32 - (k.val:Int))))) 8))),(aa1 (IntKind.wrap .u8 (ai0 .u32 4294967295 (IntKind.wrap .u64 (IntKind.wrap .i64 (32 - (k.val:Int)))))))]:Bs)=ap3 k.val:=by decide +kernel
theorem eg9 (n:Int):(ap3 n).length=4:=by unfold ap3; rw [aY1]; rfl
theorem eS0 {n:Int} (h:0≤n) (h':n≤32):∃ k:Fin 33,n=(k.val:Int):=⟨⟨n.toNat,by omega⟩,by simp; omega⟩
theorem dd3 {n:Int} (h:0≤n) (h':n≤32):bm8 (n,())=some ((ap3 n,true,()),()):=by
 obtain ⟨k,rfl⟩:=eS0 h h'
 rw [da8,ifn (by omega),ifn (by omega),if_pos (by rw [w64 (by omega) (by omega),eJ8 (by omega) (by omega)]; omega),eE3 k]
theorem ew0 {n:Int} (h:n < 0∨32 < n):bm8 (n,())=some (([],false,()),()):=by
 rw [da8]
 by_cases h0:n < 0
 ·rw [ifd h0]
 ·rw [ifn h0,ifd (by omega)]
def cl0 (s:Bs):Nat→Nat→Int × Bool
 | 0,_=>(0,false)
 | d+1,k=>if ap3 k=s then ((k:Int),true) else cl0 s d (k+1)
def an8 (s:Bs):Int × Bool:=cl0 s 33 0
theorem dd4 (s:Bs):∀ (d k:Nat),(∃ j:Nat,k≤j∧j < k+d∧cl0 s d k=((j:Int),true)∧ap3 j=s)∨(cl0 s d k=(0,false)∧∀ j:Nat,k≤j→j < k+d→ap3 j≠s)
 | 0,k=>.inr ⟨rfl,fun j h1 h2=>by omega⟩
 | d+1,k=>by
  by_cases h:ap3 k=s
  ·exact .inl ⟨k,by omega,by omega,by rw [cl0,if_pos h],h⟩
  ·rcases dd4 s d (k+1) with ⟨j,h1,h2,h3,h4⟩ | ⟨h3,h4⟩
   ·exact .inl ⟨j,by omega,by omega,by rw [cl0,if_neg h,h3],h4⟩
   ·refine .inr ⟨by rw [cl0,if_neg h,h3],fun j h1 h2=>?_⟩
    by_cases e:j=k
    ·rw [e]; exact h
    ·exact h4 j (by omega) (by omega)
theorem cx1 (s:Bs):(∃ k:Fin 33,an8 s=((k.val:Int),true)∧ap3 k.val=s)∨(an8 s=(0,false)∧∀ j:Nat,j < 33→ap3 j≠s):=by
 rcases dd4 s 33 0 with ⟨j,_,h2,h3,h4⟩ | ⟨h3,h4⟩
 ·exact .inl ⟨⟨j,by omega⟩,h3,h4⟩
 ·exact .inr ⟨h3,fun j h=>h4 j (by omega) (by omega)⟩
theorem eE4:∀ k:Fin 33,an8 (ap3 k.val)=((k.val:Int),true):=by decide +kernel
theorem eE5:∀ j:Fin 33,ax1 (2 ^ j.val - 1,())=some (((j.val:Int),()),()):=by
 intro j
 rw [bv6]
 revert j
 decide +kernel
theorem fb6 (x:Int):0≤IntKind.wrap .u8 x∧(IntKind.wrap .u8 x).toNat < 256:=by rw [wu8]; omega
theorem eE6 (x:Int):∃ r,ax1 (x,())=some ((r,()),()):=by
 rw [bv6]
 split <;> split <;>
 ·rw [if_pos (fb6 _).1,List.getElem?_eq_getElem (fb6 _).2,Option.bind_some]
  exact ⟨_,rfl⟩
theorem fb7:∀ k:Fin 33,ad2 .xor .u32 (4294967295) (ad2 .or .u32 (ad2 .or .u32 (ad2 .or .u32 (ai0 .u32 (IntKind.wrap .u32 ((((ap3 k.val)[0]?.getD 0).toNat:Nat):Int)) 24) (ai0 .u32 (IntKind.wrap .u32 ((((ap3 k.val)[1]?.getD 0).toNat:Nat):Int)) 16)) (ai0 .u32 (IntKind.wrap .u32 ((((ap3 k.val)[2]?.getD 0).toNat:Nat):Int)) 8)) (IntKind.wrap .u32 ((((ap3 k.val)[3]?.getD 0).toNat:Nat):Int)))=2 ^ (32 - k.val) - 1:=by decide +kernel
theorem eW2 {s:Bs} (h:s.length=4):bG4 (s,())=some (((an8 s).1,(an8 s).2,()),()):=by
 rw [dH9,if_neg (by simp [h]),ai5 (i:=0) (by omega),Option.bind_some,ai5 (i:=1) (by omega),Option.bind_some,ai5 (i:=2) (by omega),Option.bind_some,ai5 (i:=3) (by omega),Option.bind_some]
 rcases cx1 s with ⟨k,e,rfl⟩ | ⟨e,hn⟩
 ·rw [fb7 k,aG5]
  have:=eE5 ⟨32 - k.val,by omega⟩
  dsimp only at this
  rw [this,Option.bind_some,Option.bind_some]
  dsimp only
  have hk:=k.isLt
  rw [w64 (by omega) (by omega),show (32:Int) - ((32 - k.val:Nat):Int)=k.val by omega,dd3 (by omega) (by omega),Option.bind_some]
  dsimp only
  rw [if_neg (by simp),e]
 ·rw [aG5]
  obtain ⟨r,hr⟩:=eE6 (ad2 .xor .u32 (4294967295) (ad2 .or .u32 (ad2 .or .u32 (ad2 .or .u32 (ai0 .u32 (IntKind.wrap .u32 (((s[0]?.getD 0).toNat:Nat):Int)) 24) (ai0 .u32 (IntKind.wrap .u32 (((s[1]?.getD 0).toNat:Nat):Int)) 16)) (ai0 .u32 (IntKind.wrap .u32 (((s[2]?.getD 0).toNat:Nat):Int)) 8)) (IntKind.wrap .u32 (((s[3]?.getD 0).toNat:Nat):Int))))
  rw [hr,Option.bind_some,Option.bind_some]
  dsimp only
  generalize IntKind.wrap .i64 (32 - r)=x
  by_cases hx:x < 0∨32 < x
  ·rw [ew0 hx,Option.bind_some]
   dsimp only
   rw [if_pos (by cases s with | nil=>simp at h | cons=>rfl),e]
  ·rw [dd3 (by omega) (by omega),Option.bind_some]
   dsimp only
   have:ap3 x≠s:=by
    have:=hn x.toNat (by omega)
    rwa [show ((x.toNat:Nat):Int)=x by omega] at this
   rw [if_pos (by simpa using this),e]
theorem eh0 {s:Bs} (h:(an8 s).2=true):0≤(an8 s).1∧(an8 s).1≤32∧ap3 (an8 s).1=s:=by
 rcases cx1 s with ⟨k,e,hk⟩ | ⟨e,_⟩
 ·rw [e]; have:=k.isLt; exact ⟨by simp,by simp; omega,hk⟩
 ·rw [e] at h; cases h
theorem dn3 {n:Int} (h:0≤n) (h':n≤32):an8 (ap3 n)=(n,true):=by
 obtain ⟨k,rfl⟩:=eS0 h h'
 exact eE4 k
end Go.VP
namespace Go.VP
open Go Go.VI
def okR (m:Msg):Prop:=m.kind=1∧ag0 m=true∧(m.cmd=1∨m.cmd=2)∧(m.ver=1∨m.ver=2)∧m.prefix_.length=4∧m.next.length=4∧(m.auth=[]∨(m.ver=2∧m.auth.length=18))∧
 ((m.family=0∧m.cmd=1∧m.tag=0∧m.plen=0∧m.prefix_=z4∧m.next=z4∧m.metric=16)∨
  (m.family=2∧1≤m.metric∧m.metric≤16∧
   ((m.ver=1∧m.tag=0∧m.plen=32∧m.next=z4)∨(m.ver=2∧0≤m.tag∧m.tag≤65535∧0≤m.plen∧m.plen≤32∧bh1 m.prefix_ m.plen=true))))
open Classical in
noncomputable def aL4 (m:Msg):Bool:=decide (okR m)
theorem aG3 {m:Msg}:aL4 m=true↔okR m:=by unfold aL4; simp
structure RM (m:Msg):Prop where
 tag:IntKind.has .i64 m.tag
 plen:IntKind.has .i64 m.plen
 list:m.list.length≤1000000000
 subs:m.subs.length≤1000000000
theorem ai9 {R:Type} {p:Prop} [Decidable p] {t f r:R} (h:p→t=r) (h':¬p→f=r):(if decide p=true then t else f)=r:=by
 by_cases hp:p
 ·rw [ifd hp]; exact h hp
 ·rw [ifn hp]; exact h' hp
theorem bd4 {R:Type} {b:Bool} {t f r:R} (h:b=false→t=r) (h':b=true→f=r):(if (!b)=true then t else f)=r:=by
 cases b
 ·exact h rfl
 ·exact h' rfl
theorem cK0 {R:Type} {x a b:Int} {F V r:R} (h1:¬(x=a∨x=b)→F=r) (h2:(x=a∨x=b)→V=r):(if (x != a)=true then (if (x != b)=true then F else V) else V)=r:=
 ab9 (fun ha=>ab9 (fun hb=>h1 (by omega)) (fun hb=>h2 (.inr hb))) (fun ha=>h2 (.inl ha))
theorem eW3 {R:Type} {s:Bs} {v:Int} {F T r:R} (h1:¬(s=[]∨(v≠1∧s.length=18))→F=r) (h2:(s=[]∨(v≠1∧s.length=18))→T=r):(if (!(s==([]:Bs)))=true then (if (v==1)=true then F else (if ((s.length:Int) != 18)=true then F else T)) else T)=r:=
 dK5 (fun ha=>aa9 (fun hb=>h1 (by grind)) (fun hb=>ab9 (fun hc=>h1 (by grind)) (fun hc=>h2 (by grind)))) (fun ha=>h2 (.inl ha))
theorem eo8 {a:Bs} {n:Int} (h:a.length=4) (hn:IntKind.has .i64 n):ag3 (a,n,())=some ((decide (0≤n∧n≤32) && bh1 a n,()),()):=by
 rw [bV4,if_pos (by simp [h]),dr5 (by omega) hn,Option.bind_some]
 dsimp only
 refine ai9 (fun h0=>?_) (fun h0=>?_)
 ·rw [w64 (by omega) (by omega)]
  refine ai9 (fun h1=>?_) (fun h1=>?_)
  ·rw [decide_eq_true (by omega)]; rfl
  ·rw [decide_eq_false (by omega)]; rfl
 ·rw [decide_eq_false (by omega)]; rfl
theorem cx2 {m:Msg} (g:RM m):aQ7 (m,())=some ((aL4 m,()),()):=by
 have no:¬okR m→(some ((false,()),()):Option ((Bool × Unit) × Unit))=some ((aL4 m,()),()):=fun h=>by
  have:aL4 m=false:=by cases e:aL4 m with | false=>rfl | true=>exact absurd (aG3.1 e) h
  rw [this]
 have yes:∀ {b:Bool},(b=true↔okR m)→(some ((b,()),()):Option ((Bool × Unit) × Unit))=some ((aL4 m,()),()):=fun {b} h=>by
  have:b=aL4 m:=by rw [Bool.eq_iff_iff,h,aG3]
  rw [this]
 rw [dI5]
 refine ab9 (fun hk=>no fun h=>hk h.1) (fun hk=>?_)
 rw [bc6,Option.bind_some]
 refine bd4 (fun hb=>no fun h=>by have:=h.2.1; dsimp only at hb; rw [hb] at this; cases this) (fun hb=>?_)
 dsimp only at hb
 rw [cR1,Option.bind_some]
 refine bd4 (fun hp=>no fun h=>by have:=h.2.2.2.2.1; dsimp only at hp; simp at hp; omega) (fun hp=>?_)
 have hp4:m.prefix_.length=4:=by simp at hp; omega
 rw [cR1,Option.bind_some]
 refine bd4 (fun hp=>no fun h=>by have:=h.2.2.2.2.2.1; dsimp only at hp; simp at hp; omega) (fun hn=>?_)
 have hn4:m.next.length=4:=by simp at hn; omega
 refine cK0 (fun hc=>no fun h=>hc h.2.2.1) (fun hc=>?_)
 refine cK0 (fun hv=>no fun h=>hv h.2.2.2.1) (fun hv=>?_)
 refine eW3 (fun ha=>no fun h=>ha (by have:=h.2.2.2.2.2.2.1; grind)) (fun ha=>?_)
 have ha':m.auth=[]∨(m.ver=2∧m.auth.length=18):=by grind
 have z8:=eR9 hp4 hn4
 have zn:=dZ4 hn4
 refine aa9 (fun f0=>?_) (fun f0=>?_)
 ·refine aa9 (fun c1=>?_) (fun c1=>no (by grind [okR]))
  refine aa9 (fun t0=>?_) (fun t0=>no (by grind [okR]))
  refine aa9 (fun p0=>?_) (fun t0=>no (by grind [okR]))
  refine aa9 (fun m0=>?_) (fun t0=>no (by grind [okR]))
  rw [if_pos (af7 (by omega)),ca0 (by simp; omega),Option.bind_some]
  exact yes (by rw [z8]; grind [okR])
 ·refine ab9 (fun f2=>no (by grind [okR])) (fun f2=>?_)
  refine ai9 (fun h1=>no (by grind [okR])) (fun h1=>?_)
  refine ai9 (fun h2=>no (by grind [okR])) (fun h2=>?_)
  refine aa9 (fun v1=>?_) (fun v1=>?_)
  ·refine aa9 (fun t0=>?_) (fun t0=>no (by grind [okR]))
   refine aa9 (fun p0=>?_) (fun t0=>no (by grind [okR]))
   rw [ca0 (by omega),Option.bind_some]
   exact yes (by rw [zn]; grind [okR])
  ·have ft:=ar3 (k:=2) g.tag (by omega) (by omega)
   rw [show ((2:Nat):Int)=2 from rfl] at ft
   rw [ft,Option.bind_some]
   dsimp only
   have hf:ac7 m.tag 2=true↔0≤m.tag∧m.tag≤65535:=by unfold ac7; rw [decide_eq_true_eq]; omega
   cases hfb:ac7 m.tag 2 with
   | false=>rw [at2]; exact no (fun h=>by
    have:¬(0≤m.tag∧m.tag≤65535):=by rw [← hf,hfb]; simp
    grind [okR])
   | true=>
    have:=hf.1 hfb
    rw [ift,eo8 hp4 g.plen,Option.bind_some]
    exact yes (by rw [Bool.and_eq_true,decide_eq_true_eq]; grind [okR])
end Go.VP
namespace Go.VP
open Go Go.VI
abbrev Ent:=ad7
def aj4 (cmd ver:Int) (says:Bs) (e:Ent):Msg:=⟨1,cmd,ver,says,e.family,0,e.addr,(if e.family=0 then 0 else if ver=1 then 32 else (an8 e.mask).1),e.tag,e.next,e.metric,[],0,0,0,0,0,0,0,[],[],[],0,[],[]⟩
open Classical in
noncomputable def aC7 (cmd ver:Int) (says:Bs) (alone:Bool) (e:Ent):Int:=
 if e.family=0 then (if alone=true∧e.mask=z4∧okR (aj4 cmd ver says e) then 0 else 7)
 else if e.family≠2 then 4
 else if ver=1 then (if e.tag≠0∨e.mask≠z4∨e.next≠z4 then 5 else if e.metric < 1∨16 < e.metric then 6 else 0)
 else if ¬((an8 e.mask).2=true∧bh1 e.addr (an8 e.mask).1=true) then 7
 else if e.metric < 1∨16 < e.metric then 6 else 0
theorem lf {x:Msg} {v E:Int} {M:Msg} {R:Type} {S:R} (h:E=v) (h0:v≠0):∃ m',(some ((x,v,()),S):Option ((Msg × Int × Unit) × R))=some ((m',E,()),S)∧(E=0→m'=M):=⟨x,by rw [h],fun e=>absurd (h.symm.trans e) h0⟩
theorem lf0 {x:Msg} {E:Int} {M:Msg} {R:Type} {S:R} (hx:x=M) (h:E=0):∃ m',(some ((x,0,()),S):Option ((Msg × Int × Unit) × R))=some ((m',E,()),S)∧(E=0→m'=M):=⟨M,by rw [h,hx],fun _=>rfl⟩
structure ax8 (e:Ent):Prop where
 fam:0≤e.family∧e.family≤65535
 tag:0≤e.tag∧e.tag≤65535
 addr:e.addr.length=4
 mask:e.mask.length=4
 next:e.next.length=4
 metric:0≤e.metric∧e.metric≤4294967295
theorem aA4 {s:Bs} {p n:Nat} (h:p+n≤s.length):(aa2 s p n).length=n:=by
 have:=ah7 (s:=s) (p:=p) (n:=n) (by omega) (by omega) (by omega)
 omega
theorem eo9 {s:Bs} (h:s.length=20):ax8 (bE5 s):=by
 have h2:∀ p:Nat,p+2≤20→0≤num (aa2 s p 2)∧num (aa2 s p 2)≤65535:=fun p hp=>by
  have:=aR4 (aa2 s p 2)
  have hl:(aa2 s p 2).length=2:=aA4 (n:=2) (by omega)
  rw [hl] at this; omega
 have h4:=aR4 (aa2 s 16 4)
 have hl:(aa2 s 16 4).length=4:=aA4 (p:=16) (n:=4) (by omega)
 rw [hl] at h4
 exact ⟨h2 0 (by omega),h2 2 (by omega),aA4 (p:=4) (n:=4) (by omega),aA4 (p:=8) (n:=4) (by omega),aA4 (p:=12) (n:=4) (by omega),by show 0≤num (aa2 s 16 4)∧_; exact ⟨h4.1,by show num (aa2 s 16 4)≤_; omega⟩⟩
theorem eE7 {cmd ver:Int} {says:Bs} {e:Ent} (h:ax8 e):RM (aj4 cmd ver says e):=by
 have h1:=h.tag
 refine ⟨af2.2 (by show _≤e.tag∧e.tag≤_; omega),?_,by simp [aj4],by simp [aj4]⟩
 rw [af2]
 show _≤(if e.family=0 then (0:Int) else if ver=1 then 32 else (an8 e.mask).1)∧(if e.family=0 then (0:Int) else if ver=1 then 32 else (an8 e.mask).1)≤_
 rcases cx1 e.mask with ⟨k,hk,_⟩ | ⟨hk,_⟩
 ·rw [hk]; have:=k.isLt; split
  ·omega
  ·split <;> simp <;> omega
 ·rw [hk]; split
  ·omega
  ·split <;> simp
theorem eN3 {cmd ver:Int} {says:Bs} {alone:Bool} {e:Ent} (h:ax8 e) :
  ∃ m',aE2 (⟨cmd,ver,says,alone⟩,e,())=some ((m',aC7 cmd ver says alone e,()),((⟨cmd,ver,says,alone⟩:aI7),()))∧(aC7 cmd ver says alone e=0→m'=aj4 cmd ver says e):=by
 have zm:=dZ4 h.mask
 have zz:=eR9 h.mask h.next
 have rm:=eE7 (cmd:=cmd) (ver:=ver) (says:=says) h
 rw [cB4]
 dsimp only
 by_cases f0:e.family=0
 ·rw [if_pos (by simp [f0])]
  cases alone with
  | false=>rw [am5]; exact lf (v:=7) (by unfold aC7; rw [if_pos f0,if_neg (by simp)]) (by decide)
  | true=>
   rw [ah3,ca0 (by have:=h.mask; omega),Option.bind_some]
   dsimp only
   cases hz:bx1 e.mask with
   | false=>
    rw [am5]; exact lf (v:=7) (by unfold aC7; rw [if_pos f0,if_neg (by rw [← zm,hz]; simp)]) (by decide)
   | true=>
    have hm:=zm.1 hz
    have er:(⟨1,cmd,ver,says,e.family,0,e.addr,0,e.tag,e.next,e.metric,[],0,0,0,0,0,0,0,[],[],[],0,[],[]⟩:Msg)=aj4 cmd ver says e:=by unfold aj4; rw [if_pos f0]
    rw [ah3,er,cx2 rm,Option.bind_some]
    dsimp only
    by_cases ho:okR (aj4 cmd ver says e)
    ·rw [aG3.2 ho,ah3]
     exact lf0 rfl (by unfold aC7; rw [if_pos f0,if_pos ⟨rfl,hm,ho⟩])
    ·have:aL4 (aj4 cmd ver says e)=false:=by cases e':aL4 (aj4 cmd ver says e) with | false=>rfl | true=>exact absurd (aG3.1 e') ho
     rw [this,am5]
     exact lf (v:=7) (by unfold aC7; rw [if_pos f0,if_neg (fun h=>ho h.2.2)]) (by decide)
 ·rw [if_neg (by simp [f0])]
  by_cases f2:e.family=2
  ·rw [if_neg (by simp [f2])]
   by_cases v1:ver=1
   ·subst v1
    rw [if_pos (by rfl)]
    by_cases t0:e.tag=0
    ·rw [if_neg (by simp [t0]),if_pos (af7 (by have:=h.mask; have:=h.next; omega)),ca0 (by have:=h.mask; have:=h.next; simp; omega),Option.bind_some]
     dsimp only
     cases hz:bx1 (e.mask++e.next) with
     | false=>
      rw [am5]
      refine lf (v:=5) ?_ (by decide)
      unfold aC7; rw [if_neg f0,if_neg (by omega),if_pos rfl,if_pos]
      by_cases hm:e.mask=z4
      ·refine .inr (.inr fun hn=>?_); have:=zz.2 ⟨hm,hn⟩; rw [hz] at this; cases this
      ·exact .inr (.inl hm)
     | true=>
      have hm:=zz.1 hz
      rw [ah3]
      by_cases m1:e.metric < 1
      ·rw [ifd m1]; exact lf (v:=6) (by unfold aC7; rw [if_neg f0,if_neg (by omega),if_pos rfl,if_neg (by grind),if_pos (.inl m1)]) (by decide)
      ·rw [ifn m1]
       by_cases m2:16 < e.metric
       ·rw [ifd m2]; exact lf (v:=6) (by unfold aC7; rw [if_neg f0,if_neg (by omega),if_pos rfl,if_neg (by grind),if_pos (.inr m2)]) (by decide)
       ·rw [ifn m2]; exact lf0 (by unfold aj4; rw [if_neg f0,if_pos rfl]) (by unfold aC7; rw [if_neg f0,if_neg (by omega),if_pos rfl,if_neg (by grind),if_neg (by omega)])
    ·rw [if_pos (by simp [t0])]
     exact lf (v:=5) (by unfold aC7; rw [if_neg f0,if_neg (by omega),if_pos rfl,if_pos (.inl t0)]) (by decide)
   ·rw [if_neg (by simp [v1]),eW2 h.mask,Option.bind_some]
    dsimp only
    cases hp:(an8 e.mask).2 with
    | false=>
     rw [am5]
     exact lf (v:=7) (by unfold aC7; rw [if_neg f0,if_neg (by omega),if_neg v1,if_pos (by rw [hp]; simp)]) (by decide)
    | true=>
     have pr:=eh0 hp
     rw [ah3,eo8 h.addr (af2.2 (by omega)),Option.bind_some]
     dsimp only
     rw [decide_eq_true (show 0≤(an8 e.mask).1∧(an8 e.mask).1≤32 by omega),Bool.true_and]
     cases hc:bh1 e.addr (an8 e.mask).1 with
     | false=>
      rw [am5]
      exact lf (v:=7) (by unfold aC7; rw [if_neg f0,if_neg (by omega),if_neg v1,if_pos (by rw [hc]; simp)]) (by decide)
     | true=>
      rw [ah3]
      by_cases m1:e.metric < 1
      ·rw [ifd m1]; exact lf (v:=6) (by unfold aC7; rw [if_neg f0,if_neg (by omega),if_neg v1,if_neg (by simp [hp,hc]),if_pos (.inl m1)]) (by decide)
      ·rw [ifn m1]
       by_cases m2:16 < e.metric
       ·rw [ifd m2]; exact lf (v:=6) (by unfold aC7; rw [if_neg f0,if_neg (by omega),if_neg v1,if_neg (by simp [hp,hc]),if_pos (.inr m2)]) (by decide)
       ·rw [ifn m2]; exact lf0 (by unfold aj4; rw [if_neg f0,if_neg v1]) (by unfold aC7; rw [if_neg f0,if_neg (by omega),if_neg v1,if_neg (by simp [hp,hc]),if_neg (by omega)])
  ·rw [if_pos (by simp [f2])]
   exact lf (v:=4) (by unfold aC7; rw [if_neg f0,if_pos f2]) (by decide)
end Go.VP
namespace Go.VP
open Go Go.VI
def av8 (b:Bs):Int × Int:=
 if b.length < 4 then (b.length,2) else if ¬(bt b 0=1∨bt b 0=2) then (0,4) else if ¬(bt b 1=1∨bt b 1=2) then (1,4)
 else if ¬(bt b 2=0∧bt b 3=0) then (2,5) else if ((b.length:Int) - 4) % 20≠0 then (b.length,2) else if b.length=4 then (b.length,8) else if 504 < b.length then (504,8) else (0,0)
theorem dt2 {b:Bs} (h:(av8 b).2=0):24≤b.length∧b.length≤504∧(bt b 0=1∨bt b 0=2)∧(bt b 1=1∨bt b 1=2)∧bt b 2=0∧bt b 3=0∧((b.length:Int) - 4) % 20=0:=by
 unfold av8 at h
 split at h
 ·simp at h
 split at h
 ·simp at h
 split at h
 ·simp at h
 split at h
 ·simp at h
 split at h
 ·simp at h
 split at h
 ·simp at h
 split at h
 ·simp at h
 ·rename_i h1 h2 h3 h4 h5 h6 h7
  exact ⟨by omega,by omega,by omega,by omega,by omega,by omega,by omega⟩
theorem df8 {b:Bs} (h:¬b.length < 4):∃ w x y z r,b=w::x::y::z::r:=by
 match b,h with
 | w::x::y::z::r,_=>exact ⟨w,x,y,z,r,rfl⟩
 | [],h=>simp at h
 | [_],h=>simp at h
 | [_,_],h=>simp at h
 | [_,_,_],h=>simp at h
theorem eW4 {b:Bs} (hb:b.length≤100000):bX3 (b,())=some (((av8 b).1,(av8 b).2,()),()):=by
 rw [dV0]
 by_cases h4:b.length < 4
 ·rw [ifd (by omega)]; unfold av8; rw [if_pos h4]
 obtain ⟨w,x,y,z,r,rfl⟩:=df8 h4
 rw [ifn (by omega)]
 have e0:bt (w::x::y::z::r) 0=(w.toNat:Int):=rfl
 have e1:bt (w::x::y::z::r) 1=(x.toNat:Int):=rfl
 have e2:bt (w::x::y::z::r) 2=(y.toNat:Int):=rfl
 have e3:bt (w::x::y::z::r) 3=(z.toNat:Int):=rfl
 simp only [List.getElem?_cons_zero,List.getElem?_cons_succ,Option.bind_some]
 refine cK0 (fun h=>?_) (fun ha=>?_)
 ·unfold av8; rw [if_neg h4,if_pos (by rw [e0]; exact h)]
 refine cK0 (fun h=>?_) (fun hb'=>?_)
 ·unfold av8; rw [if_neg h4,if_neg (by rw [e0]; exact fun c=>c ha),if_pos (by rw [e1]; exact h)]
 rw [if_pos (by omega),show (List.take 4 (w::x::y::z::r)).drop 2=[y,z] from rfl,ca0 (by simp),Option.bind_some]
 have hz:bx1 [y,z]=true↔((y.toNat:Int)=0∧(z.toNat:Int)=0):=by
  simp only [bx1,List.all_cons,List.all_nil,Bool.and_true,Bool.and_eq_true,beq_iff_eq]
  constructor
  ·rintro ⟨rfl,rfl⟩; exact ⟨rfl,rfl⟩
  ·rintro ⟨h1,h2⟩; exact ⟨bG7 h1,bG7 h2⟩
 refine bd4 (fun h=>?_) (fun hzz=>?_)
 ·unfold av8; rw [if_neg h4,if_neg (by rw [e0]; exact fun c=>c ha),if_neg (by rw [e1]; exact fun c=>c hb'),if_pos (by rw [e2,e3,← hz]; dsimp only at h; rw [h]; simp)]
 have hzz':=hz.1 hzz
 have hL:(4:Int)≤((w::x::y::z::r).length:Int):=by omega
 generalize hLL:(w::x::y::z::r).length=L at *
 rw [w64 (by omega) (by omega),Int.tmod_eq_emod_of_nonneg (by omega),Int.tdiv_eq_ediv_of_nonneg (by omega),w64 (by omega) (by omega)]
 have hd:av8 (w::x::y::z::r)=(if ((L:Int) - 4) % 20≠0 then ((L:Int),2) else if L=4 then ((L:Int),8) else if 504 < L then (504,8) else (0,0)):=by
  unfold av8; rw [hLL,if_neg (by omega),if_neg (by rw [e0]; exact fun c=>c ha),if_neg (by rw [e1]; exact fun c=>c hb'),if_neg (by rw [e2,e3]; exact fun c=>c hzz')]
 rw [hd]
 refine ai9 (fun h=>?_) (fun h5=>?_)
 ·rw [if_pos (by omega)]
 rw [if_neg (show ¬((L:Int) - 4) % 20≠0 by omega)]
 refine aa9 (fun h=>?_) (fun h6=>?_)
 ·rw [if_pos (by omega)]
 rw [if_neg (show ¬L=4 by omega)]
 refine ai9 (fun h=>?_) (fun h7=>?_)
 ·rw [if_pos (by omega)]
 ·rw [if_neg (by omega)]
def goR (f:Ent→Msg × Int) (b:Bs):Nat→Nat→List Msg→List Msg × Int × Int
 | 0,_,acc=>(acc,0,0)
 | k+1,at_,acc=>if (f (bE5 (aa2 b at_ 20))).2≠0 then ([],(at_:Int),(f (bE5 (aa2 b at_ 20))).2) else goR f b k (at_+20) (acc++[(f (bE5 (aa2 b at_ 20))).1])
noncomputable def rt (cmd ver:Int) (says:Bs) (alone:Bool) (e:Ent):Msg × Int:=(aj4 cmd ver says e,aC7 cmd ver says alone e)
theorem eS1:ba3≤100000:=Nat.le_of_ble_eq_true (by kernel_rfl)
theorem dE9 {n:Nat} {b:Bs} {cmd ver:Int} {says:Bs} {alone:Bool} (hb:b.length≤100000):∀ (k m at_:Nat) (acc:List Msg),at_+20 * k=b.length→k < m→acc.length+k≤10000→
  aw6 n m b at_ acc cmd ver says alone=some (((goR (rt cmd ver says alone) b k at_ acc).1,(goR (rt cmd ver says alone) b k at_ acc).2.1,(goR (rt cmd ver says alone) b k at_ acc).2.2,()),()):=by
 intro k
 induction k with
 | zero=>
  intro m at_ acc h hm ha
  obtain ⟨m,rfl⟩:∃ k,m=k+1:=⟨m - 1,by omega⟩
  rw [ci2,ifn (by omega)]; rfl
 | succ k ih=>
  intro m at_ acc h hm ha
  obtain ⟨m,rfl⟩:∃ k,m=k+1:=⟨m - 1,by omega⟩
  have hl:(aa2 b at_ 20).length=20:=aA4 (n:=20) (by omega)
  obtain ⟨m',er,hm'⟩:=eN3 (cmd:=cmd) (ver:=ver) (says:=says) (alone:=alone) (eo9 hl)
  rw [ci2,ifd (by omega),w64 (by omega) (by omega),if_pos (by omega)]
  rw [show (List.take ((at_:Int)+20).toNat b).drop ((at_:Int)).toNat=aa2 b at_ 20 from rfl,eE2 hl,Option.bind_some]
  dsimp only
  rw [er,Option.bind_some]
  dsimp only
  refine ab9 (fun he=>?_) (fun he=>?_)
  ·rw [goR,if_pos (show (rt cmd ver says alone (bE5 (aa2 b at_ 20))).2≠0 from he)]; rfl
  ·have:=ih m (at_+20) (acc++[m']) (by omega) (by omega) (by simp; omega)
   rw [show ((at_+20:Nat):Int)=(at_:Int)+20 by omega] at this
   have hbo:=eS1
   rw [if_pos (ah6 (by rw [show (acc.length + [m'].length)=acc.length+1 from rfl]; exact Nat.le_trans (Nat.mul_le_mul (show acc.length+1≤10000 by omega) hbo) (by decide))),this,goR,if_neg (show ¬(rt cmd ver says alone (bE5 (aa2 b at_ 20))).2≠0 from fun c=>c he),hm' he]; rfl
def bx2 (b:Bs):Bool:=b.take 2==[255,255]
theorem eW5 {s:Bs} (h:s.length=20):bX4 (s,())=some (((if bx2 s=true then s.drop 2 else []),bx2 s,()),()):=by
 rw [dV1,cv4,bc3,av5]
 rw [ifd (by simp; omega),if_pos (by simp; omega),Option.bind_some]
 rw [show (([255,255]:Bs).length:Int).toNat=2 from rfl]
 cases ha:bx2 s with
 | false=>
  have:(s.take 2==[255,255])=false:=ha
  rw [this]; rfl
 | true=>
  have:(s.take 2==[255,255])=true:=ha
  rw [this]
  dsimp only
  rw [ah3,if_pos (by simp; omega),Option.bind_some,Option.bind_some]
  dsimp only
  rw [ah3,if_neg (by simp; omega),if_pos rfl]
noncomputable def ak6 (b:Bs):List Msg × Int × Int:=
 if (av8 b).2≠0 then ([],(av8 b).1,(av8 b).2)
 else if bt b 1=2∧bx2 (aa2 b 4 20)=true then
  (if b.length=24 then ([],24,8) else goR (rt (bt b 0) (bt b 1) ((aa2 b 4 20).drop 2) (decide (b.length=44))) b ((b.length - 24) / 20) 24 [])
 else goR (rt (bt b 0) (bt b 1) [] (decide (b.length=24))) b ((b.length - 4) / 20) 4 []
theorem ep0 (a c:Nat):(((a:Int)==(c:Int)):Bool)=decide (a=c):=by
 rw [Bool.eq_iff_iff,beq_iff_eq,decide_eq_true_eq]; omega
theorem eN4 {b:Bs} (hb:b.length≤100000):cu5 (b,())=some (((ak6 b).1,(ak6 b).2.1,(ak6 b).2.2,()),()):=by
 show cu4 fuel (b,())=_
 rw [dI0,eW4 hb,Option.bind_some]
 dsimp only
 refine ab9 (fun he=>?_) (fun he=>?_)
 ·unfold ak6; rw [if_pos he]
 obtain ⟨h1,h2,h3,h4,_,_,h5⟩:=dt2 he
 have hl:(aa2 b 4 20).length=20:=aA4 (p:=4) (n:=20) (by omega)
 rw [ai5 (i:=0) (by omega),Option.bind_some,ai5 (i:=1) (by omega),Option.bind_some,if_pos (by omega),show (List.take 24 b).drop 4=aa2 b 4 20 from rfl,eW5 hl,Option.bind_some,bT0,bT0]
 have e0:bt b 0=(((b[0]?.getD 0).toNat:Nat):Int):=rfl
 have e1:bt b 1=(((b[1]?.getD 0).toNat:Nat):Int):=rfl
 rw [← e0,← e1]
 have L4:=dE9 (n:=fuel) (cmd:=bt b 0) (ver:=bt b 1) (says:=[]) (alone:=decide (b.length=24)) hb ((b.length - 4) / 20) fuel 4 [] (by omega) (ae2 (by omega)) (by simp; omega)
 have no:¬(bt b 1=2∧bx2 (aa2 b 4 20)=true)→(if ((4:Int)==(b.length:Int))=true then (some (([],4,8,()),()):Option ((List Msg × Int × Int × Unit) × Unit)) else (aw6 fuel fuel b 4 [] (bt b 0) (bt b 1) ([]:List UInt8) ((b.length:Int)==24)))=some (((ak6 b).1,(ak6 b).2.1,(ak6 b).2.2,()),()):=fun hn=>by
  rw [if_neg (by simp; omega),show (((b.length:Int)==24):Bool)=decide (b.length=24) from ep0 _ 24,show (4:Int)=((4:Nat):Int) from rfl,L4]
  unfold ak6; rw [if_neg (fun c=>c he),if_neg hn]
 dsimp only
 cases ha:bx2 (aa2 b 4 20) with
 | false=>rw [at2]; exact no (by rw [ha]; simp)
 | true=>
  rw [ift]
  refine aa9 (fun hv=>?_) (fun hv=>no (fun c=>hv c.1))
  have hp:ak6 b=(if b.length=24 then ([],24,8) else goR (rt (bt b 0) (bt b 1) ((aa2 b 4 20).drop 2) (decide (b.length=44))) b ((b.length - 24) / 20) 24 []):=by
   unfold ak6; rw [if_neg (fun c=>c he),if_pos ⟨hv,ha⟩]
  rw [hp]
  refine aa9 (fun hq=>?_) (fun hq=>?_)
  ·rw [if_pos (by omega)]
  ·have L24:=dE9 (n:=fuel) (cmd:=bt b 0) (ver:=bt b 1) (says:=(aa2 b 4 20).drop 2) (alone:=decide (b.length=44)) hb ((b.length - 24) / 20) fuel 24 [] (by omega) (ae2 (by omega)) (by simp; omega)
   rw [ift,if_neg (show ¬b.length=24 by omega),show (((b.length:Int)==44):Bool)=decide (b.length=44) from ep0 _ 44,show (24:Int)=((24:Nat):Int) from rfl,L24]
end Go.VP
namespace Go.VP
open Go Go.VI
theorem fb8 {x:Int} (h:0≤x):ac8 .i64 x 8=x / 256:=by
 unfold ac8
 rw [show (2:Int) ^ (min (8:Int).toNat IntKind.i64.bits)=256 by decide]
 exact Int.fdiv_eq_ediv_of_nonneg _ (by decide)
theorem dS5 {c:Nat}:∀ (i m:Nat) (x:Int) (acc:Bs),i≤acc.length→acc.length≤100→i < m→0≤x→aP9 c m x ((i:Int) - 1) acc=some ((be i x++acc.drop i,true,()),())
 | 0,m,x,acc,h1,h2,hm,hx=>by
  obtain ⟨m,rfl⟩:∃ k,m=k+1:=⟨m - 1,by omega⟩
  rw [aO0,ifn (by omega)]; simp [be]
 | i+1,m,x,acc,h1,h2,hm,hx=>by
  obtain ⟨m,rfl⟩:∃ k,m=k+1:=⟨m - 1,by omega⟩
  have e:(((i+1:Nat):Int) - 1)=(i:Int):=by omega
  rw [aO0,e,ifd (by omega),if_pos (by omega),Int.toNat_natCast,if_pos (by omega),w64 (by omega) (by omega),fb8 hx,dS5 i m (x / 256) _ (by simp; omega) (by simp; omega) (by omega) (by omega),wu8,be]
  have:(acc.set i (aa1 (x % 256))).drop i=aa1 (x % 256)::acc.drop (i+1):=by
   rw [List.drop_eq_getElem_cons (by simp; omega),List.getElem_set_self,List.drop_set_of_lt (by omega)]
  rw [this]; simp
theorem df9 {n:Int} {k:Nat} (hn:IntKind.has .i64 n) (h1:1≤k) (h7:k≤7) (hf:ac7 n k=true):al5 (n,(k:Int),())=some ((be k n,true,()),()):=by
 show bF8 fuel (n,(k:Int),())=_
 have h0:0≤n:=by unfold ac7 at hf; rw [decide_eq_true_eq] at hf; exact hf.1
 rw [cB6,ar3 hn h1 h7,Option.bind_some,hf]
 dsimp only
 have hr:(k:Int)≤aj9:=by unfold aj9; omega
 rw [ah3,if_pos ⟨by omega,hr⟩,w64 (by omega) (by omega),Int.toNat_natCast,dS5 k fuel n _ (by simp) (by simp; omega) (ae2 (by omega)) h0]
 simp
def aO4 (e:Ent):Bs:=be 2 e.family++be 2 e.tag++e.addr++e.mask++e.next++be 4 e.metric
theorem ew1 {n:Int} (h:0≤n∧n≤65535):ac7 n 2=true:=by unfold ac7; rw [decide_eq_true_eq]; omega
theorem fb9 {n:Int} (h:0≤n∧n≤4294967295):ac7 n 4=true:=by unfold ac7; rw [decide_eq_true_eq]; omega
theorem eE8 {e:Ent} (h:ax8 e):aR1 (e,())=some ((aO4 e,true,()),()):=by
 have h1:=h.addr; have h2:=h.mask; have h3:=h.next; have h4:=h.fam; have h5:=h.tag; have h6:=h.metric
 have hf:IntKind.has .i64 e.family:=af2.2 (by omega)
 have ht:IntKind.has .i64 e.tag:=af2.2 (by omega)
 have hm:IntKind.has .i64 e.metric:=af2.2 (by omega)
 have a1:=ar3 (k:=4) hm (by omega) (by omega)
 have a2:=ar3 (k:=2) hf (by omega) (by omega)
 have a3:=ar3 (k:=2) ht (by omega) (by omega)
 have b1:=df9 (k:=2) hf (by omega) (by omega) (ew1 h4)
 have b2:=df9 (k:=2) ht (by omega) (by omega) (ew1 h5)
 have b3:=df9 (k:=4) hm (by omega) (by omega) (fb9 h6)
 rw [fb9 h6] at a1; rw [ew1 h4] at a2; rw [ew1 h5] at a3
 rw [show ((2:Nat):Int)=2 from rfl] at *
 rw [show ((4:Nat):Int)=4 from rfl] at *
 rw [dJ2,if_neg (by simp; omega),if_neg (by simp; omega),if_neg (by simp; omega),a1,Option.bind_some]
 dsimp only
 rw [ah3,a2,Option.bind_some]
 dsimp only
 rw [ah3,a3,Option.bind_some]
 dsimp only
 rw [ah3,b1,Option.bind_some,b2,Option.bind_some,b3,Option.bind_some]
 dsimp only
 have l2:=ab6 2
 have l4:=ab6 4
 rw [if_pos (af7 (by simp [l2])),if_pos (af7 (by simp [l2,h1])),if_pos (af7 (by simp [l2,h1,h2])),if_pos (af7 (by simp [l2,h1,h2,h3])),if_pos (af7 (by simp [l2,l4,h1,h2,h3]))]
 rfl
def aq7 (m:Msg):Ent:=⟨m.family,m.tag,m.prefix_,(if m.family=2∧m.ver=2 then ap3 m.plen else z4),m.next,m.metric⟩
def av9 (m:Msg):Bs:=aO4 (aq7 m)
theorem dN1 {m:Msg} (h:okR m):ax8 (aq7 m):=by
 obtain ⟨_,_,_,_,hp,hn,_,h⟩:=h
 refine ⟨?_,?_,hp,?_,hn,?_⟩
 ·show 0≤m.family∧m.family≤65535; omega
 ·show 0≤m.tag∧m.tag≤65535; omega
 ·unfold aq7; dsimp only; split
  ·exact eg9 _
  ·rfl
 ·show 0≤m.metric∧m.metric≤4294967295; omega
theorem bx3 {m:Msg} (h:okR m):(av9 m).length=20:=by
 have g:=dN1 h
 unfold av9 aO4
 have h1:=g.addr; have h2:=g.mask; have h3:=g.next
 simp [ab6,h1,h2,h3]
theorem fc0:ah9 (4,())=some ((z4,()),()):=by
 rw [bk9,if_pos (by unfold aj9; decide)]; rfl
theorem eW6 {m:Msg} (h:okR m):br6 (m,())=some ((av9 m,()),()):=by
 have g:=eE8 (dN1 h)
 rw [dW0,fc0,Option.bind_some]
 refine aa9 (fun f2=>aa9 (fun v2=>?_) (fun v2=>?_)) (fun f2=>?_)
 ·have hp:0≤m.plen∧m.plen≤32:=by obtain ⟨_,_,_,_,_,_,_,h⟩:=h; omega
  rw [dd3 hp.1 hp.2,Option.bind_some]
  have e:aq7 m=⟨m.family,m.tag,m.prefix_,ap3 m.plen,m.next,m.metric⟩:=by unfold aq7; rw [if_pos ⟨f2,v2⟩]
  rw [e] at g
  dsimp only
  rw [g,Option.bind_some,← e]; rfl
 ·have e:aq7 m=⟨m.family,m.tag,m.prefix_,z4,m.next,m.metric⟩:=by unfold aq7; rw [if_neg (fun c=>v2 c.2)]
  rw [e] at g
  dsimp only
  rw [g,Option.bind_some,← e]; rfl
 ·have e:aq7 m=⟨m.family,m.tag,m.prefix_,z4,m.next,m.metric⟩:=by unfold aq7; rw [if_neg (fun c=>f2 c.1)]
  rw [e] at g
  dsimp only
  rw [g,Option.bind_some,← e]; rfl
def bl6 (f m:Msg):Prop:=m.cmd=f.cmd∧m.ver=f.ver∧m.auth=f.auth∧m.family≠0∧f.family≠0
instance (f m:Msg):Decidable (bl6 f m):=by unfold bl6; infer_instance
def bj7 (f:Msg) (most:Int):List Msg→Nat→Bs→Bs × Int × Int
 | [],_,acc=>(acc,0,0)
 | m::r,i,acc=>if (i:Int)=most then ([],(i:Int),8) else if 0 < i∧¬bl6 f m then ([],(i:Int),7) else bj7 f most r (i+1) (acc++av9 m)
theorem fc1 (f m:Msg):∃ b,ba9 (f,m,())=some ((b,()),())∧(b=true↔bl6 f m):=by
 rw [dh3]
 by_cases h1:m.cmd=f.cmd
 ·rw [if_pos (by simp [h1])]
  by_cases h2:m.ver=f.ver
  ·rw [if_pos (by simp [h2])]
   by_cases h3:m.auth=f.auth
   ·rw [if_pos (by simp [h3])]
    by_cases h4:m.family=0
    ·rw [if_neg (by simp [h4])]; exact ⟨_,rfl,by simp [bl6,h4]⟩
    ·rw [if_pos (by simp [h4])]; exact ⟨_,rfl,by simp [bl6,h1,h2,h3,h4]⟩
   ·rw [if_neg (by simpa using h3)]; exact ⟨_,rfl,by simp [bl6,h3]⟩
  ·rw [if_neg (by simpa using h2)]; exact ⟨_,rfl,by simp [bl6,h2]⟩
 ·rw [if_neg (by simpa using h1)]; exact ⟨_,rfl,by simp [bl6,h1]⟩
theorem eE9 {n:Nat} {l:List Msg} {f:Msg} {most:Int} (hf:l[0]?=some f) (hok:∀ m∈l,okR m) (hl:l.length≤1000):∀ (d m i:Nat) (acc:Bs),i+d=l.length→d < m→acc.length≤1000+20 * i→
  aA2 n m l most acc i=some (((bj7 f most (l.drop i) i acc).1,(bj7 f most (l.drop i) i acc).2.1,(bj7 f most (l.drop i) i acc).2.2,()),()):=by
 intro d
 induction d with
 | zero=>
  intro m i acc hd hm ha
  obtain ⟨m,rfl⟩:∃ k,m=k+1:=⟨m - 1,by omega⟩
  rw [bV7,ifn (by omega),List.drop_eq_nil_of_le (by omega)]; rfl
 | succ d ih=>
  intro m i acc hd hm ha
  obtain ⟨m,rfl⟩:∃ k,m=k+1:=⟨m - 1,by omega⟩
  have hi:i < l.length:=by omega
  have ho:=hok _ (List.getElem_mem hi)
  have:=ih m (i+1) (acc++av9 l[i]) (by omega) (by omega) (by simp [bx3 ho]; omega)
  rw [show ((i+1:Nat):Int)=(i:Int)+1 by omega] at this
  rw [bV7,ifd (by omega),if_pos (by omega),Int.toNat_natCast,ag1 hi,List.drop_eq_getElem_cons hi,hf,Option.bind_some,eW6 ho,Option.bind_some,if_pos (ah6 (by rw [bx3 ho]; omega)),w64 (by omega) (by omega),this,bj7]
  refine aa9 (fun h=>?_) (fun h=>?_)
  ·rw [if_pos h]
  rw [if_neg h]
  obtain ⟨b,hb,hb'⟩:=fc1 f l[i]
  rw [hb,Option.bind_some]
  refine ai9 (fun h0=>?_) (fun h0=>?_)
  ·refine bd4 (fun hz=>?_) (fun hz=>?_)
   ·rw [if_pos ⟨by omega,by rw [← hb']; dsimp only at hz; rw [hz]; simp⟩]
   ·rw [if_neg (fun c=>c.2 (hb'.1 hz))]
  ·rw [if_neg (fun c=>h0 (by omega))]
open Classical in
noncomputable def cl1:List Msg→Nat→Option Nat
 | [],_=>none
 | m::r,i=>if okR m then cl1 r (i+1) else some i
def aO5 (f:Msg):Int:=if f.auth=[] then 25 else 24
def ay7 (f:Msg):Bs:=[aa1 (f.cmd % 256),aa1 (f.ver % 256),0,0]++(if f.auth=[] then [] else [255,255]++f.auth)
noncomputable def aY8 (l:List Msg):Bs × Int × Int:=match cl1 l 0 with
 | some i=>([],(i:Int),1)
 | none=>match l with
  | []=>([],0,8)
  | f::_=>bj7 f (aO5 f) l 0 (ay7 f)
theorem dd5:∀ {l:List Msg} {i:Nat},cl1 l i=none→∀ m∈l,okR m
 | [],_,_,m,hm=>by cases hm
 | x::r,i,h,m,hm=>by
  unfold cl1 at h
  split at h
  ·rename_i hx
   rcases List.mem_cons.1 hm with rfl | hm
   ·exact hx
   ·exact dd5 h m hm
  ·cases h
theorem ep1:∀ {l:List Msg} {i:Nat},(∀ m∈l,okR m)→cl1 l i=none
 | [],_,_=>rfl
 | x::r,i,h=>by
  unfold cl1; rw [if_pos (h x (by simp))]; exact ep1 (fun m hm=>h m (by simp [hm]))
theorem cl2 {f:Msg} (h:okR f):(ay7 f).length=if f.auth=[] then 4 else 24:=by
 obtain ⟨_,_,_,_,_,_,ha,_⟩:=h
 unfold ay7
 by_cases e:f.auth=[]
 ·rw [if_pos e,if_pos e]; rfl
 ·rw [if_neg e,if_neg e]
  have:f.auth.length=18:=by rcases ha with h | h; exact absurd h e; exact h.2
  simp [this]
theorem fc2 {l:List Msg} (g:∀ m∈l,RM m) (hl:l.length≤1000):cd8 (l,())=some (((aY8 l).1,(aY8 l).2.1,(aY8 l).2.2,()),()):=by
 show cd7 fuel (l,())=_
 rw [dA4]
 have main:∀ (d m i:Nat),i+d=l.length→d < m→cl1 l 0=cl1 (l.drop i) i→bb0 fuel m l i=some (((aY8 l).1,(aY8 l).2.1,(aY8 l).2.2,()),()):=by
  intro d
  induction d with
  | zero=>
   intro m i hd hm hb
   obtain ⟨m,rfl⟩:∃ k,m=k+1:=⟨m - 1,by omega⟩
   rw [List.drop_eq_nil_of_le (by omega)] at hb
   have hn:cl1 l 0=none:=hb
   have hok:=dd5 hn
   rw [bV6,ifn (by omega)]
   cases l with
   | nil=>rfl
   | cons f r=>
    have hf:=hok f (by simp)
    have hl4:=cl2 hf
    have he:aY8 (f::r)=bj7 f (aO5 f) (f::r) 0 (ay7 f):=by unfold aY8; rw [hn]
    rw [he,if_neg (by simp; omega)]
    simp only [List.getElem?_cons_zero,Option.bind_some]
    have L:=fun (most:Int) (acc:Bs) (h:acc.length≤1000)=>eE9 (n:=fuel) (f:=f) (most:=most) (l:=f::r) rfl hok hl (f::r).length fuel 0 acc (by omega) (ae2 (by omega)) (by omega)
    rw [dV9,wu8,wu8]
    by_cases ha:f.auth=[]
    ·rw [if_pos (by simp [ha]),Option.bind_some]
     have e1:ay7 f=[aa1 (f.cmd % 256),aa1 (f.ver % 256),0,0]:=by unfold ay7; rw [if_pos ha]; rfl
     have e2:aO5 f=25:=by unfold aO5; rw [if_pos ha]
     dsimp only
     rw [at2,e1,e2]
     exact L 25 _ (by simp)
    ·have h18:f.auth.length=18:=by
      obtain ⟨_,_,_,_,_,_,ha',_⟩:=hf
      rcases ha' with h | h
      ·exact absurd h ha
      ·exact h.2
     rw [if_neg (by simp; omega),if_pos (af7 (by omega)),Option.bind_some]
     have e1:ay7 f=[aa1 (f.cmd % 256),aa1 (f.ver % 256),0,0]++([255,255]++f.auth):=by unfold ay7; rw [if_neg ha]
     have e2:aO5 f=24:=by unfold aO5; rw [if_neg ha]
     dsimp only
     rw [ift,if_pos (ah6 (by simp; omega)),e1,e2]
     exact L 24 _ (by simp; omega)
  | succ d ih=>
   intro m i hd hm hb
   obtain ⟨m,rfl⟩:∃ k,m=k+1:=⟨m - 1,by omega⟩
   have hi:i < l.length:=by omega
   rw [List.drop_eq_getElem_cons hi,cl1] at hb
   rw [bV6,ifd (by omega),if_pos (by omega),Int.toNat_natCast,ag1 hi,cx2 (g _ (List.getElem_mem hi)),Option.bind_some]
   dsimp only
   by_cases ho:okR l[i]
   ·rw [if_pos ho] at hb
    have:=ih m (i+1) (by omega) (by omega) hb
    rw [aG3.2 ho,ah3,w64 (by omega) (by omega)]
    exact this
   ·rw [if_neg ho] at hb
    have:aL4 l[i]=false:=by cases e':aL4 l[i] with | false=>rfl | true=>exact absurd (aG3.1 e') ho
    rw [this,am5]
    unfold aY8; rw [hb]
 exact main l.length fuel 0 (by omega) (ae2 (by omega)) rfl
end Go.VP
namespace Go.VP
open Go Go.VI
theorem fc3 {m:Msg} (g:aB4 m) (h:Few m):RM m:=by
 obtain ⟨g1,g2,g3,g4,g5,g6,g7,g8,g9,g10,g11,g12,g13,g14,g15,g16,g17,g18,g19,g20,g21,_⟩:=g
 exact ⟨g9,g8,by have:=h.list; omega,by have:=h.subs; omega⟩
theorem dN2 {P:Msg→Prop} {f:Ent→Msg × Int} {b:Bs} (hf:∀ e,P (f e).1):∀ (k at_:Nat) (acc:List Msg),(∀ m∈acc,P m)→∀ m∈(goR f b k at_ acc).1,P m
 | 0,_,acc,h=>h
 | k+1,at_,acc,h=>by
  rw [goR]
  split
  ·intro m hm; cases hm
  ·exact dN2 hf k (at_+20) _ (fun m hm=>by
    rcases List.mem_append.1 hm with hm | hm
    ·exact h m hm
    ·rw [List.mem_singleton] at hm; rw [hm]; exact hf _)
theorem ew2 {P:Msg→Prop} {b:Bs} (hP:∀ c v s e,P (aj4 c v s e)):∀ m∈(ak6 b).1,P m:=by
 unfold ak6
 split
 ·intro m hm; cases hm
 split
 ·split
  ·intro m hm; cases hm
  ·exact dN2 (fun e=>hP _ _ _ e) _ _ _ (fun m hm=>by cases hm)
 ·exact dN2 (fun e=>hP _ _ _ e) _ _ _ (fun m hm=>by cases hm)
end Go.VP
namespace Go.VP
open Go Go.VI
theorem dn4 (c v:Int) (s:Bs) (e:Ent):ag0 (aj4 c v s e)=true:=by
 have:ah2 (aj4 c v s e)=some (aj4 c v s e):=by unfold ah2; rw [if_pos (show (aj4 c v s e).kind=1 from rfl)]; rfl
 unfold ag0; rw [this]; exact an3 _
theorem cE0 (s:Bs) (p q:Nat) (n m:Nat) (h:q=p+n):aa2 s p n++aa2 s q m=aa2 s p (n+m:Nat):=by
 subst h
 unfold aa2
 rw [show ((p:Int)+(n:Int)).toNat=p+n by omega,show (((p+n:Nat):Int)+(m:Int)).toNat=p+n+m by omega,show ((p:Int)+((n+m:Nat):Int)).toNat=p+n+m by omega,Int.toNat_natCast,Int.toNat_natCast]
 rw [List.drop_take,List.drop_take,List.drop_take,← List.drop_drop,show p+n - p=n by omega,show p+n+m - (p+n)=m by omega,show p+n+m - p=n+m by omega,List.take_add]
theorem ep2 {s:Bs} {p:Nat} (h:p+2≤s.length):be 2 (num (aa2 s p 2))=aa2 s p 2:=dB9 2 _ (aA4 (n:=2) h)
theorem eW7 {s:Bs} {p:Nat} (h:p+4≤s.length):be 4 (num (aa2 s p 4))=aa2 s p 4:=dB9 4 _ (aA4 (n:=4) h)
theorem eF0 {s:Bs} (h:s.length=20):aO4 (bE5 s)=s:=by
 unfold aO4 bE5
 dsimp only
 have a:=ep2 (s:=s) (p:=0) (by omega)
 have b:=ep2 (s:=s) (p:=2) (by omega)
 have c:=eW7 (s:=s) (p:=16) (by omega)
 rw [show ((0:Nat):Int)=0 from rfl] at a
 rw [show ((2:Nat):Int)=2 from rfl] at b
 rw [show ((16:Nat):Int)=16 from rfl] at c
 rw [a,b,c]
 have e1:aa2 s 0 2++aa2 s 2 2=aa2 s 0 4:=cE0 s 0 2 2 2 rfl
 have e2:aa2 s 0 4++aa2 s 4 4=aa2 s 0 8:=cE0 s 0 4 4 4 rfl
 have e3:aa2 s 0 8++aa2 s 8 4=aa2 s 0 12:=cE0 s 0 8 8 4 rfl
 have e4:aa2 s 0 12++aa2 s 12 4=aa2 s 0 16:=cE0 s 0 12 12 4 rfl
 have e5:aa2 s 0 16++aa2 s 16 4=aa2 s 0 20:=cE0 s 0 16 16 4 rfl
 have f:aa2 s 0 20=s:=by unfold aa2; simp [← h]
 rw [e1,e2,e3,e4,e5,f]
theorem ew3 {c v:Int} {s:Bs} {al:Bool} {e:Ent} (h:ax8 e) (hc:c=1∨c=2) (hv:v=1∨v=2) (hs:s=[]∨(v=2∧s.length=18)) (he:aC7 c v s al e=0):okR (aj4 c v s e)∧aq7 (aj4 c v s e)=e∧(e.family=0→al=true):=by
 unfold aC7 at he
 by_cases f0:e.family=0
 ·rw [if_pos f0] at he
  split at he
  ·rename_i hh
   obtain ⟨ha,hm,ho⟩:=hh
   refine ⟨ho,?_,fun _=>ha⟩
   unfold aq7 aj4
   dsimp only
   rw [if_neg (by omega),← hm]
  ·simp at he
 rw [if_neg f0] at he
 split at he
 ·simp at he
 rename_i f2
 have f2:e.family=2:=by omega
 have h1:=h.tag
 by_cases v1:v=1
 ·rw [if_pos v1] at he
  split at he
  ·simp at he
  rename_i hz
  split at he
  ·simp at he
  rename_i hm
  have hz1:e.tag=0:=by grind
  have hz2:e.mask=z4:=by grind
  have hz3:e.next=z4:=by grind
  refine ⟨⟨rfl,dn4 ..,hc,hv,h.addr,h.next,hs,.inr ⟨f2,?_,?_,.inl ⟨v1,hz1,?_,hz3⟩⟩⟩,?_,fun c=>absurd c f0⟩
  ·show 1≤e.metric; omega
  ·show e.metric≤16; omega
  ·show (if e.family=0 then (0:Int) else if v=1 then 32 else (an8 e.mask).1)=32
   rw [if_neg f0,if_pos v1]
  ·unfold aq7 aj4
   dsimp only
   rw [if_neg (by omega),← hz2]
 ·rw [if_neg v1] at he
  split at he
  ·simp at he
  rename_i hp
  split at he
  ·simp at he
  rename_i hm
  have hp1:(an8 e.mask).2=true:=by grind
  have hp2:bh1 e.addr (an8 e.mask).1=true:=by grind
  have hk:=eh0 hp1
  have hpl:(aj4 c v s e).plen=(an8 e.mask).1:=by
   show (if e.family=0 then (0:Int) else if v=1 then 32 else (an8 e.mask).1)=_
   rw [if_neg f0,if_neg v1]
  refine ⟨⟨rfl,dn4 ..,hc,hv,h.addr,h.next,hs,.inr ⟨f2,?_,?_,.inr ⟨?_,?_,?_,?_,?_,?_⟩⟩⟩,?_,fun c=>absurd c f0⟩
  ·show 1≤e.metric; omega
  ·show e.metric≤16; omega
  ·show v=2; omega
  ·show 0≤e.tag; omega
  ·show e.tag≤65535; omega
  ·rw [hpl]; omega
  ·rw [hpl]; omega
  ·rw [hpl]; exact hp2
  ·unfold aq7
   rw [hpl,if_pos (show (aj4 c v s e).family=2∧(aj4 c v s e).ver=2 from ⟨f2,by show v=2; omega⟩),hk.2.2]; rfl
theorem dN3 {c v:Int} {s:Bs} {al:Bool} {b:Bs} (hc:c=1∨c=2) (hv:v=1∨v=2) (hs:s=[]∨(v=2∧s.length=18)):∀ (k at_:Nat) (acc:List Msg),at_+20 * k=b.length→(goR (rt c v s al) b k at_ acc).2.2=0→
  ∃ r,(goR (rt c v s al) b k at_ acc)=(acc++r,0,0)∧r.length=k∧(∀ m∈r,okR m∧m.cmd=c∧m.ver=v∧m.auth=s∧(m.family=0→al=true))∧r.flatMap av9=b.drop at_
 | 0,at_,acc,h,_=>⟨[],by simp [goR],rfl,by simp,by simp; omega⟩
 | k+1,at_,acc,h,he=>by
  have hl:(aa2 b at_ 20).length=20:=aA4 (n:=20) (by omega)
  rw [goR] at he ⊢
  by_cases h0:(rt c v s al (bE5 (aa2 b at_ 20))).2=0
  ·rw [if_neg (fun c=>c h0)] at he ⊢
   obtain ⟨r,h1,h2,h3,h4⟩:=dN3 hc hv hs k (at_+20) _ (by omega) he
   obtain ⟨o1,o2,o3⟩:=ew3 (al:=al) (eo9 hl) hc hv hs h0
   refine ⟨aj4 c v s (bE5 (aa2 b at_ 20))::r,by rw [h1]; simp [rt],by simp [h2],fun m hm=>?_,?_⟩
   ·rcases List.mem_cons.1 hm with rfl | hm
    ·exact ⟨o1,rfl,rfl,rfl,o3⟩
    ·exact h3 m hm
   ·rw [List.flatMap_cons,h4]
    unfold av9
    rw [o2,eF0 hl]
    have:aa2 b at_ 20=(b.drop at_).take 20:=by
     unfold aa2
     rw [show ((at_:Int)+20).toNat=at_+20 by omega,Int.toNat_natCast,List.drop_take,show at_+20 - at_=20 by omega]
    rw [this,← List.drop_drop,List.take_append_drop]
  ·rw [if_pos h0] at he; exact absurd he h0
theorem dt3 {f:Msg} {most:Int}:∀ (l:List Msg) (i:Nat) (acc:Bs),(i+l.length:Nat)≤most→(∀ (j:Nat) (h:j < l.length),0 < i+j→bl6 f l[j])→bj7 f most l i acc=(acc++l.flatMap av9,0,0)
 | [],i,acc,_,_=>by simp [bj7]
 | m::r,i,acc,h,ht=>by
  rw [bj7,if_neg (by simp at h; omega),if_neg (fun c=>c.2 (ht 0 (by simp) (by omega))),dt3 r (i+1) _ (by simp at h ⊢; omega) (fun j hj _=>by
   have:=ht (j+1) (by simp; omega) (by omega)
   simpa using this)]
  simp
end Go.VP
namespace Go.VP
open Go Go.VI
theorem eF1 (b:Bs):0≤(av8 b).1∧(av8 b).1≤b.length:=by
 unfold av8
 split
 ·simp
 split
 ·simp
 split
 ·dsimp only; omega
 split
 ·dsimp only; omega
 split
 ·simp
 split
 ·simp
 split
 ·dsimp only; omega
 ·simp
theorem dN4 {f:Ent→Msg × Int} {b:Bs}:∀ (k at_:Nat) (acc:List Msg),at_+20 * k≤b.length→(goR f b k at_ acc).2.2≠0→(goR f b k at_ acc).1=[]∧0≤(goR f b k at_ acc).2.1∧(goR f b k at_ acc).2.1≤b.length
 | 0,at_,acc,h,he=>absurd rfl he
 | k+1,at_,acc,h,he=>by
  rw [goR] at he ⊢
  split
  ·exact ⟨rfl,by dsimp only; omega,by dsimp only; omega⟩
  ·rename_i h0
   rw [if_neg h0] at he
   exact dN4 k (at_+20) _ (by omega) he
theorem ew4 {b:Bs} (h:(ak6 b).2.2≠0):(ak6 b).1=[]∧0≤(ak6 b).2.1∧(ak6 b).2.1≤b.length:=by
 unfold ak6 at h ⊢
 by_cases h0:(av8 b).2=0
 ·have hk:=dt2 h0
  rw [if_neg (fun c=>c h0)] at h ⊢
  by_cases h1:bt b 1=2∧bx2 (aa2 b 4 20)=true
  ·rw [if_pos h1] at h ⊢
   by_cases h2:b.length=24
   ·rw [if_pos h2]; exact ⟨rfl,by dsimp only; omega,by dsimp only; omega⟩
   ·rw [if_neg h2] at h ⊢; exact dN4 _ _ _ (by omega) h
  ·rw [if_neg h1] at h ⊢; exact dN4 _ _ _ (by omega) h
 ·rw [if_pos h0]; exact ⟨rfl,eF1 b⟩
theorem ew5 {b:Bs} (h:(ak6 b).2.2=0):∃ r,ak6 b=(r,0,0)∧1≤r.length∧r.length≤25∧(∀ m∈r,okR m)∧aY8 r=(b,0,0):=by
 unfold ak6 at h ⊢
 by_cases h0:(av8 b).2=0
 rotate_left
 ·rw [if_pos h0] at h; exact absurd h h0
 obtain ⟨k1,k2,k3,k4,k5,k6,k7⟩:=dt2 h0
 rw [if_neg (fun c=>c h0)] at h ⊢
 obtain ⟨w,x,y,z,t,rfl⟩:=df8 (b:=b) (by omega)
 have e0:bt (w::x::y::z::t) 0=(w.toNat:Int):=rfl
 have e1:bt (w::x::y::z::t) 1=(x.toNat:Int):=rfl
 have hy:y=0:=bG7 (show (y.toNat:Int)=((0:UInt8).toNat:Int) from k5)
 have hz:z=0:=bG7 (show (z.toNat:Int)=((0:UInt8).toNat:Int) from k6)
 subst hy; subst hz
 have fin:∀ (r:List Msg) (s:Bs) (al:Bool) (at_:Nat),(s=[]∨(bt (w::x::0::0::t) 1=2∧s.length=18))→(al=true→r.length=1)→1≤r.length→r.length+(if s=[] then 0 else 1)≤25→
   (∀ m∈r,okR m∧m.cmd=bt (w::x::0::0::t) 0∧m.ver=bt (w::x::0::0::t) 1∧m.auth=s∧(m.family=0→al=true))→r.flatMap av9=(w::x::0::0::t).drop at_→[w,x,0,0]++(if s=[] then [] else [255,255]++s)=(w::x::0::0::t).take at_→aY8 r=(w::x::0::0::t,0,0):=by
  intro r s al at_ hs hal hr1 hr2 hm hfl htk
  unfold aY8
  rw [ep1 (fun m h=>(hm m h).1)]
  cases r with
  | nil=>simp at hr1
  | cons f r=>
   obtain ⟨f1,f2,f3,f4,f5⟩:=hm f (by simp)
   dsimp only
   have hmo:(((f::r).length:Nat):Int)≤aO5 f:=by
    unfold aO5
    rw [f4]
    by_cases hs0:s=[]
    ·rw [if_pos hs0] at hr2 ⊢; omega
    ·rw [if_neg hs0] at hr2 ⊢; omega
   rw [dt3 (f::r) 0 _ (by simpa using hmo) (fun j hj h0=>?_)]
   ·have:ay7 f=(w::x::0::0::t).take at_:=by
     rw [← htk]
     unfold ay7
     rw [f2,f3,f4,e0,e1,aE5 (by omega),aE5 (by omega),aO1,aO1]
    rw [this,hfl,List.take_append_drop]
   ·obtain ⟨g1,g2,g3,g4,g5⟩:=hm ((f::r)[j]) (List.getElem_mem hj)
    have nal:¬al=true:=fun c=>by have:=hal c; omega
    exact ⟨by rw [g2,f2],by rw [g3,f3],by rw [g4,f4],fun c=>nal (g5 c),fun c=>nal (f5 c)⟩
 generalize hB:(w::x::0::0::t)=B at *
 have hl:(aa2 B 4 20).length=20:=aA4 (p:=4) (n:=20) (by omega)
 have tk4:B.take 4=[w,x,0,0]:=by rw [← hB]; rfl
 by_cases h1:bt B 1=2∧bx2 (aa2 B 4 20)=true
 ·rw [if_pos h1] at h ⊢
  by_cases h2:B.length=24
  ·rw [if_pos h2] at h; simp at h
  rw [if_neg h2] at h ⊢
  have hs:((aa2 B 4 20).drop 2).length=18:=by simp [hl]
  obtain ⟨r,r1,r2,r3,r4⟩:=dN3 k3 k4 (.inr ⟨h1.1,hs⟩) ((B.length - 24) / 20) 24 [] (by omega) h
  rw [r1]
  refine ⟨r,by simp,by omega,by omega,fun m hm=>(r3 m hm).1,fin r _ _ 24 (.inr ⟨h1.1,hs⟩) (fun c=>by simp at c; omega) (by omega) (by split <;> omega) r3 r4 ?_⟩
  have hne:¬((aa2 B 4 20).drop 2=[]):=fun c=>by rw [c] at hs; simp at hs
  rw [if_neg hne,← tk4]
  have h2:(aa2 B 4 20).take 2=[255,255]:=by have:=h1.2; unfold bx2 at this; simpa using this
  rw [← h2,List.take_append_drop]
  have:aa2 B 4 20=(B.take 24).drop 4:=rfl
  rw [this]
  have:=List.take_append_drop 4 (B.take 24)
  rw [List.take_take,show min 4 24=4 by decide] at this
  exact this
 ·rw [if_neg h1] at h ⊢
  obtain ⟨r,r1,r2,r3,r4⟩:=dN3 k3 k4 (.inl rfl) ((B.length - 4) / 20) 4 [] (by omega) h
  rw [r1]
  exact ⟨r,by simp,by omega,by omega,fun m hm=>(r3 m hm).1,fin r _ _ 4 (.inl rfl) (fun c=>by simp at c; omega) (by omega) (by simp; omega) r3 r4 (by rw [if_pos rfl,tk4]; rfl)⟩
end Go.VP
namespace Go.VP
open Go Go.VI
theorem eh1 {f:Msg} {most:Int}:∀ (l:List Msg) (i:Nat) (acc:Bs),(i:Int)≤most→(bj7 f most l i acc).2.2=0→((i+l.length:Nat):Int)≤most∧(∀ (j:Nat) (h:j < l.length),0 < i+j→bl6 f l[j])
 | [],i,acc,hi,h=>⟨by simpa using hi,fun j hj=>by simp at hj⟩
 | m::r,i,acc,hi,h=>by
  rw [bj7] at h
  by_cases h1:(i:Int)=most
  ·rw [if_pos h1] at h; simp at h
  ·rw [if_neg h1] at h
   by_cases h2:0 < i∧¬bl6 f m
   ·rw [if_pos h2] at h; simp at h
   ·rw [if_neg h2] at h
    obtain ⟨a,b⟩:=eh1 r (i+1) _ (by omega) h
    refine ⟨by simp only [List.length_cons]; omega,fun j hj h0=>?_⟩
    cases j with
    | zero=>
     show bl6 f m
     exact Classical.byContradiction fun c=>h2 ⟨by omega,c⟩
    | succ j=>
     have:=b j (by simpa using hj) (by omega)
     simpa using this
theorem eh2 {n:Int} (h:0≤n∧n≤65535):num (be 2 n)=n:=ci9 2 n h.1 (by omega)
theorem eW8 {n:Int} (h:0≤n∧n≤4294967295):num (be 4 n)=n:=ci9 4 n h.1 (by omega)
theorem cE1 (a m z:Bs) (p n:Int) (hp:p=a.length) (hn:n=m.length):aa2 (a++(m++z)) p n=m:=by
 subst hp; subst hn
 unfold aa2
 rw [show ((a.length:Int)+(m.length:Int)).toNat=a.length+m.length by omega,Int.toNat_natCast,← List.append_assoc,List.take_left' (by simp),List.drop_left' rfl]
theorem eF2 {e:Ent} (h:ax8 e):bE5 (aO4 e)=e:=by
 obtain ⟨a,b,c,d,f,g⟩:=e
 have h1:=h.addr; have h2:=h.mask; have h3:=h.next; have h4:=h.fam; have h5:=h.tag; have h6:=h.metric
 dsimp only at h1 h2 h3 h4 h5 h6
 have l2:=ab6 2
 have l4:=ab6 4
 have c1:aa2 (aO4 ⟨a,b,c,d,f,g⟩) 0 2=be 2 a:=by
  have:=cE1 [] (be 2 a) (be 2 b++(c++(d++(f++be 4 g)))) 0 2 rfl (by rw [l2]; rfl)
  rw [← this]; unfold aO4; simp only [List.append_assoc,List.nil_append]
 have c2:aa2 (aO4 ⟨a,b,c,d,f,g⟩) 2 2=be 2 b:=by
  have:=cE1 (be 2 a) (be 2 b) (c++(d++(f++be 4 g))) 2 2 (by rw [l2]; rfl) (by rw [l2]; rfl)
  unfold aO4; simp only [List.append_assoc] at this ⊢; exact this
 have c3:aa2 (aO4 ⟨a,b,c,d,f,g⟩) 4 4=c:=by
  have:=cE1 (be 2 a++be 2 b) c (d++(f++be 4 g)) 4 4 (by simp [l2]) (by rw [h1]; rfl)
  unfold aO4; simp only [List.append_assoc] at this ⊢; exact this
 have c4:aa2 (aO4 ⟨a,b,c,d,f,g⟩) 8 4=d:=by
  have:=cE1 (be 2 a++be 2 b++c) d (f++be 4 g) 8 4 (by simp [l2,h1]) (by rw [h2]; rfl)
  unfold aO4; simp only [List.append_assoc] at this ⊢; exact this
 have c5:aa2 (aO4 ⟨a,b,c,d,f,g⟩) 12 4=f:=by
  have:=cE1 (be 2 a++be 2 b++c++d) f (be 4 g) 12 4 (by simp [l2,h1,h2]) (by rw [h3]; rfl)
  unfold aO4; simp only [List.append_assoc] at this ⊢; exact this
 have c6:aa2 (aO4 ⟨a,b,c,d,f,g⟩) 16 4=be 4 g:=by
  have:=cE1 (be 2 a++be 2 b++c++d++f) (be 4 g) [] 16 4 (by simp [l2,h1,h2,h3]) (by rw [l4]; rfl)
  rw [← this]; unfold aO4; simp only [List.append_assoc,List.append_nil]
 unfold bE5
 rw [c1,c2,c3,c4,c5,c6,eh2 h4,eh2 h5,eW8 h6]
theorem eF3 {m:Msg} (h1:m.kind=1) (h:ag0 m=true):m=⟨1,m.cmd,m.ver,m.auth,m.family,0,m.prefix_,m.plen,m.tag,m.next,m.metric,[],0,0,0,0,0,0,0,[],[],[],0,[],[]⟩:=by
 have hb:ah2 m=some ⟨m.kind,m.cmd,m.ver,m.auth,m.family,0,m.prefix_,m.plen,m.tag,m.next,m.metric,[],0,0,0,0,0,0,0,[],[],[],0,[],[]⟩:=by unfold ah2; rw [if_pos h1]
 unfold ag0 at h
 rw [hb] at h
 have:=dQ6.1 h
 rw [h1] at this
 exact this
theorem ew6 {m:Msg} {al:Bool} (h:okR m) (ha:m.family=0→al=true):rt m.cmd m.ver m.auth al (aq7 m)=(m,0):=by
 have hb:=eF3 h.1 h.2.1
 have ho:=h
 obtain ⟨_,_,hc,hv,hp,hn,hau,hx⟩:=h
 have hM:aj4 m.cmd m.ver m.auth (aq7 m)=m:=by
  have hpl:(if (aq7 m).family=0 then (0:Int) else if m.ver=1 then 32 else (an8 (aq7 m).mask).1)=m.plen:=by
   show (if m.family=0 then (0:Int) else if m.ver=1 then 32 else (an8 (if m.family=2∧m.ver=2 then ap3 m.plen else z4)).1)=m.plen
   rcases hx with ⟨f0,_,_,p0,_⟩ | ⟨f2,_,_,⟨v1,_,p32,_⟩ | ⟨v2,_,_,p1,p2,_⟩⟩
   ·rw [if_pos f0,p0]
   ·rw [if_neg (by omega),if_pos v1,p32]
   ·rw [if_neg (by omega),if_neg (by omega),if_pos ⟨f2,v2⟩,dn3 p1 p2]
  unfold aj4
  rw [hpl]
  exact hb.symm
 unfold rt
 rw [hM]
 have:aC7 m.cmd m.ver m.auth al (aq7 m)=0:=by
  unfold aC7
  rw [hM]
  rcases hx with ⟨f0,_,_,p0,_⟩ | ⟨f2,m1,m2,⟨v1,t0,p32,nz⟩ | ⟨v2,_,_,p1,p2,hcl⟩⟩
  ·rw [if_pos (show (aq7 m).family=0 from f0),if_pos ⟨ha f0,by show (if m.family=2∧m.ver=2 then ap3 m.plen else z4)=z4; rw [if_neg (by omega)],ho⟩]
  ·have e1:(aq7 m).mask=z4:=by show (if m.family=2∧m.ver=2 then ap3 m.plen else z4)=z4; rw [if_neg (by omega)]
   rw [if_neg (show ¬(aq7 m).family=0 by show ¬m.family=0; omega),if_neg (show ¬(aq7 m).family≠2 by show ¬m.family≠2; omega),if_pos v1,if_neg (by rintro (c | c | c); exact c t0; exact c e1; exact c nz),if_neg (show ¬((aq7 m).metric < 1∨16 < (aq7 m).metric) by show ¬(m.metric < 1∨16 < m.metric); omega)]
  ·have e1:(aq7 m).mask=ap3 m.plen:=by show (if m.family=2∧m.ver=2 then ap3 m.plen else z4)=_; rw [if_pos ⟨f2,v2⟩]
   rw [if_neg (show ¬(aq7 m).family=0 by show ¬m.family=0; omega),if_neg (show ¬(aq7 m).family≠2 by show ¬m.family≠2; omega),if_neg (by omega),e1,dn3 p1 p2,if_neg (fun c=>c ⟨rfl,hcl⟩),if_neg (show ¬((aq7 m).metric < 1∨16 < (aq7 m).metric) by show ¬(m.metric < 1∨16 < m.metric); omega)]
 rw [this]
theorem dN5 {c v:Int} {s:Bs} {al:Bool} {b:Bs}:∀ (l:List Msg) (at_:Nat) (acc:List Msg),(∀ m∈l,okR m∧m.cmd=c∧m.ver=v∧m.auth=s∧(m.family=0→al=true))→b.drop at_=l.flatMap av9→goR (rt c v s al) b l.length at_ acc=(acc++l,0,0)
 | [],at_,acc,_,_=>by simp [goR]
 | m::r,at_,acc,hm,hd=>by
  obtain ⟨h1,h2,h3,h4,h5⟩:=hm m (by simp)
  have hl:=bx3 h1
  rw [List.flatMap_cons] at hd
  have hcut:aa2 b at_ 20=av9 m:=by
   unfold aa2
   rw [show ((at_:Int)+20).toNat=at_+20 by omega,Int.toNat_natCast,List.drop_take,show at_+20 - at_=20 by omega,hd,List.take_left' hl]
  have hn:b.drop (at_+20)=r.flatMap av9:=by rw [← List.drop_drop,hd,List.drop_left' hl]
  have hr:=ew6 (al:=al) h1 h5
  rw [h2,h3,h4] at hr
  rw [List.length_cons,goR,hcut]
  unfold av9
  rw [eF2 (dN1 h1),hr,if_neg (by simp),dN5 r (at_+20) _ (fun x hx=>hm x (by simp [hx])) hn]
  simp
theorem dt4:∀ {l:List Msg},(∀ m∈l,okR m)→(l.flatMap av9).length=20 * l.length
 | [],_=>rfl
 | m::r,h=>by
  rw [List.flatMap_cons,List.length_append,bx3 (h m (by simp)),dt4 (fun x hx=>h x (by simp [hx])),List.length_cons]; omega
theorem eh3 {b:Bs} (k1:24≤b.length) (k2:b.length≤504) (k3:bt b 0=1∨bt b 0=2) (k4:bt b 1=1∨bt b 1=2) (k5:bt b 2=0∧bt b 3=0) (k7:((b.length:Int) - 4) % 20=0):av8 b=(0,0):=by
 unfold av8
 rw [if_neg (by omega),if_neg (fun c=>c k3),if_neg (fun c=>c k4),if_neg (fun c=>c k5),if_neg (by omega),if_neg (by omega),if_neg (by omega)]
theorem ew7 {f:Msg} {r:List Msg} (hok:∀ m∈f::r,okR m) (ht:∀ m∈r,bl6 f m) (hfam:f.family=0→r=[]) (hlen:(((f::r).length:Nat):Int)≤aO5 f):ak6 (ay7 f++(f::r).flatMap av9)=(f::r,0,0):=by
 have hf:=hok f (by simp)
 have hl:=cl2 hf
 have hfl:=dt4 hok
 have hfo:=hf
 obtain ⟨_,_,hc,hv,_,_,hau,hx⟩:=hf
 have hmem:∀ al:Bool,(r=[]→al=true)→∀ m∈f::r,okR m∧m.cmd=f.cmd∧m.ver=f.ver∧m.auth=f.auth∧(m.family=0→al=true):=fun al hal m hm=>by
  refine ⟨hok m hm,?_⟩
  rcases List.mem_cons.1 hm with rfl | hm
  ·exact ⟨rfl,rfl,rfl,fun c=>hal (hfam c)⟩
  ·obtain ⟨t1,t2,t3,t4,_⟩:=ht m hm
   exact ⟨t1,t2,t3,fun c=>absurd c t4⟩
 have ub:∀ x:Int,x=1∨x=2→((aa1 (x % 256)).toNat:Int)=x:=fun x hx=>by rw [ai6]; omega
 have hline:∃ p q t,av9 f=p::q::t∧¬(p=255):=by
  have:be 2 f.family=[0,0]∨be 2 f.family=[0,2]:=by
   rcases hx with ⟨f0,_⟩ | ⟨f2,_⟩
   ·rw [f0]; exact .inl rfl
   ·rw [f2]; exact .inr rfl
  unfold av9 aO4 aq7
  dsimp only
  rcases this with e | e <;> rw [e] <;> exact ⟨_,_,_,rfl,by decide⟩
 by_cases ha:f.auth=[]
 ·have hE:ay7 f=[aa1 (f.cmd % 256),aa1 (f.ver % 256),0,0]:=by unfold ay7; rw [if_pos ha]; rfl
  rw [if_pos ha] at hl
  generalize hX:(f::r).flatMap av9=X at *
  have hb:ay7 f++X=aa1 (f.cmd % 256)::aa1 (f.ver % 256)::0::0::X:=by rw [hE]; rfl
  rw [hb]
  have b0:bt (aa1 (f.cmd % 256)::aa1 (f.ver % 256)::0::0::X) 0=f.cmd:=ub _ hc
  have b1:bt (aa1 (f.cmd % 256)::aa1 (f.ver % 256)::0::0::X) 1=f.ver:=ub _ hv
  have b2:bt (aa1 (f.cmd % 256)::aa1 (f.ver % 256)::0::0::X) 2=0:=rfl
  have b3:bt (aa1 (f.cmd % 256)::aa1 (f.ver % 256)::0::0::X) 3=0:=rfl
  have dr:(aa1 (f.cmd % 256)::aa1 (f.ver % 256)::0::0::X).drop 4=X:=rfl
  have hL:(aa1 (f.cmd % 256)::aa1 (f.ver % 256)::0::0::X).length=4+20 * (f::r).length:=by simp only [List.length_cons] at hfl ⊢; omega
  have hm25:(f::r).length≤25:=by unfold aO5 at hlen; rw [if_pos ha] at hlen; omega
  have h1:1≤(f::r).length:=by simp
  have hna:¬bx2 (aa2 (aa1 (f.cmd % 256)::aa1 (f.ver % 256)::0::0::X) 4 20)=true:=by
   have e:aa2 (aa1 (f.cmd % 256)::aa1 (f.ver % 256)::0::0::X) 4 20=X.take 20:=by
    show ((aa1 (f.cmd % 256)::aa1 (f.ver % 256)::0::0::X).take 24).drop 4=X.take 20
    rfl
   rw [e]
   obtain ⟨p,q,t,e1,e2⟩:=hline
   have:X=p::q::(t++r.flatMap av9):=by rw [← hX,List.flatMap_cons,e1]; rfl
   rw [this]
   simp [bx2,e2]
  generalize hB:aa1 (f.cmd % 256)::aa1 (f.ver % 256)::0::0::X=B at *
  unfold ak6
  rw [eh3 (by omega) (by omega) (by rw [b0]; exact hc) (by rw [b1]; exact hv) ⟨b2,b3⟩ (by omega),if_neg (by simp),if_neg (fun c=>hna c.2),show (B.length - 4) / 20=(f::r).length by omega,b0,b1]
  have:=dN5 (c:=f.cmd) (v:=f.ver) (s:=[]) (al:=decide (B.length=24)) (b:=B) (f::r) 4 [] (by have:=hmem (decide (B.length=24)) (fun c=>by rw [c] at hL; simp at hL; simp; omega); rw [ha] at this; exact this) (by rw [dr,hX])
  rw [this]; rfl
 ·have h18:f.ver=2∧f.auth.length=18:=by rcases hau with h | h; exact absurd h ha; exact h
  have hE:ay7 f=[aa1 (f.cmd % 256),aa1 (f.ver % 256),0,0]++([255,255]++f.auth):=by unfold ay7; rw [if_neg ha]
  rw [if_neg ha] at hl
  generalize hX:(f::r).flatMap av9=X at *
  have hb:ay7 f++X=aa1 (f.cmd % 256)::aa1 (f.ver % 256)::0::0::(([255,255]++f.auth)++X):=by rw [hE]; rfl
  have dr:(ay7 f++X).drop 24=X:=List.drop_left' hl
  have hL:(ay7 f++X).length=24+20 * (f::r).length:=by rw [List.length_append,hl,hfl]
  rw [hb] at dr hL ⊢
  generalize hY:([255,255]++f.auth)++X=Y at *
  have b0:bt (aa1 (f.cmd % 256)::aa1 (f.ver % 256)::0::0::Y) 0=f.cmd:=ub _ hc
  have b1:bt (aa1 (f.cmd % 256)::aa1 (f.ver % 256)::0::0::Y) 1=f.ver:=ub _ hv
  have b2:bt (aa1 (f.cmd % 256)::aa1 (f.ver % 256)::0::0::Y) 2=0:=rfl
  have b3:bt (aa1 (f.cmd % 256)::aa1 (f.ver % 256)::0::0::Y) 3=0:=rfl
  have hm24:(f::r).length≤24:=by unfold aO5 at hlen; rw [if_neg ha] at hlen; omega
  have h1:1≤(f::r).length:=by simp
  have e:aa2 (aa1 (f.cmd % 256)::aa1 (f.ver % 256)::0::0::Y) 4 20=[255,255]++f.auth:=by
   show Y.take 20=_
   rw [← hY,List.take_left' (by simp [h18.2])]
  generalize hB:aa1 (f.cmd % 256)::aa1 (f.ver % 256)::0::0::Y=B at *
  unfold ak6
  rw [eh3 (by omega) (by omega) (by rw [b0]; exact hc) (by rw [b1]; exact hv) ⟨b2,b3⟩ (by omega),if_neg (by simp),e,if_pos ⟨by rw [b1]; exact h18.1,rfl⟩,if_neg (by omega),show (B.length - 24) / 20=(f::r).length by omega,b0,b1,show (([255,255]:Bs)++f.auth).drop 2=f.auth from rfl]
  have:=dN5 (c:=f.cmd) (v:=f.ver) (s:=f.auth) (al:=decide (B.length=44)) (b:=B) (f::r) 24 [] (hmem _ (fun c=>by rw [c] at hL; simp at hL; simp; omega)) (by rw [dr,hX])
  rw [this]; rfl
end Go.VP
namespace Go.VP
open Go Go.VI
def aY9 (l:List Sub):Bool:=l.all (be9 0 255)
def cx3 (l:List Sub):Prop:=∀ y∈l,0≤y.type_∧y.type_≤255∧y.data.length≤255
theorem at5 {l:List Sub}:aY9 l=true↔cx3 l:=by simp [aY9,be9,cx3]
theorem cq7 {l:List Sub} (hl:l.length≤1000000000):aF2 (l,())=some ((aY9 l,()),()):=by
 rw [dI7,en6 hl]; rfl
theorem u8t {y:Sub} (h:0≤y.type_∧y.type_≤255∧y.data.length≤255):aa1 (IntKind.wrap .u8 y.type_)=aa1 y.type_∧aa1 (IntKind.wrap .u8 (y.data.length:Int))=aa1 y.data.length:=by
 rw [wu8,wu8,aE5 h.1,aE5 (by omega)]; exact ⟨rfl,rfl⟩
theorem eF4 {l:List Sub} {n:Nat} (hr:cx3 l) (h1:l.length≤1000000):∀ (d m i:Nat) (acc:Bs),i+d=l.length→d < m→acc.length≤257 * i→
  bF9 n m l acc i=some ((acc++ab5 (l.drop i),true,()),()):=by
 intro d
 induction d with
 | zero=>
  intro m i acc hd hm ha
  obtain ⟨m,rfl⟩:∃ k,m=k+1:=⟨m - 1,by omega⟩
  rw [cB8,ifn (by omega),List.drop_eq_nil_of_le (by omega),ab5,List.append_nil]
 | succ d ih=>
  intro m i acc hd hm ha
  obtain ⟨m,rfl⟩:∃ k,m=k+1:=⟨m - 1,by omega⟩
  have hlt:i < l.length:=by omega
  have hy:=hr l[i] (List.getElem_mem hlt)
  have:=ih m (i+1) (acc++[aa1 l[i].type_,aa1 l[i].data.length]++l[i].data) (by omega) (by omega) (by simp; omega)
  rw [show ((i+1:Nat):Int)=(i:Int)+1 by omega] at this
  rw [cB8,ifd (by omega),if_pos (by omega),Int.toNat_natCast,ag1 hlt,(u8t hy).1,(u8t hy).2,if_pos (ah6 (by simp; omega)),if_pos (ah6 (by simp; omega)),w64 (by omega) (by omega),this,List.drop_eq_getElem_cons hlt,ab5]
  simp
def eh4 (l:List Sub):Bs × Bool:=if aY9 l=true then (ab5 l,true) else ([],false)
theorem dN6 {l:List Sub} (h:aY9 l=true):eh4 l=(ab5 l,true):=by unfold eh4; rw [if_pos h]
theorem dN7 {l:List Sub} (hl:aB5 l) (h1:l.length≤1000000):bI7 (l,())=some (((eh4 l).1,(eh4 l).2,()),()):=by
 show cW1 fuel _=_
 have hs:=dr1 hl
 rw [ed2,cq7 hl.1,Option.bind_some]
 unfold eh4
 dsimp only
 by_cases h:aY9 l=true
 ·have:=eF4 (n:=fuel) (at5.1 h) h1 l.length fuel 0 [] (by omega) (ae2 (by omega)) (by simp)
  rw [show ((0:Nat):Int)=0 from rfl] at this
  rw [h,ah3,dr2 hl,Option.bind_some,if_pos (show 0≤al0 l∧al0 l≤aj9 by unfold aj9; omega),this,ift]
  simp
 ·rw [Bool.not_eq_true] at h
  rw [h,am5,at2]
def goE (s:Bs):Nat→Nat→List Sub→List Sub × Int × Int
 | 0,_,acc=>(acc,0,0)
 | d+1,p,acc=>
  if p < s.length then
   if (s.length:Int) < p+2+bt s (p+1) then ([],p,2)
   else goE s d (p+2+(bt s (p+1)).toNat) (acc++[⟨bt s p,aa2 s (p+2) (bt s (p+1))⟩])
  else (acc,0,0)
def al9 (s:Bs):List Sub × Int × Int:=goE s (s.length+1) 0 []
theorem eF5 {s:Bs} {n:Nat} (hs:s.length≤1000000):∀ (d m p:Nat) (acc:List Sub),s.length < p+d→p≤s.length→d < m→acc.length≤p→
  bG5 n m acc s p s.length false=some (ag4 (goE s d p acc),()):=by
 intro d
 induction d with
 | zero=>intro m p acc h1 h2; omega
 | succ d ih=>
  intro m p acc h1 h2 hm ha
  obtain ⟨m,rfl⟩:∃ k,m=k+1:=⟨m - 1,by omega⟩
  have w:WfC s p s.length:=⟨by omega,by omega,by omega,by omega⟩
  rw [dI1]
  rw [show aw7 (⟨s,(p:Int),(s.length:Int),false⟩,())=_ from df1 w,Option.bind_some]
  dsimp only
  unfold goE
  by_cases hp:p < s.length
  ·rw [ifd (by omega),if_pos hp]
   rw [show ag8 (⟨s,(p:Int),(s.length:Int),false⟩,1,())=_ from as2 w (by omega) (by omega) (by omega),Option.bind_some]
   dsimp only
   have w1:=w.fwd (n:=1) (by omega) (by omega)
   rw [cv9 (by omega)]
   by_cases h2':p+2≤s.length
   ·rw [as2 w1 (by omega) (by omega) (by omega),Option.bind_some]
    dsimp only
    have hb:=ae6 s (p+1)
    have w2:=w1.fwd (n:=1) (by omega) (by omega)
    rw [show (p:Int)+1=((p+1:Nat):Int) by omega,cv9 (s:=s) (p:=p+1) (by omega)]
    by_cases h3:(s.length:Int) < p+2+bt s (p+1)
    ·rw [if_pos h3,bl0 (by rw [show (((p+1:Nat):Int))=(p:Int)+1 by omega]; exact w2) (.inr (.inr (by omega))),Option.bind_some]
     rfl
    ·rw [if_neg h3,av6 (by rw [show (((p+1:Nat):Int))=(p:Int)+1 by omega]; exact w2) (by omega) (by omega),Option.bind_some]
     dsimp only
     rw [at2,if_pos (cj0 (by simp; omega) eR4)]
     have:=ih m (p+2+(bt s (p+1)).toNat) (acc++[⟨bt s p,aa2 s (p+2) (bt s (p+1))⟩]) (by omega) (by omega) (by omega) (by simp; omega)
     rw [← this,show ((p+1:Nat):Int)+1=(p:Int)+2 by omega]
     congr 1
   ·have hb:bt s (p+1)=0:=by unfold bt; rw [List.getElem?_eq_none (by omega)]; rfl
    rw [bZ5 w1 (by omega) (by omega) (.inr (by omega)),Option.bind_some]
    dsimp only
    rw [bl0 w1 (.inl rfl),Option.bind_some,hb,if_pos (show (s.length:Int) < p+2+0 by omega)]
    rfl
  ·rw [ifn (by omega),if_neg hp]
theorem dg0 {s:Bs} (hs:s.length≤1000000):aX2 (s,())=some (ag4 (al9 s),()):=by
 show cY5 fuel _=_
 rw [ed0,bw0,Option.bind_some]
 exact eF5 (n:=fuel) hs (s.length+1) fuel 0 [] (by omega) (by omega) (ae2 (by omega)) (by simp)
end Go.VP
namespace Go.VP
open Go Go.VI
theorem cq8 (b:Bs) (p k:Nat):aa2 b p (k:Int)=(b.drop p).take k:=by
 unfold aa2
 rw [show ((p:Int)+(k:Int)).toNat=p+k by omega,Int.toNat_natCast,List.drop_take]
 congr 1
 omega
theorem dS6 {s:Bs}:∀ (d p:Nat) (acc:List Sub),0≤(goE s d p acc).2.1∧(goE s d p acc).2.1≤s.length∧((goE s d p acc).2.2=0∨(goE s d p acc).2.2=2)
 | 0,p,acc=>by simp [goE]
 | d+1,p,acc=>by
  unfold goE
  split
  ·split
   ·dsimp only; omega
   ·exact dS6 d _ _
  ·simp
theorem bx4 (s:Bs):0≤(al9 s).2.1∧(al9 s).2.1≤s.length∧((al9 s).2.2=0∨(al9 s).2.2=2):=dS6 _ _ _
theorem eF6 {s:Bs}:∀ (d p:Nat) (acc:List Sub),s.length < p+d→(goE s d p acc).2.2=0→(goE s d p acc).2.1=0∧∃ l,(goE s d p acc).1=acc++l∧cx3 l∧ab5 l=s.drop p∧2 * l.length+p≤s.length+p
 | 0,p,acc,hd,h=>⟨rfl,[],by simp [goE],(fun y hy=>by cases hy),by rw [List.drop_eq_nil_of_le (by omega)]; rfl,by simp⟩
 | d+1,p,acc,hd,h=>by
  unfold goE at h ⊢
  by_cases h1:p < s.length
  ·rw [if_pos h1] at h ⊢
   by_cases h2:(s.length:Int) < p+2+bt s (p+1)
   ·rw [if_pos h2] at h; cases h
   ·rw [if_neg h2] at h ⊢
    have hb:=ae6 s (p+1)
    have hb0:=ae6 s p
    obtain ⟨k0,l,k1,k2,k3,k4⟩:=eF6 d _ _ (by omega) h
    have hcl:(aa2 s (p+2) (bt s (p+1))).length=(bt s (p+1)).toNat:=by
     have:=ah7 (s:=s) (p:=(p:Int)+2) (n:=bt s (p+1)) (by omega) (by omega) (by omega)
     omega
    refine ⟨k0,⟨bt s p,aa2 s (p+2) (bt s (p+1))⟩::l,by rw [k1]; simp,fun y hy=>?_,?_,?_⟩
    ·rcases List.mem_cons.1 hy with rfl | hy
     ·exact ⟨hb0.1,by show bt s p≤255; omega,by show (aa2 s (p+2) (bt s (p+1))).length≤255; omega⟩
     ·exact k2 y hy
    ·unfold ab5
     rw [k3]
     dsimp only
     rw [hcl]
     have e1:aa1 (bt s p)=s[p]:=by
      have:bt s p=(s[p].toNat:Int):=by unfold bt; simp [h1]
      rw [this,aO1]
     have hp1:p+1 < s.length:=by omega
     have e2:aa1 (((bt s (p+1)).toNat:Nat):Int)=s[p+1]:=by
      have:bt s (p+1)=(s[p+1].toNat:Int):=by unfold bt; simp [hp1]
      rw [this,Int.toNat_natCast,aO1]
     have e3:aa2 s ((p:Int)+2) (bt s (p+1))=(s.drop (p+2)).take (bt s (p+1)).toNat:=by
      have:=cq8 s (p+2) (bt s (p+1)).toNat
      rw [show ((p+2:Nat):Int)=(p:Int)+2 by omega,show (((bt s (p+1)).toNat:Nat):Int)=bt s (p+1) by omega] at this
      exact this
     rw [e1,e2,e3,List.drop_eq_getElem_cons h1,List.drop_eq_getElem_cons hp1,show p+1+1=p+2 by omega,show s.drop (p+2+(bt s (p+1)).toNat)=(s.drop (p+2)).drop (bt s (p+1)).toNat by rw [List.drop_drop],List.take_append_drop]
    ·have:=congrArg List.length k3
     simp only [List.length_cons]
     have e:=aR5 l
     have hlen:∀ l:List Sub,2 * (l.length:Int)≤al0 l:=fun l=>by
      induction l with
      | nil=>simp [al0]
      | cons y l ih=>simp only [al0,List.length_cons]; omega
     have:=hlen l
     rw [List.length_drop] at *
     omega
  ·rw [if_neg h1] at h ⊢
   exact ⟨rfl,[],by simp,(fun y hy=>by cases hy),by rw [List.drop_eq_nil_of_le (by omega)]; rfl,by simp⟩
theorem eW9 {s:Bs} (h:(al9 s).2.2=0):(al9 s).2.1=0∧cx3 (al9 s).1∧ab5 (al9 s).1=s∧2 * (al9 s).1.length≤s.length:=by
 obtain ⟨k0,l,k1,k2,k3,k4⟩:=eF6 (s:=s) (s.length+1) 0 [] (by omega) h
 rw [List.nil_append] at k1
 unfold al9
 rw [k1]
 exact ⟨k0,k2,by rw [k3]; rfl,by omega⟩
theorem eh5:∀ (l:List Sub) (d p:Nat) (s:Bs) (acc:List Sub),cx3 l→s.drop p=ab5 l→p≤s.length→s.length < p+d→goE s d p acc=(acc++l,0,0)
 | [],d,p,s,acc,hl,hs,hp,hd=>by
  have:=congrArg List.length hs
  rw [List.length_drop] at this
  unfold ab5 at this
  simp at this
  obtain ⟨d,rfl⟩:∃ k,d=k+1:=⟨d - 1,by omega⟩
  unfold goE
  rw [if_neg (by omega),List.append_nil]
 | y::l,d,p,s,acc,hl,hs,hp,hd=>by
  obtain ⟨d,rfl⟩:∃ k,d=k+1:=⟨d - 1,by omega⟩
  have hy:=hl y (List.mem_cons_self ..)
  have hlen:=congrArg List.length hs
  rw [List.length_drop] at hlen
  unfold ab5 at hs hlen
  simp only [List.length_cons,List.length_append] at hlen
  have g0:s[p]?=some (aa1 y.type_):=by
   have:(s.drop p)[0]?=some (aa1 y.type_):=by rw [hs]; rfl
   rwa [List.getElem?_drop] at this
  have g1:s[p+1]?=some (aa1 (y.data.length:Int)):=by
   have:(s.drop p)[1]?=some (aa1 (y.data.length:Int)):=by rw [hs]; rfl
   rwa [List.getElem?_drop] at this
  have b0:bt s p=y.type_:=by
   unfold bt; rw [g0]; show ((aa1 y.type_).toNat:Int)=_; rw [ai6]; omega
  have b1:bt s (p+1)=y.data.length:=by
   unfold bt; rw [g1]; show ((aa1 (y.data.length:Int)).toNat:Int)=_; rw [ai6]; omega
  have hd2:s.drop (p+2)=y.data++ab5 l:=by
   rw [← List.drop_drop,hs]; rfl
  have hc:aa2 s ((p:Int)+2) (y.data.length:Int)=y.data:=by
   have:=cq8 s (p+2) y.data.length
   rw [show ((p+2:Nat):Int)=(p:Int)+2 by omega] at this
   rw [this,hd2,List.take_left]
  unfold goE
  rw [b0,b1,if_pos (by omega),if_neg (by omega),hc,Int.toNat_natCast]
  have:=eh5 l d (p+2+y.data.length) s (acc++[⟨y.type_,y.data⟩]) (fun z hz=>hl z (List.mem_cons_of_mem _ hz)) (by rw [← List.drop_drop,hd2,List.drop_left]) (by omega) (by omega)
  rw [this]
  simp
theorem aM1 {l:List Sub} (h:cx3 l):al9 (ab5 l)=(l,0,0):=by
 have:=eh5 l ((ab5 l).length+1) 0 (ab5 l) [] h rfl (by omega) (by omega)
 rw [List.nil_append] at this
 exact this
end Go.VP
namespace Go.VP
open Go Go.VI
def z16:Bs:=[0,0,0,0,0,0,0,0,0,0,0,0,0,0,0,0]
theorem dg1:ah9 (16,())=some ((z16,()),()):=by
 rw [bk9,if_pos (by unfold aj9; decide)]; rfl
def cK1 (a:Bs) (n:Int):Bool:=decide (0≤n∧n≤128) && bh1 a n
theorem dn5 {a:Bs} {n:Int} (h:a.length=16) (hn:IntKind.has .i64 n):ag3 (a,n,())=some ((cK1 a n,()),()):=by
 have h8:IntKind.wrap .i64 (8 * (a.length:Int))=128:=by rw [h]; rfl
 rw [bV4,h8]
 unfold cK1
 refine aa9 (fun q=>by omega) (fun _=>?_)
 refine aa9 (fun _=>?_) (fun q=>by omega)
 refine at4 (fun h0=>?_) (fun h0=>?_)
 ·refine at4 (fun h1=>?_) (fun h1=>?_)
  ·rw [dr5 (by omega) hn,Option.bind_some,decide_eq_true ⟨h0,h1⟩,Bool.true_and]
  ·rw [decide_eq_false (fun q=>h1 q.2),Bool.false_and]
 ·rw [decide_eq_false (fun q=>h0 q.1),Bool.false_and]
structure NgR (m:Msg):Prop where
 kind:m.kind=2
 bare:ag0 m=true
 cmd:m.cmd=1∨m.cmd=2
 tag:0≤m.tag∧m.tag < 65536
 metric:1≤m.metric∧m.metric≤16
 len:m.prefix_.length=16
 pre:cK1 m.prefix_ m.plen=true
 next:m.next=z16∨aj0 m.next=true
open Classical in
noncomputable def ngB (m:Msg):Bool:=decide (NgR m)
theorem bE6 {m:Msg}:ngB m=true↔NgR m:=by simp [ngB]
theorem eF7 {m:Msg} (h:¬NgR m):ngB m=false:=by simp [ngB,h]
theorem NgR.next16 {m:Msg} (h:NgR m):m.next.length=16:=by
 rcases h.next with e | e
 ·rw [e]; rfl
 ·exact (aA0 e).1
theorem NgR.plen {m:Msg} (h:NgR m):0≤m.plen∧m.plen≤128:=by
 have:=h.pre; unfold cK1 at this; simp at this; exact this.1
structure dF0 (m:Msg):Prop where
 tag:IntKind.has .i64 m.tag
 plen:IntKind.has .i64 m.plen
 cmd:IntKind.has .i64 m.cmd
 list:m.list.length≤1000000000
 subs:m.subs.length≤1000000000
theorem eX0 {m:Msg} {r:Option ((Bool × Unit) × Unit)} (h:r=some ((aj0 m.next,()),())) (hk:NgR m↔(m.next=z16∨aj0 m.next=true)):(if (m.next==z16)=true then (some ((true,()),()):Option ((Bool × Unit) × Unit)) else r.bind fun r5=>some ((r5.1.1,()),()))=some ((ngB m,()),()):=by
 refine cD4 (fun q=>by rw [bE6.2 (hk.2 (.inl q))]) (fun q=>?_)
 rw [h,Option.bind_some]
 cases hl:aj0 m.next with
 | true=>rw [bE6.2 (hk.2 (.inr hl))]
 | false=>rw [eF7 (fun x=>by rcases hk.1 x with e | e; exact q e; rw [hl] at e; cases e)]
theorem dF1 {m:Msg} (g:dF0 m):aP7 (m,())=some ((ngB m,()),()):=by
 rw [dp6]
 have no:¬NgR m→(some ((false,()),()):Option ((Bool × Unit) × Unit))=some ((ngB m,()),()):=fun h=>by rw [eF7 h]
 have tail:(m.kind=2)→ag0 m=true→(m.cmd=1∨m.cmd=2)→((ab1 (m.tag,2,())).bind fun r6=>(if (!r6.1.1)=true then some ((false,()),()) else (if (decide (m.metric < 1))=true then some ((false,()),()) else (if (decide (16 < m.metric))=true then some ((false,()),()) else (if ((m.prefix_.length:Int) != 16)=true then some ((false,()),()) else ((ag3 (m.prefix_,m.plen,())).bind fun r7=>(if (!r7.1.1)=true then some ((false,()),()) else ((ah9 (16,())).bind fun r8=>(if (m.next==r8.1.1)=true then some ((true,()),()) else ((aq8 (m.next,())).bind fun r9=>some ((r9.1.1,()),())))))))))))= (some ((ngB m,()),()):Option ((Bool × Unit) × Unit)):=by
  intro hk hb hc
  rw [show ab1 (m.tag,2,())=some ((ac7 m.tag 2,()),()) from ar3 (k:=2) g.tag (by omega) (by omega),Option.bind_some]
  dsimp only
  cases hf:ac7 m.tag 2 with
  | false=>rw [am5]; exact no (fun h=>by rw [cj2.2 h.tag] at hf; cases hf)
  | true=>
   rw [ah3]
   refine at4 (fun q=>no (fun h=>by have:=h.metric; omega)) (fun h1=>?_)
   refine at4 (fun q=>no (fun h=>by have:=h.metric; omega)) (fun h2=>?_)
   refine ab9 (fun q=>no (fun h=>by have:=h.len; omega)) (fun h3=>?_)
   rw [dn5 (by omega) g.plen,Option.bind_some]
   dsimp only
   cases hp:cK1 m.prefix_ m.plen with
   | false=>rw [am5]; exact no (fun h=>by rw [h.pre] at hp; cases hp)
   | true=>
    rw [ah3,dg1,Option.bind_some]
    exact eX0 (cC3 _) ⟨fun h=>h.next,fun h=>⟨hk,hb,hc,cj2.1 hf,by omega,by omega,hp,h⟩⟩
 refine ab9 (fun q=>no (fun h=>q h.kind)) (fun hk=>?_)
 rw [bc6,Option.bind_some]
 dsimp only
 cases hb:ag0 m with
 | false=>rw [am5]; exact no (fun h=>by rw [h.bare] at hb; cases hb)
 | true=>
  rw [ah3]
  refine ab9 (fun q1=>?_) (fun q1=>tail hk hb (.inl q1))
  exact ab9 (fun q2=>no (fun h=>by have:=h.cmd; omega)) (fun q2=>tail hk hb (.inr q2))
abbrev cl3:=ad7
def aO6 (s:Bs):cl3:=⟨bt s 18,num (aa2 s 16 2),s.take 16,[],[],bt s 19⟩
theorem dg2 (s:Bs) (k i:Nat):bt (s.drop k) i=bt s (k+i):=by unfold bt; rw [List.getElem?_drop]
theorem eF8 {s:Bs} (h:s.length=20):co4 (s,())=some ((aO6 s,true,()),()):=by
 have hl:(s.drop 16).length=4:=by rw [List.length_drop]; omega
 have b0:=ae6 (s.drop 16) 0
 have b1:=ae6 (s.drop 16) 1
 rw [ec9]
 refine ab9 (fun q=>by omega) (fun _=>?_)
 rw [if_pos (by omega),if_pos (by omega),ai5 (i:=0) (by omega),Option.bind_some,ai5 (i:=1) (by omega),Option.bind_some,ai5 (i:=2) (by omega),Option.bind_some,ai5 (i:=3) (by omega),Option.bind_some,bT0,bT0,bT0,bT0]
 show some ((ad7.mk (bt (s.drop 16) 2) (ad2 .or .i64 (ai0 .i64 (bt (s.drop 16) 0) 8) (bt (s.drop 16) 1)) (s.take 16) [] [] (bt (s.drop 16) 3),true,()),())=_
 rw [es5 (by omega) (by omega),dg2,dg2,dg2,dg2]
 unfold aO6
 rw [show ((16:Int))=((16:Nat):Int) from rfl,eK0 (by omega)]
def aG4 (a:Bs) (t f m:Int):Bs:=a++(be 2 t++[aa1 f,aa1 m])
theorem bE7 {a:Bs} (h:a.length=16) (t f m:Int):(aG4 a t f m).length=20:=by unfold aG4; simp [ab6]; omega
theorem eF9 {a:Bs} {t f m:Int} (ha:a.length=16) (ht:0≤t∧t < 65536) (hf:0≤f∧f < 256) (hm:0≤m∧m < 256):cn7 (⟨f,t,a,[],[],m⟩,())=some ((aG4 a t f m,true,()),()):=by
 have f1:∀ {n:Int},0≤n∧n < 256→ac7 n 1=true:=fun h=>by unfold ac7; rw [decide_eq_true_eq]; omega
 rw [ed1]
 dsimp only
 refine ab9 (fun q=>by omega) (fun _=>?_)
 rw [if_pos (af7 (by simp)),if_neg (by simp),show ab1 (t,2,())=some ((ac7 t 2,()),()) from ar3 (k:=2) (af2.2 (by omega)) (by omega) (by omega),Option.bind_some,cj2.2 ht]
 dsimp only
 rw [ah3,show ab1 (f,1,())=some ((ac7 f 1,()),()) from ar3 (k:=1) (af2.2 (by omega)) (by omega) (by omega),Option.bind_some,f1 hf]
 dsimp only
 rw [ah3,show ab1 (m,1,())=some ((ac7 m 1,()),()) from ar3 (k:=1) (af2.2 (by omega)) (by omega) (by omega),Option.bind_some,f1 hm]
 dsimp only
 rw [ah3,if_pos (af7 (by simp; omega)),u8w hf.1,u8w hm.1]
 unfold aG4
 rw [← be2 ht]; rfl
end Go.VP
namespace Go.VP
open Go Go.VI
def aw0 (b:Bs):Int × Int:=
 if 65535 < b.length then (65535,10) else if b.length < 4 then (b.length,2) else if ¬(bt b 0=1∨bt b 0=2) then (0,4) else if ¬bt b 1=1 then (1,4)
 else if ¬(bt b 2=0∧bt b 3=0) then (2,5) else if ((b.length:Int) - 4) % 20≠0 then (b.length,2) else (0,0)
theorem dt5 {b:Bs} (h:(aw0 b).2=0):4≤b.length∧b.length≤65535∧(bt b 0=1∨bt b 0=2)∧bt b 1=1∧bt b 2=0∧bt b 3=0∧((b.length:Int) - 4) % 20=0:=by
 unfold aw0 at h
 repeat (split at h; · simp at h)
 rename_i h1 h2 h3 h4 h5 h6
 exact ⟨by omega,by omega,by omega,by omega,by omega,by omega,by omega⟩
theorem el9 {b:Bs}:0≤(aw0 b).1∧(aw0 b).1≤b.length:=by
 unfold aw0
 repeat (split; · dsimp only; omega)
 dsimp only; omega
theorem eG0 {b:Bs} (hb:b.length≤1000000000):bt7 (b,())=some (((aw0 b).1,(aw0 b).2,()),()):=by
 rw [dz0]
 refine ai9 (fun h=>by unfold aw0; rw [if_pos (by omega)]) (fun hl=>?_)
 refine ai9 (fun h=>by unfold aw0; rw [if_neg (by omega),if_pos (by omega)]) (fun h4=>?_)
 have h4':¬b.length < 4:=by omega
 obtain ⟨w,x,y,z,r,rfl⟩:=df8 h4'
 have e0:bt (w::x::y::z::r) 0=(w.toNat:Int):=rfl
 have e1:bt (w::x::y::z::r) 1=(x.toNat:Int):=rfl
 have e2:bt (w::x::y::z::r) 2=(y.toNat:Int):=rfl
 have e3:bt (w::x::y::z::r) 3=(z.toNat:Int):=rfl
 rw [show (w::x::y::z::r)[0]?=some w from rfl,show (w::x::y::z::r)[1]?=some x from rfl,show (List.take 4 (w::x::y::z::r)).drop 2=[y,z] from rfl]
 simp only [Option.bind_some]
 have hL:(4:Int)≤((w::x::y::z::r).length:Int):=by omega
 have hz:bx1 [y,z]=true↔((y.toNat:Int)=0∧(z.toNat:Int)=0):=by
  simp only [bx1,List.all_cons,List.all_nil,Bool.and_true,Bool.and_eq_true,beq_iff_eq]
  constructor
  ·rintro ⟨rfl,rfl⟩; exact ⟨rfl,rfl⟩
  ·rintro ⟨h1,h2⟩; exact ⟨bG7 h1,bG7 h2⟩
 generalize hLL:(w::x::y::z::r).length=L at *
 have tail:((w.toNat:Int)=1∨(w.toNat:Int)=2)→(if ((x.toNat:Int) != 1)=true then some ((1,4,()),()) else (if 0≤(2:Int)∧(2:Int)≤(4:Int)∧(4:Int)≤(L:Int) then ((ad4 ([y,z],())).bind fun r4=>(if (!r4.1.1)=true then some ((2,5,()),()) else (if ((L:Int).tmod 20 != 4)=true then some (((L:Int),2,()),()) else some ((0,0,()),())))) else none))=some (((aw0 (w::x::y::z::r)).1,(aw0 (w::x::y::z::r)).2,()),()):=by
  intro ha
  unfold aw0
  rw [hLL,if_neg (show ¬65535 < L by omega),if_neg (show ¬L < 4 by omega),if_neg (show ¬¬(bt (w::x::y::z::r) 0=1∨bt (w::x::y::z::r) 0=2) by rw [e0]; exact fun c=>c ha)]
  refine ab9 (fun h=>?_) (fun h1=>?_)
  ·rw [if_pos (show ¬bt (w::x::y::z::r) 1=1 by rw [e1]; exact h)]
  rw [if_neg (show ¬¬bt (w::x::y::z::r) 1=1 by rw [e1]; exact fun c=>c h1),if_pos ⟨by omega,by omega,hL⟩,ca0 (by simp),Option.bind_some]
  refine bd4 (fun h=>?_) (fun hzz=>?_)
  ·rw [if_pos (show ¬(bt (w::x::y::z::r) 2=0∧bt (w::x::y::z::r) 3=0) by rw [e2,e3,← hz]; dsimp only at h; rw [h]; simp)]
  rw [if_neg (show ¬¬(bt (w::x::y::z::r) 2=0∧bt (w::x::y::z::r) 3=0) by rw [e2,e3]; exact fun c=>c (hz.1 hzz)),Int.tmod_eq_emod_of_nonneg (by omega)]
  refine ab9 (fun h=>?_) (fun h5=>?_)
  ·rw [if_pos (show ((L:Int) - 4) % 20≠0 by omega)]
  ·rw [if_neg (show ¬((L:Int) - 4) % 20≠0 by omega)]
 refine ab9 (fun ha=>?_) (fun ha=>tail (.inl ha))
 refine ab9 (fun hb=>?_) (fun ha2=>tail (.inr ha2))
 unfold aw0
 rw [hLL,if_neg (show ¬65535 < L by omega),if_neg (show ¬L < 4 by omega),if_pos (show ¬(bt (w::x::y::z::r) 0=1∨bt (w::x::y::z::r) 0=2) by rw [e0]; omega)]
def aO7 (e:cl3):Int:=if e.metric=255 then (if e.tag=0∧e.family=0 then 0 else 5) else if ¬cK1 e.addr e.family=true then 7 else if e.metric < 1∨16 < e.metric then 6 else 0
def aI1 (nx:Bs) (e:cl3):Bs:=if e.metric=255 then (if aj0 e.addr=true then e.addr else z16) else nx
def bT6 (c:Int) (nx:Bs) (e:cl3):Msg:=aa0.mk 2 c 0 [] 0 0 e.addr e.family e.tag nx e.metric [] 0 0 0 0 0 0 0 [] [] [] 0 [] []
def aZ0 (c:Int) (nx:Bs) (e:cl3):List Msg:=if e.metric=255 then [] else [bT6 c nx e]
structure dZ5 (e:cl3):Prop where
 addr:e.addr.length=16
 tag:0≤e.tag∧e.tag < 65536
 fam:0≤e.family∧e.family < 256
 met:0≤e.metric∧e.metric < 256
theorem ep3 {s:Bs} (h:s.length=20):dZ5 (aO6 s):=by
 have h1:=ae6 s 18
 have h2:=ae6 s 19
 have h3:=aR4 (aa2 s 16 2)
 have hl:(aa2 s 16 2).length=2:=by have:=ah7 (s:=s) (p:=16) (n:=2) (by omega) (by omega) (by omega); omega
 rw [hl] at h3
 exact ⟨by show (s.take 16).length=16; rw [List.length_take]; omega,by show 0≤num (aa2 s 16 2)∧num (aa2 s 16 2) < 65536; exact ⟨h3.1,by have:=h3.2; omega⟩,h1,h2⟩
theorem eX1 {x y:Int} (hx:0≤x∧x < 65536) (hy:0≤y∧y < 256):ad2 .or .i64 x y=0↔(x=0∧y=0):=by
 obtain ⟨a,rfl⟩:∃ a:Nat,x=a:=⟨x.toNat,by omega⟩
 obtain ⟨b,rfl⟩:∃ b:Nat,y=b:=⟨y.toNat,by omega⟩
 unfold ad2
 show IntKind.wrap .i64 (((BitVec.ofInt 64 (a:Int) ||| BitVec.ofInt 64 (b:Int)).toNat:Nat):Int)=0↔_
 have h1:a ||| b < 2 ^ 16:=Nat.or_lt_two_pow (by omega) (by omega)
 rw [BitVec.toNat_or,BitVec.ofInt_natCast,BitVec.ofInt_natCast,BitVec.toNat_ofNat,BitVec.toNat_ofNat,Nat.mod_eq_of_lt (by omega),Nat.mod_eq_of_lt (by omega),w64 (by omega) (by omega)]
 constructor
 ·intro h
  have h0:a ||| b=0:=by omega
  rw [Nat.or_eq_zero_iff] at h0
  omega
 ·intro h
  have e1:a=0:=by omega
  have e2:b=0:=by omega
  subst e1; subst e2; rfl
theorem eN5 {c:Int} {nx:Bs} {out:List Msg} {e:cl3} (h:dZ5 e) (hm:e.metric=255):aE3 (⟨c,nx,out⟩,e,())=some ((aO7 e,()),(⟨c,if aO7 e=0 then aI1 nx e else nx,out⟩,())):=by
 rw [cB5]
 have hz:=eX1 h.tag h.fam
 unfold aO7 aI1
 rw [if_pos hm,if_pos hm]
 refine ab9 (fun q=>?_) (fun q=>?_)
 ·rw [if_neg (fun c=>q (hz.2 c))]; try rfl
 ·rw [hz] at q
  rw [if_pos q,dg1,Option.bind_some,cC3,Option.bind_some]
  dsimp only
  cases aj0 e.addr <;> rfl
theorem ew8 {c:Int} {nx:Bs} {out:List Msg} {e:cl3} (h:dZ5 e) (hr:out.length≤10000):ay1 (⟨c,nx,out⟩,e,())=some ((aO7 e,()),(⟨c,if aO7 e=0 then aI1 nx e else nx,if aO7 e=0 then out++aZ0 c nx e else out⟩,())):=by
 rw [cl5]
 refine aa9 (fun hm=>?_) (fun hm=>?_)
 ·rw [eN5 h hm,Option.bind_some]
  have:aZ0 c nx e=[]:=by unfold aZ0; rw [if_pos hm]
  rw [this,List.append_nil,ite_self]
 ·have hn:aI1 nx e=nx:=by unfold aI1; rw [if_neg hm]
  have ho:aZ0 c nx e=[bT6 c nx e]:=by unfold aZ0; rw [if_neg hm]
  rw [hn,ho,ite_self]
  have hf:IntKind.has .i64 e.family:=af2.2 (by have:=h.fam; omega)
  rw [dn5 h.addr hf,Option.bind_some]
  unfold aO7
  rw [if_neg hm]
  refine bd4 (fun q=>?_) (fun q=>?_)
  ·dsimp only at q
   rw [if_pos (show ¬cK1 e.addr e.family=true by rw [q]; simp)]; try rfl
  ·dsimp only at q
   rw [if_neg (show ¬¬cK1 e.addr e.family=true by rw [q]; simp)]
   refine ai9 (fun q1=>?_) (fun q1=>?_)
   ·rw [if_pos (show e.metric < 1∨16 < e.metric from .inl q1)]; try rfl
   refine ai9 (fun q2=>?_) (fun q2=>?_)
   ·rw [if_pos (show e.metric < 1∨16 < e.metric from .inr q2)]; try rfl
   rw [if_neg (show ¬(e.metric < 1∨16 < e.metric) by omega)]
   show (if ag7 ((out.length + [bT6 c nx e].length) * ba3)=true then some ((0,()),((ai7.mk c nx (out++[bT6 c nx e])),())) else none)=_
   rw [if_pos (ah6 (Nat.le_trans (Nat.mul_le_mul (show out.length + [bT6 c nx e].length≤10001 by simp; omega) eS1) (by decide)))]
   rfl
def goN (c:Int) (b:Bs):Nat→Nat→Bs→List Msg→List Msg × Int × Int
 | 0,_,_,acc=>if acc=[] then ([],b.length,8) else (acc,0,0)
 | k+1,p,nx,acc=>if aO7 (aO6 (aa2 b p 20))≠0 then ([],(p:Int),aO7 (aO6 (aa2 b p 20))) else goN c b k (p+20) (aI1 nx (aO6 (aa2 b p 20))) (acc++aZ0 c nx (aO6 (aa2 b p 20)))
theorem eN6 (c:Int) (nx:Bs) (e:cl3):(aZ0 c nx e).length≤1:=by unfold aZ0; split <;> simp
theorem eh6 {n:Nat} {b:Bs} {c:Int} (hb:b.length≤65535):∀ (k m p:Nat) (nx:Bs) (acc:List Msg),p+20 * k=b.length→k < m→acc.length+k≤10000→
  aT8 n m b p c nx acc=some (ag4 (goN c b k p nx acc),()):=by
 intro k
 induction k with
 | zero=>
  intro m p nx acc h hm ha
  obtain ⟨m,rfl⟩:∃ k,m=k+1:=⟨m - 1,by omega⟩
  rw [bK9,ifn (by omega),goN]
  refine aa9 (fun q=>?_) (fun q=>?_)
  ·rw [if_pos ((dK7 acc).1 q)]; try rfl
  ·rw [if_neg (fun q'=>q ((dK7 acc).2 q'))]; try rfl
 | succ k ih=>
  intro m p nx acc h hm ha
  obtain ⟨m,rfl⟩:∃ k,m=k+1:=⟨m - 1,by omega⟩
  have hl:(aa2 b p 20).length=20:=aA4 (n:=20) (by omega)
  have hol:=eN6 c nx (aO6 (aa2 b p 20))
  rw [bK9,ifd (by omega),w64 (by omega) (by omega),if_pos (by omega),show (List.take ((p:Int)+20).toNat b).drop ((p:Int)).toNat=aa2 b p 20 from rfl,eF8 hl,Option.bind_some]
  dsimp only
  rw [ew8 (ep3 hl) (by omega),Option.bind_some,goN]
  refine ab9 (fun he=>?_) (fun he=>?_)
  ·rw [if_pos he]; try rfl
  ·dsimp only at he
   have:=ih m (p+20) (aI1 nx (aO6 (aa2 b p 20))) (acc++aZ0 c nx (aO6 (aa2 b p 20))) (by omega) (by omega) (by rw [List.length_append]; omega)
   rw [show ((p+20:Nat):Int)=(p:Int)+20 by omega] at this
   rw [if_neg (show ¬aO7 (aO6 (aa2 b p 20))≠0 by omega),← this]
   dsimp only
   rw [if_pos he,if_pos he]
noncomputable def as4 (b:Bs):List Msg × Int × Int:=if (aw0 b).2≠0 then ([],aw0 b) else goN (bt b 0) b ((b.length - 4) / 20) 4 z16 []
theorem ew9 {b:Bs} (hb:b.length≤1000000000):bR2 (b,())=some (ag4 (as4 b),()):=by
 show bR1 fuel _=_
 rw [dp3,eG0 hb,Option.bind_some]
 unfold as4
 refine ab9 (fun h=>?_) (fun h=>?_)
 ·rw [if_pos h]; try rfl
 ·dsimp only at h
  obtain ⟨h1,h2,h3,h4,h5,h6,h7⟩:=dt5 h
  rw [if_neg (show ¬(aw0 b).2≠0 by omega),ai5 (i:=0) (by omega),Option.bind_some,dg1,Option.bind_some,bT0]
  exact eh6 (n:=fuel) h2 ((b.length - 4) / 20) fuel 4 z16 [] (by omega) (ae2 (by omega)) (by simp; omega)
end Go.VP
namespace Go.VP
open Go Go.VI
def ex0 (nx:Bs) (m:Msg):Bs:=if m.next=nx then [] else aG4 m.next 0 0 255
def bj8 (nx:Bs) (m:Msg):Bs:=ex0 nx m++aG4 m.prefix_ m.tag m.plen m.metric
theorem dd6 {nx:Bs} {m:Msg} (h:NgR m):(bj8 nx m).length=if m.next=nx then 20 else 40:=by
 unfold bj8 ex0
 split <;> simp [bE7 h.len,bE7 h.next16]
def bE8 (c:Int):List Msg→Nat→Bs→Bs→Bs × Int × Int
 | [],_,acc,_=>(acc,0,0)
 | m::r,i,acc,nx=>if m.cmd≠c then ([],(i:Int),7) else if 65535 < (acc++bj8 nx m).length then ([],(i:Int),10) else bE8 c r (i+1) (acc++bj8 nx m) m.next
theorem dt6 {acc nx a:Bs} {t f m:Int} (ha:a.length=16) (ht:0≤t∧t < 65536) (hf:0≤f∧f < 256) (hm:0≤m∧m < 256) (hl:acc.length≤1000000) :
  ap7 (⟨acc,nx⟩,⟨f,t,a,[],[],m⟩,())=some ((),(⟨acc++aG4 a t f m,nx⟩,())):=by
 rw [cB7,eF9 ha ht hf hm,Option.bind_some]
 dsimp only
 rw [if_pos (ah6 (by rw [bE7 ha]; omega))]
theorem ex1 {acc nx:Bs} {m:Msg} (h:NgR m) (hl:acc.length≤100000):ax9 (⟨acc,nx⟩,m,())=some ((),(⟨acc++bj8 nx m,m.next⟩,())):=by
 have hp:=h.plen
 have hm:=h.metric
 rw [cl6]
 unfold bj8 ex0
 refine dK5 (fun q=>?_) (fun q=>?_)
 ·rw [if_neg q,dt6 h.next16 (by omega) (by omega) (by omega) (by show acc.length≤_; omega),Option.bind_some]
  dsimp only
  rw [dt6 h.len h.tag (by omega) (by omega) (by rw [List.length_append,bE7 h.next16]; omega),Option.bind_some,List.append_assoc]
 ·dsimp only at q
  rw [if_pos q,dt6 h.len h.tag (by omega) (by omega) (by omega),Option.bind_some,q]
  rfl
theorem ex2 {n:Nat} {l:List Msg} {f:Msg} (hf:l[0]?=some f) (hok:∀ m∈l,NgR m) (hl:l.length≤1000000):∀ (d m i:Nat) (acc nx:Bs),i+d=l.length→d < m→acc.length≤65535→
  aM7 n m l acc nx i=some (ag4 (bE8 f.cmd (l.drop i) i acc nx),()):=by
 intro d
 induction d with
 | zero=>
  intro m i acc nx hd hm ha
  obtain ⟨m,rfl⟩:∃ k,m=k+1:=⟨m - 1,by omega⟩
  rw [bA1,ifn (by omega),List.drop_eq_nil_of_le (by omega)]; try rfl
 | succ d ih=>
  intro m i acc nx hd hm ha
  obtain ⟨m,rfl⟩:∃ k,m=k+1:=⟨m - 1,by omega⟩
  have hi:i < l.length:=by omega
  have ho:=hok _ (List.getElem_mem hi)
  rw [bA1,ifd (by omega),if_pos (by omega),Int.toNat_natCast,ag1 hi,hf,Option.bind_some,List.drop_eq_getElem_cons hi,bE8,ex1 ho (by omega),Option.bind_some]
  refine ab9 (fun h=>?_) (fun h=>?_)
  ·rw [if_pos h]; try rfl
  rw [if_neg (show ¬l[i].cmd≠f.cmd from fun c=>c h)]
  refine ai9 (fun h=>?_) (fun h=>?_)
  ·rw [if_pos (show 65535 < (acc++bj8 nx l[i]).length by dsimp only at h; omega)]; try rfl
  ·dsimp only at h
   have:=ih m (i+1) (acc++bj8 nx l[i]) l[i].next (by omega) (by omega) (by omega)
   rw [show ((i+1:Nat):Int)=(i:Int)+1 by omega] at this
   rw [if_neg (show ¬65535 < (acc++bj8 nx l[i]).length by omega),w64 (by omega) (by omega)]
   exact this
def ay8 (f:Msg→Bool):List Msg→Nat→Option Nat
 | [],_=>none
 | m::r,i=>if f m=true then ay8 f r (i+1) else some i
theorem aZ1 {f:Msg→Bool}:∀ {l:List Msg} {i:Nat},ay8 f l i=none→∀ m∈l,f m=true
 | [],_,_,m,hm=>by cases hm
 | x::r,i,h,m,hm=>by
  unfold ay8 at h
  split at h
  ·rename_i hx
   rcases List.mem_cons.1 hm with rfl | hm
   ·exact hx
   ·exact aZ1 h m hm
  ·cases h
theorem dN8 {f:Msg→Bool}:∀ {l:List Msg} {i:Nat},(∀ m∈l,f m=true)→ay8 f l i=none
 | [],_,_=>rfl
 | x::r,i,h=>by
  unfold ay8; rw [if_pos (h x (by simp))]; exact dN8 (fun m hm=>h m (by simp [hm]))
noncomputable def aO8 (l:List Msg):Bs × Int × Int:=match ay8 ngB l 0 with
 | some i=>([],(i:Int),1)
 | none=>match l with
  | []=>([],0,8)
  | f::_=>bE8 f.cmd l 0 [aa1 f.cmd,1,0,0] z16
theorem eN7 {l:List Msg} (g:∀ m∈l,dF0 m) (hl:l.length≤1000000):bB9 (l,())=some (ag4 (aO8 l),()):=by
 show bB8 fuel (l,())=_
 rw [dh4]
 have main:∀ (d m i:Nat),i+d=l.length→d < m→ay8 ngB l 0=ay8 ngB (l.drop i) i→aM6 fuel m l i=some (ag4 (aO8 l),()):=by
  intro d
  induction d with
  | zero=>
   intro m i hd hm hb
   obtain ⟨m,rfl⟩:∃ k,m=k+1:=⟨m - 1,by omega⟩
   rw [List.drop_eq_nil_of_le (by omega)] at hb
   have hn:ay8 ngB l 0=none:=hb
   have hok:=aZ1 hn
   rw [bA0,ifn (by omega)]
   cases l with
   | nil=>rfl
   | cons f r=>
    have hf:=bE6.1 (hok f (by simp))
    have he:aO8 (f::r)=bE8 f.cmd (f::r) 0 [aa1 f.cmd,1,0,0] z16:=by unfold aO8; rw [hn]
    have L:=ex2 (n:=fuel) (f:=f) (l:=f::r) rfl (fun m hm=>bE6.1 (hok m hm)) hl (f::r).length fuel 0 [aa1 f.cmd,1,0,0] z16 (by omega) (ae2 (by omega)) (by simp)
    have hc:=hf.cmd
    rw [he,if_neg (by simp; omega),show (f::r)[0]?=some f from rfl,Option.bind_some,dg1,Option.bind_some,wu8,aE5 (by omega)]
    exact L
  | succ d ih=>
   intro m i hd hm hb
   obtain ⟨m,rfl⟩:∃ k,m=k+1:=⟨m - 1,by omega⟩
   have hi:i < l.length:=by omega
   rw [List.drop_eq_getElem_cons hi,ay8] at hb
   rw [bA0,ifd (by omega),if_pos (by omega),Int.toNat_natCast,ag1 hi,dF1 (g _ (List.getElem_mem hi)),Option.bind_some]
   dsimp only
   cases ho:ngB l[i] with
   | true=>
    rw [if_pos ho] at hb
    have:=ih m (i+1) (by omega) (by omega) hb
    rw [ah3,w64 (by omega) (by omega)]
    exact this
   | false=>
    rw [if_neg (by rw [ho]; simp)] at hb
    rw [am5]
    unfold aO8; rw [hb]; try rfl
 exact main l.length fuel 0 (by omega) (ae2 (by omega)) rfl
end Go.VP
namespace Go.VP
open Go Go.VI
def cq9 (m:Msg):cl3:=⟨m.plen,m.tag,m.prefix_,[],[],m.metric⟩
theorem NgR.is {m:Msg} (h:NgR m):m=bT6 m.cmd m.next (cq9 m):=by
 have hb:=h.bare
 unfold ag0 ah2 at hb
 rw [if_neg (by have:=h.kind; omega),if_pos h.kind] at hb
 have:=(aO2.1 hb).symm
 rw [h.kind] at this
 exact this
theorem eX2 {c:Int} {nx:Bs} {e:cl3} (hc:c=1∨c=2) (hn:nx=z16∨aj0 nx=true) (he:dZ5 e) (h0:aO7 e=0) (hm:e.metric≠255):NgR (bT6 c nx e):=by
 unfold aO7 at h0
 rw [if_neg hm] at h0
 by_cases hp:cK1 e.addr e.family=true
 ·rw [if_neg (fun c=>c hp)] at h0
  by_cases hq:e.metric < 1∨16 < e.metric
  ·rw [if_pos hq] at h0; omega
  ·refine ⟨rfl,?_,hc,he.tag,?_,he.addr,hp,hn⟩
   ·unfold ag0 ah2
    rw [if_neg (show ¬((bT6 c nx e).kind=1) from fun q=>absurd (show (2:Int)=1 from q) (by decide)),if_pos (show (bT6 c nx e).kind=2 from rfl)]
    exact an3 _
   ·show 1≤e.metric∧e.metric≤16
    omega
 ·rw [if_pos hp] at h0; omega
theorem dt7 (b:Bs) (p k:Nat):aa2 b p (k:Int)=(b.drop p).take k:=by
 unfold aa2
 rw [show ((p:Int)+(k:Int)).toNat=p+k by omega,Int.toNat_natCast,List.drop_take]
 congr 1
 omega
theorem eG1 {a:Bs} {t f m:Int} (ha:a.length=16) (ht:0≤t∧t < 65536) (hf:0≤f∧f < 256) (hm:0≤m∧m < 256):aO6 (aG4 a t f m)=⟨f,t,a,[],[],m⟩:=by
 have h2:(be 2 t).length=2:=ab6 2 t
 have e1:bt (aG4 a t f m) 18=f:=by
  unfold bt aG4
  rw [List.getElem?_append_right (by omega),List.getElem?_append_right (by omega),ha,h2]
  show (((aa1 f)).toNat:Int)=f
  rw [ai6]; omega
 have e2:bt (aG4 a t f m) 19=m:=by
  unfold bt aG4
  rw [List.getElem?_append_right (by omega),List.getElem?_append_right (by omega),ha,h2]
  show (((aa1 m)).toNat:Int)=m
  rw [ai6]; omega
 have e3:num (aa2 (aG4 a t f m) 16 2)=t:=by
  have:=dt7 (aG4 a t f m) 16 2
  rw [show ((16:Nat):Int)=16 from rfl,show ((2:Nat):Int)=2 from rfl] at this
  rw [this]
  unfold aG4
  rw [show List.drop 16 (a++(be 2 t++[aa1 f,aa1 m]))=be 2 t++[aa1 f,aa1 m] by rw [← ha,List.drop_left],List.take_left' h2]
  exact ci9 2 t ht.1 (by omega)
 have e4:(aG4 a t f m).take 16=a:=by unfold aG4; rw [← ha,List.take_left]
 unfold aO6
 rw [e1,e2,e3,e4]
def aq3:Bs→List Msg→Bs
 | _,[]=>[]
 | nx,m::r=>bj8 nx m++aq3 m.next r
theorem dS7 {c:Int} {b rest:Bs} {p k:Nat} {m:Msg} {acc:List Msg} (h:NgR m) (hc:m.cmd=c) (hd:b.drop p=aG4 m.prefix_ m.tag m.plen m.metric++rest):goN c b (k+1) p m.next acc=goN c b k (p+20) m.next (acc++[m])∧b.drop (p+20)=rest:=by
 have hl:=bE7 h.len m.tag m.plen m.metric
 have hp:=h.plen
 have hme:=h.metric
 have e:aa2 b p 20=aG4 m.prefix_ m.tag m.plen m.metric:=by
  rw [show (20:Int)=((20:Nat):Int) from rfl,dt7,hd,List.take_left' hl]
 have he:aO6 (aa2 b p 20)=cq9 m:=by rw [e]; exact eG1 h.len h.tag (by omega) (by omega)
 have hm:(cq9 m).metric≠255:=by show m.metric≠255; omega
 have h0:aO7 (cq9 m)=0:=by
  unfold aO7
  rw [if_neg hm,if_neg (fun q=>q h.pre),if_neg (show ¬((cq9 m).metric < 1∨16 < (cq9 m).metric) by show ¬(m.metric < 1∨16 < m.metric); omega)]
 have ho:aZ0 c m.next (cq9 m)=[m]:=by
  unfold aZ0
  rw [if_neg hm,← hc,← h.is]
 have hn:aI1 m.next (cq9 m)=m.next:=by unfold aI1; rw [if_neg hm]
 refine ⟨?_,by rw [← List.drop_drop,hd,List.drop_left' hl]⟩
 rw [goN,he,if_neg (fun q=>q h0),ho,hn]
theorem eX3 {c:Int} {b rest nx:Bs} {p k:Nat} {m:Msg} {acc:List Msg} (h:NgR m) (hd:b.drop p=aG4 m.next 0 0 255++rest):goN c b (k+1) p nx acc=goN c b k (p+20) m.next acc∧b.drop (p+20)=rest:=by
 have hl:=bE7 h.next16 0 0 255
 have e:aa2 b p 20=aG4 m.next 0 0 255:=by
  rw [show (20:Int)=((20:Nat):Int) from rfl,dt7,hd,List.take_left' hl]
 have he:aO6 (aa2 b p 20)=⟨0,0,m.next,[],[],255⟩:=by rw [e]; exact eG1 h.next16 (by omega) (by omega) (by omega)
 have h0:aO7 ⟨0,0,m.next,[],[],255⟩=0:=by unfold aO7; rw [if_pos rfl,if_pos ⟨rfl,rfl⟩]
 have ho:aZ0 c nx ⟨0,0,m.next,[],[],255⟩=[]:=by unfold aZ0; rw [if_pos rfl]
 have hn:aI1 nx ⟨0,0,m.next,[],[],255⟩=m.next:=by
  unfold aI1
  rw [if_pos rfl]
  rcases h.next with q | q
  ·dsimp only; rw [q]; split <;> rfl
  ·exact if_pos q
 refine ⟨?_,by rw [← List.drop_drop,hd,List.drop_left' hl]⟩
 rw [goN,he,if_neg (fun q=>q h0),ho,hn,List.append_nil]
theorem dF2:∀ {l:List Msg} {nx:Bs},(∀ m∈l,NgR m)→∃ k,(aq3 nx l).length=20 * k∧l.length≤k
 | [],_,_=>⟨0,rfl,Nat.le_refl _⟩
 | m::r,nx,h=>by
  obtain ⟨k,hk,hr⟩:=dF2 (nx:=m.next) fun x hx=>h x (List.mem_cons_of_mem _ hx)
  have:=dd6 (nx:=nx) (h m (List.mem_cons_self ..))
  by_cases hn:m.next=nx
  ·rw [if_pos hn] at this
   exact ⟨k+1,by unfold aq3; rw [List.length_append,this,hk]; omega,by simp; omega⟩
  ·rw [if_neg hn] at this
   exact ⟨k+2,by unfold aq3; rw [List.length_append,this,hk]; omega,by simp; omega⟩
theorem eG2 {c:Int} {b:Bs}:∀ (l:List Msg) (k p:Nat) (nx:Bs) (acc:List Msg),b.drop p=aq3 nx l→p+20 * k=b.length→(∀ m∈l,NgR m∧m.cmd=c)→
  goN c b k p nx acc=if acc++l=[] then ([],(b.length:Int),8) else (acc++l,0,0):=by
 intro l
 induction l with
 | nil=>
  intro k p nx acc hd hk _
  have:=congrArg List.length hd
  rw [List.length_drop] at this
  have hk0:k=0:=by unfold aq3 at this; simp at this; omega
  subst hk0
  rw [goN,List.append_nil]
 | cons m r ih=>
  intro k p nx acc hd hk h
  obtain ⟨hm,hc⟩:=h m (List.mem_cons_self ..)
  have hlen:=congrArg List.length hd
  rw [List.length_drop] at hlen
  unfold aq3 at hd hlen
  rw [List.length_append,dd6 hm] at hlen
  have hr:=fun x hx=>h x (List.mem_cons_of_mem _ hx)
  have e:acc++m::r=(acc++[m])++r:=by simp
  unfold bj8 ex0 at hd
  by_cases hn:m.next=nx
  ·rw [if_pos hn] at hd hlen
   obtain ⟨k,rfl⟩:∃ j,k=j+1:=⟨k - 1,by omega⟩
   obtain ⟨h1,h2⟩:=dS7 (k:=k) (acc:=acc) hm hc hd
   rw [← hn,h1,ih k (p+20) m.next (acc++[m]) h2 (by omega) hr,e]
  ·rw [if_neg hn] at hd hlen
   obtain ⟨k,rfl⟩:∃ j,k=j+2:=⟨k - 2,by omega⟩
   rw [List.append_assoc] at hd
   obtain ⟨h1,h2⟩:=eX3 (c:=c) (nx:=nx) (k:=k+1) (acc:=acc) hm hd
   obtain ⟨h3,h4⟩:=dS7 (k:=k) (acc:=acc) hm hc h2
   rw [h1,h3,ih k (p+20+20) m.next (acc++[m]) h4 (by omega) hr,e]
theorem ep4 {c:Int}:∀ {l:List Msg} {i:Nat} {acc nx:Bs},(bE8 c l i acc nx).2.2=0→(∀ m∈l,m.cmd=c)∧bE8 c l i acc nx=(acc++aq3 nx l,0,0)∧(acc.length≤65535→(acc++aq3 nx l).length≤65535)
 | [],i,acc,nx,_=>⟨(fun m hm=>by cases hm),by simp [bE8,aq3],by simp [aq3]⟩
 | m::r,i,acc,nx,h=>by
  unfold bE8 at h ⊢
  by_cases h1:m.cmd≠c
  ·rw [if_pos h1] at h; cases h
  by_cases h2:65535 < (acc++bj8 nx m).length
  ·rw [if_neg h1,if_pos h2] at h; cases h
  rw [if_neg h1,if_neg h2] at h ⊢
  obtain ⟨k1,k2,k3⟩:=ep4 h
  rw [List.append_assoc] at k2 k3
  exact ⟨fun x hx=>by rcases List.mem_cons.1 hx with rfl | hx; exact Classical.byContradiction h1; exact k1 x hx,k2,fun _=>k3 (by omega)⟩
theorem dS8 {c:Int}:∀ {l:List Msg} {i:Nat} {acc nx:Bs},(∀ m∈l,m.cmd=c)→(acc++aq3 nx l).length≤65535→bE8 c l i acc nx=(acc++aq3 nx l,0,0)
 | [],i,acc,nx,_,_=>by simp [bE8,aq3]
 | m::r,i,acc,nx,h,hl=>by
  unfold aq3 at hl ⊢
  rw [← List.append_assoc] at hl ⊢
  unfold bE8
  rw [if_neg (fun q=>q (h m (List.mem_cons_self ..))),if_neg (by rw [List.length_append] at hl; omega)]
  exact dS8 (fun x hx=>h x (List.mem_cons_of_mem _ hx)) hl
theorem eN8 {l:List Msg} (h:(aO8 l).2.2=0):(∀ m∈l,NgR m)∧l≠[]:=by
 unfold aO8 at h
 split at h
 ·cases h
 ·rename_i hb
  cases l with
  | nil=>cases h
  | cons f r=>exact ⟨fun m hm=>bE6.1 (aZ1 hb m hm),by simp⟩
theorem eS2 {f:Msg} {r:List Msg} (h:∀ m∈f::r,NgR m):aO8 (f::r)=bE8 f.cmd (f::r) 0 [aa1 f.cmd,1,0,0] z16:=by
 unfold aO8
 rw [dN8 fun m hm=>bE6.2 (h m hm)]
theorem ex3 {c:Int} {x:Bs} {k:Nat} (hc:c=1∨c=2) (hx:x.length=20 * k) (hl:4+x.length≤65535):aw0 ([aa1 c,1,0,0]++x)=(0,0)∧bt ([aa1 c,1,0,0]++x) 0=c:=by
 have e0:bt ([aa1 c,1,0,0]++x) 0=c:=by
  show ((aa1 c).toNat:Int)=c
  rw [ai6]; omega
 have e1:bt ([aa1 c,1,0,0]++x) 1=1:=rfl
 have e2:bt ([aa1 c,1,0,0]++x) 2=0:=rfl
 have e3:bt ([aa1 c,1,0,0]++x) 3=0:=rfl
 have hL:([aa1 c,1,0,0]++x).length=4+x.length:=by simp; omega
 refine ⟨?_,e0⟩
 unfold aw0
 rw [hL,e0,e1,e2,e3,if_neg (by omega),if_neg (by omega),if_neg (by omega),if_neg (by omega),if_neg (by omega),if_neg (by omega)]
theorem eX4 {l:List Msg} (h:(aO8 l).2.2=0):as4 (aO8 l).1=(l,0,0)∧(aO8 l).1.length≤65535:=by
 obtain ⟨hr,hne⟩:=eN8 h
 cases l with
 | nil=>exact absurd rfl hne
 | cons f r=>
  rw [eS2 hr] at h ⊢
  obtain ⟨h1,h2,h3⟩:=ep4 h
  have h3:=h3 (by simp)
  rw [h2]
  dsimp only
  obtain ⟨k,hk,_⟩:=dF2 (nx:=z16) hr
  rw [List.length_append] at h3
  obtain ⟨g1,g2⟩:=ex3 (hr f (by simp)).cmd hk (by simp at h3; omega)
  have hL:([aa1 f.cmd,1,0,0]++aq3 z16 (f::r)).length=4+20 * k:=by rw [List.length_append,hk]; rfl
  refine ⟨?_,by rw [List.length_append]; exact h3⟩
  unfold as4
  rw [g1,g2,if_neg (by simp),hL,show (4+20 * k - 4) / 20=k by omega]
  have:=eG2 (c:=f.cmd) (b:=[aa1 f.cmd,1,0,0]++aq3 z16 (f::r)) (f::r) k 4 z16 [] rfl (by rw [hL]) (fun m hm=>⟨hr m hm,h1 m hm⟩)
  rw [this,if_neg (by simp)]
  rfl
theorem ep5 {c:Int} {b:Bs}:∀ {k p:Nat} {nx:Bs} {acc:List Msg},p+20 * k=b.length→(goN c b k p nx acc).2.2≠0→(goN c b k p nx acc).1=[]∧0≤(goN c b k p nx acc).2.1∧(goN c b k p nx acc).2.1≤b.length
 | 0,p,nx,acc,hk,h=>by
  unfold goN at h ⊢
  by_cases q:acc=[]
  ·rw [if_pos q]; simp
  ·rw [if_neg q] at h; exact absurd rfl h
 | k+1,p,nx,acc,hk,h=>by
  unfold goN at h ⊢
  by_cases q:aO7 (aO6 (aa2 b p 20))≠0
  ·rw [if_pos q]; simp; omega
  ·rw [if_neg q] at h ⊢
   exact ep5 (by omega) h
theorem em0 {b:Bs} (h:(as4 b).2.2≠0):(as4 b).1=[]∧0≤(as4 b).2.1∧(as4 b).2.1≤b.length:=by
 unfold as4 at h ⊢
 by_cases q:(aw0 b).2≠0
 ·rw [if_pos q]; exact ⟨rfl,el9⟩
 ·rw [if_neg q] at h ⊢
  obtain ⟨h1,h2,_,_,_,_,h7⟩:=dt5 (Classical.byContradiction q)
  exact ep5 (by omega) h
theorem eh7 {c:Int} {b:Bs} (hc:c=1∨c=2):∀ {k p:Nat} {nx:Bs} {acc:List Msg},p+20 * k=b.length→(nx=z16∨aj0 nx=true)→(goN c b k p nx acc).2.2=0→(goN c b k p nx acc).2.1=0∧∃ l,(goN c b k p nx acc).1=acc++l∧acc++l≠[]∧(∀ m∈l,NgR m∧m.cmd=c)∧l.length≤k∧
  ∀ nx',(aq3 nx' l).length≤20 * k+if nx'=nx then 0 else 20
 | 0,p,nx,acc,hk,hn,h=>by
  unfold goN at h ⊢
  by_cases q:acc=[]
  ·rw [if_pos q] at h; cases h
  ·rw [if_neg q]; exact ⟨rfl,[],by simp,by simpa using q,(fun m hm=>by cases hm),Nat.le_refl _,fun nx'=>by simp [aq3]⟩
 | k+1,p,nx,acc,hk,hn,h=>by
  unfold goN at h ⊢
  by_cases q:aO7 (aO6 (aa2 b p 20))≠0
  ·rw [if_pos q] at h; exact absurd h q
  ·rw [if_neg q] at h ⊢
   have q0:aO7 (aO6 (aa2 b p 20))=0:=Classical.byContradiction q
   have hl:(aa2 b p 20).length=20:=aA4 (n:=20) (by omega)
   have he:=ep3 hl
   generalize aO6 (aa2 b p 20)=e at *
   by_cases hm:e.metric=255
   ·have ho:aZ0 c nx e=[]:=by unfold aZ0; rw [if_pos hm]
    have hn':aI1 nx e=z16∨aj0 (aI1 nx e)=true:=by
     unfold aI1
     rw [if_pos hm]
     split
     ·exact .inr (by assumption)
     ·exact .inl rfl
    rw [ho,List.append_nil] at h ⊢
    obtain ⟨k0,l,k1,k2,k3,k4,k5⟩:=eh7 hc (by omega) hn' h
    refine ⟨k0,l,k1,k2,k3,by omega,fun nx'=>?_⟩
    have:=k5 nx'
    split at this <;> split <;> omega
   ·have ho:aZ0 c nx e=[bT6 c nx e]:=by unfold aZ0; rw [if_neg hm]
    have hnn:aI1 nx e=nx:=by unfold aI1; rw [if_neg hm]
    rw [ho,hnn] at h ⊢
    obtain ⟨k0,l,k1,k2,k3,k4,k5⟩:=eh7 hc (by omega) hn h
    have hr:=eX2 hc hn he q0 hm
    refine ⟨k0,bT6 c nx e::l,by rw [k1]; simp,by simp,fun m hmm=>?_,by simp; omega,fun nx'=>?_⟩
    ·rcases List.mem_cons.1 hmm with rfl | hmm
     ·exact ⟨hr,rfl⟩
     ·exact k3 m hmm
    ·have h1:=k5 nx
     rw [if_pos rfl] at h1
     have h2:=dd6 (nx:=nx') hr
     have e1:(bT6 c nx e).next=nx:=rfl
     unfold aq3
     rw [List.length_append,h2,e1]
     by_cases q3:nx'=nx
     ·rw [if_pos q3.symm,if_pos q3]; omega
     ·rw [if_neg (fun q=>q3 q.symm),if_neg q3]; omega
theorem eN9 {b:Bs} (h:(as4 b).2.2=0):(as4 b).2.1=0∧(∀ m∈(as4 b).1,NgR m)∧(as4 b).1≠[]∧(as4 b).1.length≤3277∧(aO8 (as4 b).1).2.2=0∧(aO8 (as4 b).1).1.length≤b.length:=by
 unfold as4 at h ⊢
 by_cases q:(aw0 b).2≠0
 ·rw [if_pos q] at h; exact absurd h q
 ·rw [if_neg q] at h ⊢
  obtain ⟨h1,h2,h3,_,_,_,h7⟩:=dt5 (Classical.byContradiction q)
  obtain ⟨k0,l,k1,k2,k3,k4,k5⟩:=eh7 h3 (by omega) (.inl rfl) h
  rw [List.nil_append] at k1 k2
  rw [k1]
  have hr:∀ m∈l,NgR m:=fun m hm=>(k3 m hm).1
  have:=k5 z16
  rw [if_pos rfl] at this
  refine ⟨k0,hr,k2,by omega,?_⟩
  cases l with
  | nil=>exact absurd rfl k2
  | cons f r=>
   have hf:=(k3 f (by simp)).2
   rw [eS2 hr,dS8 (fun m hm=>by rw [(k3 m hm).2,hf]) (by rw [List.length_append]; simp; omega)]
   exact ⟨rfl,by rw [List.length_append]; simp; omega⟩
end Go.VP
