import Derived.Test.YtiaaooopklhobaaGreatDoorG7
abbrev Jez := Jc
abbrev JeA := JX
