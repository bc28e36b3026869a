import Derived.Test.YtiaaooopklhobaaGreatDoorG7
abbrev JeE := Jc
abbrev JeF := J5
